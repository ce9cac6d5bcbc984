/- corepoint.near, Near. -/
import Derived.Test.YtkhmfgkbobblmaaGreatDoorNear
import Derived.Test.YtkhmfgkbobblmaaGreatDoorMkR
namespace Go.Proofs.YtkhmfgkbobblmaaGreatDoor
open Go.RowKit Go.Lib

theorem fl1 {w : World} {g : Nat} {b : Bool} {A : Option Addr} {n c : Nat} {b' : Bool} {A' : Option Addr} {n' c' : Nat} {q : Rat} (h : Blk w g tFrac [.bool b, .slice A n c, .bool b', .slice A' n' c']) (hv : FracV w (.agg #[.bool b, .slice A n c, .bool b', .slice A' n' c']) q) : FL w (.slice (some ⟨g, 0, none⟩) 1 1) [q] :=
  ⟨some ⟨g, 0, none⟩, 1, [.bool b, .slice A n c, .bool b', .slice A' n' c'], rfl, Nat.le_refl _, by unfold maxLen; omega, (fun h => by cases h), h.sl 0, ⟨_, [], rfl, ⟨b, A, n, c, b', A', n', c', rfl, hv⟩, rfl⟩⟩
/-- numbers as places -/
def pts (l : List Rat) : List (List Rat) := l.map fun y => [y]
theorem pts_length (l : List Rat) : (pts l).length = l.length := List.length_map _
theorem pts_get {l : List Rat} {k : Nat} (h : k < l.length) : (pts l)[k]'(by rw [pts_length]; exact h) = [l[k]] := by simp [pts]
theorem pts_next {x : Rat} {l : List Rat} {k : Nat} (h : k < l.length) : near [x] ((pts l).take (k + 1)) = nearer (near [x] ((pts l).take k)) k (dist [x] [l[k]]) := by
  rw [near_next (by rw [pts_length]; exact h), pts_get h]
theorem pts_fit {x : Rat} {l : List Rat} (fx : FitQ 400 x) (fl : ∀ q ∈ l, FitQ 400 q) (k : Nat) (hk : k ≤ l.length) : FitQ 5000 (near [x] ((pts l).take k)).2 := by
  refine near_fit (p := [x]) (cs := pts l) ?_ (by simp) ?_ ?_ k (by rw [pts_length]; exact hk)
  · intro c hc
    obtain ⟨y, _, rfl⟩ := List.mem_map.1 hc
    rfl
  · intro q hq
    rw [List.mem_singleton.1 hq]
    exact fx
  · intro c hc q hq
    obtain ⟨y, hy, rfl⟩ := List.mem_map.1 hc
    rw [List.mem_singleton.1 hq]
    exact fl y hy
set_option maxRecDepth 100000 in
set_option maxHeartbeats 2000000 in
theorem cnear_any (vl : Value) (l : List Rat) (b : Bool) (A : Option Addr) (n c : Nat) (b' : Bool) (A' : Option Addr) (n' c' : Nat) (x : Rat) (w : World) (hl : FL w vl l) (hx : FracV w (.agg #[.bool b, .slice A n c, .bool b', .slice A' n' c']) x) (fl : ∀ q ∈ l, FitQ 400 q) (fx : FitQ 400 x) :
    Calls Tryz.prog 46 #[vl, .agg #[.bool b, .slice A n c, .bool b', .slice A' n' c']] w fun e w' => e = .returned (.int .i64 (near [x] (pts l)).1) ∧ Ext w w' := by
  obtain ⟨B, cb, rfl, _, hcb, HB⟩ := hl.parts
  have hcb : cb ≤ 9223372036854775807 := by unfold maxLen at hcb; omega
  have HFL := Lib.hid fl
  have HFX := Lib.hid fx
  have HVX := Lib.hid hx
  clear hl fl fx hx
  go_enter Tryz.func46, Tryz.ntmps46
  go_wp2_with fail
  refine box1 (P := fun W => Calls _ _ _ W _) fun W0 HX0 BR => ?_
  refine (xzero_any W0).mono ?_
  rintro e w1 ⟨v1, rfl, hv1, hx1⟩
  obtain ⟨a0, A0, a1, a2, b0, B0, b1, b2, rfl, _, _⟩ := hv1.parts
  go_wp2_with fail
  refine newbox (P := fun W => Code.wp _ _ _ _ W) hv1 fun W HX HB1 hsz => ?_
  have BR1 := Lib.hid (BR.out.ext (hx1.trans HX.out))
  have HX1 := Lib.hid (HX0.out.trans (hx1.trans HX.out))
  have hg : w.heap.size < w1.heap.size := Nat.lt_of_lt_of_le BR.out.lt hx1.size
  have HB0 : Hid (Box W w1.heap.size (near [x] ((pts l).take 0)).2) := HB1
  clear hx1 hv1 HX0 HX BR HB1
  go_loopw [5, 7, 8, 9, 13] (fun v5 _ _ _ v13 wr => ∃ k : Nat, k ≤ l.length ∧ v13 = .int .i64 k ∧ v5 = .int .i64 (near [x] ((pts l).take k)).1 ∧ Hid (Box wr w1.heap.size (near [x] ((pts l).take k)).2) ∧ Hid (Blk wr w.heap.size tFrac [.bool b, .slice A n c, .bool b', .slice A' n' c']) ∧ Hid (Ext w wr)) (fun _ _ _ _ v13 _ => l.length - (RowKit.intOf v13).toNat)
  case atStart => exact ⟨0, Nat.zero_le _, rfl, rfl, HB0, BR1, HX1⟩
  case round =>
    obtain ⟨k, hk, rfl, rfl, HBS, HBR, HXS⟩ := hrel
    by_cases hkl : k < l.length
    · have HNX := Lib.hid (pts_next (x := x) hkl)
      have FS := Lib.hid (pts_fit HFX.out HFL.out k hk)
      have FY := HFL.out _ (List.getElem_mem hkl)
      have FD := Lib.hid (dist_fit (a := [x]) (b := [l[k]]) rfl (by simp) (fun q hq => by rw [List.mem_singleton.1 hq]; exact HFX.out) (fun q hq => by rw [List.mem_singleton.1 hq]; exact FY))
      have HR := Lib.hid (near_lt [x] (pts l) k (by rw [pts_length]; exact hk))
      have HDI := Lib.hid (fun va vb w' ha hb => xdist_any va vb [x] [l[k]'hkl] w' ha hb rfl (by simp) (fun q hq => by rw [List.mem_singleton.1 hq]; exact HFX.out) (fun q hq => by rw [List.mem_singleton.1 hq]; exact FY))
      obtain ⟨g1, o1, s0, S0, s1, s2, t0, T0, t1, t2, rfl, _, HVY, q0, q1, q2, q3⟩ := FL.get (FL.ext HB.out HXS.out) hkl
      have hgs : w1.heap.size < wr.heap.size := HBS.out.lt
      clear FY
      generalize l[k] = y at *
      generalize near [x] ((pts l).take k) = nb at *
      obtain ⟨ni, nd⟩ := nb
      simp only at HNX FS HR HBS
      generalize hdd : dist [x] [y] = dd at *
      clear hdd
      go_upto_region 5 with fail
      refine newbox (P := fun W => Code.wp _ _ _ _ W) HVY.out fun wa HXA BY hsz => ?_
      have HBSa := Lib.hid (HBS.out.ext HXA.out)
      have HBRa := Lib.hid (HBR.out.ext HXA.out)
      have HXa := Lib.hid (HXS.out.trans HXA.out)
      have HVXa := Lib.hid (HVX.out.ext HXa.out)
      obtain ⟨e0, E0, e1, e2, u0, U0, u1, u2, BYb, VYb⟩ := BY.out.parts
      obtain ⟨k0, k1, k2, k3⟩ := HBRa.out.four
      obtain ⟨j0, j1, j2, j3⟩ := BYb.out.four
      clear q0 q1 q2 q3 HBS HBR HXS BY HXA hsz HVY
      have hwa : wr.heap.size < wa.heap.size := BYb.out.lt
      go_wp2_with fail
      refine box2 (P := fun W => Calls _ _ _ W _) fun wb HXB BA BB => ?_
      refine (HDI.out _ _ wb (fl1 BA.out (HVXa.out.ext HXB.out)) (fl1 BB.out (VYb.out.ext HXB.out))).mono ?_
      rintro e W3 ⟨v3, rfl, hv3, hx3⟩
      have hy3 := HXB.out.trans hx3
      obtain ⟨a0, A0, a1, a2, b0, B0, b1, b2, rfl, _, _⟩ := hv3.parts
      clear k0 k1 k2 k3 j0 j1 j2 j3 BA BB
      go_upto_region 6 with fail
      refine newbox (P := fun W => Code.wp _ _ _ _ W) hv3 fun wq HXN BX2 hsz => ?_
      have BX1 := Lib.hid (HBSa.out.ext (hy3.trans HXN.out))
      have BRQ := Lib.hid (HBRa.out.ext (hy3.trans HXN.out))
      have HXQ := Lib.hid (HXa.out.trans (hy3.trans HXN.out))
      have hw3 := hy3.size
      have hga : w1.heap.size < wa.heap.size := HBSa.out.lt
      clear hx3 hy3 hv3 HXN HDI HBSa HBRa HXB
      by_cases hneg : ni < 0
      · have HMT := Lib.hid (HNX.out.trans (nearer_pos (Or.inl hneg)))
        have hd1 : decide (ni < 0) = true := decide_eq_true hneg
        clear hneg
        obtain ⟨x0, X0, x1, x2, y0, Y0, y1, y2, BS, VS⟩ := BX1.out.parts
        obtain ⟨z0, Z0, z1, z2, t0, T0, t1, t2, BD, VD⟩ := BX2.out.parts
        go_upto_region 7 with fail
        obtain ⟨S, hSd⟩ : ∃ S : World → Prop, S = fun w' => (w'.cell? ⟨W3.heap.size, 0, none⟩ = some (.bool z0) ∧ w'.cell? ⟨W3.heap.size, 0 + 1, none⟩ = some (.slice Z0 z1 z2) ∧ w'.cell? ⟨W3.heap.size, 0 + 2, none⟩ = some (.bool t0) ∧ w'.cell? ⟨W3.heap.size, 0 + 3, none⟩ = some (.slice T0 t1 t2)) := ⟨_, rfl⟩
        have HSI : Hid (∀ w', S w' → (w'.cell? ⟨W3.heap.size, 0, none⟩ = some (.bool z0) ∧ w'.cell? ⟨W3.heap.size, 0 + 1, none⟩ = some (.slice Z0 z1 z2) ∧ w'.cell? ⟨W3.heap.size, 0 + 2, none⟩ = some (.bool t0) ∧ w'.cell? ⟨W3.heap.size, 0 + 3, none⟩ = some (.slice T0 t1 t2))) := by rw [Hid, hSd]; exact fun _ h => h
        have HS0 : Hid (S wq.drew) := by rw [Hid, hSd]; exact (BD.out.ext (Ext.refl wq).drew).four
        clear hSd
        have BS4 := Lib.hid (BS.out.ext (Ext.refl wq).drew)
        obtain ⟨W', hW', HBN, HKN, HE, HON⟩ := Box.put BS4.out (VD.out.ext (Ext.refl wq).drew) (HXQ.out.drew) (by omega)
        have HW := Lib.hid hW'
        have BRN := Lib.hid ((BRQ.out.ext (Ext.refl wq).drew).only HON.out (by omega))
        clear hW'
        refine AnyT.start (S := S) (T := fun j => decide (3 ≤ j)) (by kernel_rfl) ?_
        refine AnyT.load 0 31 (.int .i64 k) rfl (by kernel_rfl) (by kernel_rfl) (by kernel_rfl) (by kernel_rfl) (by kernel_rfl) (fun _ _ _ h => h) HS0.out ?_ ?_
        · intro o ho
          simp only [List.getElem?_toArray, List.getElem?_cons_zero, Option.some.injEq] at ho
          subst ho
          refine ⟨rfl, rfl, fun w' hSw => ?_⟩
          have hs := HSI.out w' hSw
          go_split_ands
          go_simp
        simp only [Act.put, List.setIfInBounds_toArray, List.set_cons_zero, List.set_cons_succ]
        refine AnyT.load 1 32 (.agg #[.bool z0, .slice Z0 z1 z2, .bool t0, .slice T0 t1 t2]) rfl (by kernel_rfl) (by kernel_rfl) (by kernel_rfl) (by kernel_rfl) (by kernel_rfl) (fun _ _ _ h => h) HS0.out ?_ ?_
        · intro o ho
          simp only [List.getElem?_toArray, List.getElem?_cons_succ, List.getElem?_cons_zero, Option.some.injEq] at ho
          subst ho
          refine ⟨rfl, rfl, fun w' hSw => ?_⟩
          have hs := HSI.out w' hSw
          go_split_ands
          go_simp
        simp only [Act.put, List.setIfInBounds_toArray, List.set_cons_zero, List.set_cons_succ]
        refine AnyT.step 2 (by kernel_rfl) ?_
        intro o ho K hK
        simp only [List.getElem?_toArray, List.getElem?_cons_succ, List.getElem?_cons_zero, Option.some.injEq] at ho
        subst ho
        go_simp
        refine hK.out _ _ (fun _ => HS0.out) ?_
        obtain ⟨W5, hW5⟩ : ∃ W5 : World, wq.drew = W5 := ⟨_, rfl⟩
        rw [hW5] at BS4 HW ⊢
        clear hW5
        obtain ⟨k0, k1, k2, k3⟩ := BS4.out.four
        obtain ⟨f0, f1, f2, f3⟩ := BS4.out.free4
        refine AnyT.step 3 (by kernel_rfl) ?_
        intro o ho K hK
        simp only [List.getElem?_toArray, List.getElem?_cons_succ, List.getElem?_cons_zero, Option.some.injEq] at ho
        subst ho
        go_simp
        refine hK.out _ _ (fun h => by cases h) ?_
        refine AnyT.done (by kernel_rfl) ?_
        rw [HW.out]
        clear k0 k1 k2 k3 f0 f1 f2 f3
        go_wp2_with fail
        go_roundw
        case rel => exact ⟨k + 1, by omega, by go_num, by rw [HMT.out], by rw [HMT.out]; exact HBN, BRN, HE⟩
        case measure => simp [RowKit.intOf]; omega
      · have hd1 : decide (ni < 0) = false := decide_eq_false hneg
        obtain ⟨x0, X0, x1, x2, y0, Y0, y1, y2, BS, VS⟩ := BX1.out.parts
        obtain ⟨z0, Z0, z1, z2, t0, T0, t1, t2, BD, VD⟩ := BX2.out.parts
        obtain ⟨k0, k1, k2, k3⟩ := BS.out.four
        obtain ⟨j0, j1, j2, j3⟩ := BD.out.four
        go_wp2_with fail
        refine (fcompare_any _ _ dd nd _ VD.out VS.out FD.out FS.out (by decide)).mono ?_
        rintro e w5 ⟨rfl, hx5⟩
        have BX1 := Lib.hid (BX1.out.ext hx5)
        have BX2 := Lib.hid (BX2.out.ext hx5)
        have BRQ := Lib.hid (BRQ.out.ext hx5)
        have HXQ := Lib.hid (HXQ.out.trans hx5)
        have hsz : W3.heap.size < w5.heap.size := by have := hx5.size; omega
        clear hx5 k0 k1 k2 k3 j0 j1 j2 j3 BS VS BD VD
        generalize wq = wq0 at *
        generalize w5 = wq at *
        by_cases hlt : dd < nd
        · have HMT := Lib.hid (HNX.out.trans (nearer_pos (Or.inr hlt)))
          have hd2 : decide (cmpQ dd nd < 0) = true := decide_eq_true (cmpQ_lt.2 hlt)
          clear hlt hneg
          generalize cmpQ dd nd = cq at *
          obtain ⟨x0, X0, x1, x2, y0, Y0, y1, y2, BS, VS⟩ := BX1.out.parts
          obtain ⟨z0, Z0, z1, z2, t0, T0, t1, t2, BD, VD⟩ := BX2.out.parts
          go_upto_region 7 with fail
          obtain ⟨S, hSd⟩ : ∃ S : World → Prop, S = fun w' => (w'.cell? ⟨W3.heap.size, 0, none⟩ = some (.bool z0) ∧ w'.cell? ⟨W3.heap.size, 0 + 1, none⟩ = some (.slice Z0 z1 z2) ∧ w'.cell? ⟨W3.heap.size, 0 + 2, none⟩ = some (.bool t0) ∧ w'.cell? ⟨W3.heap.size, 0 + 3, none⟩ = some (.slice T0 t1 t2)) := ⟨_, rfl⟩
          have HSI : Hid (∀ w', S w' → (w'.cell? ⟨W3.heap.size, 0, none⟩ = some (.bool z0) ∧ w'.cell? ⟨W3.heap.size, 0 + 1, none⟩ = some (.slice Z0 z1 z2) ∧ w'.cell? ⟨W3.heap.size, 0 + 2, none⟩ = some (.bool t0) ∧ w'.cell? ⟨W3.heap.size, 0 + 3, none⟩ = some (.slice T0 t1 t2))) := by rw [Hid, hSd]; exact fun _ h => h
          have HS0 : Hid (S wq.drew) := by rw [Hid, hSd]; exact (BD.out.ext (Ext.refl wq).drew).four
          clear hSd
          have BS4 := Lib.hid (BS.out.ext (Ext.refl wq).drew)
          obtain ⟨W', hW', HBN, HKN, HE, HON⟩ := Box.put BS4.out (VD.out.ext (Ext.refl wq).drew) (HXQ.out.drew) (by omega)
          have HW := Lib.hid hW'
          have BRN := Lib.hid ((BRQ.out.ext (Ext.refl wq).drew).only HON.out (by omega))
          clear hW'
          refine AnyT.start (S := S) (T := fun j => decide (3 ≤ j)) (by kernel_rfl) ?_
          refine AnyT.load 0 31 (.int .i64 k) rfl (by kernel_rfl) (by kernel_rfl) (by kernel_rfl) (by kernel_rfl) (by kernel_rfl) (fun _ _ _ h => h) HS0.out ?_ ?_
          · intro o ho
            simp only [List.getElem?_toArray, List.getElem?_cons_zero, Option.some.injEq] at ho
            subst ho
            refine ⟨rfl, rfl, fun w' hSw => ?_⟩
            have hs := HSI.out w' hSw
            go_split_ands
            go_simp
          simp only [Act.put, List.setIfInBounds_toArray, List.set_cons_zero, List.set_cons_succ]
          refine AnyT.load 1 32 (.agg #[.bool z0, .slice Z0 z1 z2, .bool t0, .slice T0 t1 t2]) rfl (by kernel_rfl) (by kernel_rfl) (by kernel_rfl) (by kernel_rfl) (by kernel_rfl) (fun _ _ _ h => h) HS0.out ?_ ?_
          · intro o ho
            simp only [List.getElem?_toArray, List.getElem?_cons_succ, List.getElem?_cons_zero, Option.some.injEq] at ho
            subst ho
            refine ⟨rfl, rfl, fun w' hSw => ?_⟩
            have hs := HSI.out w' hSw
            go_split_ands
            go_simp
          simp only [Act.put, List.setIfInBounds_toArray, List.set_cons_zero, List.set_cons_succ]
          refine AnyT.step 2 (by kernel_rfl) ?_
          intro o ho K hK
          simp only [List.getElem?_toArray, List.getElem?_cons_succ, List.getElem?_cons_zero, Option.some.injEq] at ho
          subst ho
          go_simp
          refine hK.out _ _ (fun _ => HS0.out) ?_
          obtain ⟨W5, hW5⟩ : ∃ W5 : World, wq.drew = W5 := ⟨_, rfl⟩
          rw [hW5] at BS4 HW ⊢
          clear hW5
          obtain ⟨k0, k1, k2, k3⟩ := BS4.out.four
          obtain ⟨f0, f1, f2, f3⟩ := BS4.out.free4
          refine AnyT.step 3 (by kernel_rfl) ?_
          intro o ho K hK
          simp only [List.getElem?_toArray, List.getElem?_cons_succ, List.getElem?_cons_zero, Option.some.injEq] at ho
          subst ho
          go_simp
          refine hK.out _ _ (fun h => by cases h) ?_
          refine AnyT.done (by kernel_rfl) ?_
          rw [HW.out]
          clear k0 k1 k2 k3 f0 f1 f2 f3
          go_wp2_with fail
          go_roundw
          case rel => exact ⟨k + 1, by omega, by go_num, by rw [HMT.out], by rw [HMT.out]; exact HBN, BRN, HE⟩
          case measure => simp [RowKit.intOf]; omega
        · have HMT := Lib.hid (HNX.out.trans (nearer_neg (fun h => h.elim (fun h => absurd h (by show ¬ ni < 0; omega)) hlt)))
          have hd2 : decide (cmpQ dd nd < 0) = false := decide_eq_false (fun h => hlt (cmpQ_lt.1 h))
          clear hlt hneg
          generalize cmpQ dd nd = cq at *
          go_wp2_with fail
          go_roundw
          case rel => exact ⟨k + 1, by omega, by go_num, by rw [HMT.out], by rw [HMT.out]; exact BX1, BRQ, HXQ⟩
          case measure => simp [RowKit.intOf]; omega
    · obtain rfl : k = l.length := by omega
      have HPT : Hid ((pts l).take l.length = pts l) := List.take_of_length_le (by rw [pts_length]; exact Nat.le_refl _)
      go_wp2
      go_ret
      exact ⟨ret_int (by rw [HPT.out]), HXS.out⟩
set_option maxRecDepth 100000 in
set_option maxHeartbeats 2000000 in
theorem cNear_any (vl : Value) (l : List Rat) (x : Rat) (w : World) (hl : RL w vl l) (fl : ∀ q ∈ l, FitQ 400 q) (fx : FitQ 400 x) (hn : l.length ≤ 1000) :
    Calls Tryz.prog 22 #[vl, .string ⟨(ratText x).toArray⟩] w fun e w' => e = .returned (.int .i64 (near [x] (pts l)).1) ∧ Ext w w' := by
  have HL := Lib.hid hl
  have HF := Lib.hid fl
  have HFX := Lib.hid fx
  have RV := Lib.hid (fun w' => rvalid_any x w' fx)
  have RD := Lib.hid (fun w' => xread_any x w' fx)
  generalize ratText x = tx at *
  clear hl fl fx
  go_enter Tryz.func22, Tryz.ntmps22
  go_wp2_with fail
  refine (xvalid_any _ l w HL.out HF.out).mono ?_
  rintro e w1 ⟨rfl, hx1⟩
  go_wp2_with fail
  refine (RV.out w1).mono ?_
  rintro e w2 ⟨rfl, hx2⟩
  have HX2 := Lib.hid (hx1.trans hx2)
  clear hx1 hx2
  go_wp2_with fail
  refine (xlist_any _ l w2 (RL.ext HL.out HX2.out) HF.out hn).mono ?_
  rintro e w3 ⟨v3, rfl, hv3, hx3⟩
  have HX3 := Lib.hid (HX2.out.trans hx3)
  have HV3 := Lib.hid hv3
  clear hx3 HX2 hv3
  go_wp2_with fail
  refine (RD.out w3).mono ?_
  rintro e w4 ⟨v4, rfl, hv4, hx4⟩
  obtain ⟨a0, A0, a1, a2, b0, B0, b1, b2, rfl, _, _⟩ := hv4.parts
  have HX4 := Lib.hid (HX3.out.trans hx4)
  have HV34 := Lib.hid (FL.ext HV3.out hx4)
  have HV4 := Lib.hid hv4
  clear hx4 HX3 HV3 hv4
  go_wp2_with fail
  refine (cnear_any _ l _ _ _ _ _ _ _ _ x w4 HV34.out HV4.out HF.out HFX.out).mono ?_
  rintro e w5 ⟨rfl, hx5⟩
  go_wp2
  go_ret
  exact ⟨rfl, HX4.out.trans hx5⟩
end Go.Proofs.YtkhmfgkbobblmaaGreatDoor
