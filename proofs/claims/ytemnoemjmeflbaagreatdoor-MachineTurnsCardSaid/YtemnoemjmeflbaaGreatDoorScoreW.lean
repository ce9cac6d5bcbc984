/- machine.coordinates.score, machine.Score. -/
import Derived.Test.YtemnoemjmeflbaaGreatDoorTermsW
namespace Go.Proofs.YtemnoemjmeflbaaGreatDoor
open Go.RowKit Go.Lib

/-- powers that are 0 or 1 -/
def Pow (t : Tm) : Prop := ∃ p0 p1 p2, t.1 = [p0, p1, p2] ∧ (p0 = 0 ∨ p0 = 1) ∧ (p1 = 0 ∨ p1 = 1) ∧ (p2 = 0 ∨ p2 = 1)
theorem pow_mem {p : List Int} (h : p.length = 3) (hp : ∀ z ∈ p, z = 0 ∨ z = 1) (q : Rat) : Pow (p, q) := by
  match p, h, hp with
  | [a, b, c], _, hp => exact ⟨a, b, c, rfl, hp a (by simp), hp b (by simp), hp c (by simp)⟩
theorem set_mem {p : List Int} {i : Nat} (hp : ∀ z ∈ p, z = 0 ∨ z = 1) : ∀ z ∈ p.set i 1, z = 0 ∨ z = (1 : Int) := fun z hz => by
  rcases List.mem_or_eq_of_mem_set hz with h | h
  · exact hp z h
  · exact .inr h
theorem pow_terms (c : Rat) (lin : List Rat) (fac : List (List Rat)) (n : Nat) : ∀ t ∈ termsF c lin fac n, Pow t := by
  intro t ht
  have h0 : ∀ z ∈ ([0, 0, 0] : List Int), z = 0 ∨ z = 1 := fun z hz => by simp at hz; exact .inl hz
  unfold termsF at ht
  rcases List.mem_cons.1 ht with rfl | ht
  · exact pow_mem rfl h0 c
  · obtain ⟨i, _, ht⟩ := List.mem_flatMap.1 ht
    unfold row at ht
    rcases List.mem_cons.1 ht with rfl | ht
    · exact pow_mem (e1_length i) (set_mem h0) _
    · obtain ⟨k, _, rfl⟩ := List.mem_map.1 ht
      exact pow_mem (e2_length i _) (set_mem (set_mem h0)) _
theorem eval_fit {x : List Rat} {t : Tm} (ft : FitQ 11 t.2) (fx : ∀ q ∈ x, FitQ 3 q) : ∀ i, FitQ (11 + i * 3) (evalF x t i)
  | 0 => ft
  | i + 1 => by
    have h := eval_fit ft fx i
    rw [evalF]
    split
    · exact (h.mul (getD_fit' fx i)).mono (by omega)
    · exact h.mono (by omega)
where
  getD_fit' {x : List Rat} (fx : ∀ q ∈ x, FitQ 3 q) (i : Nat) : FitQ 3 (x.getD i 0) := by
    rw [List.getD_eq_getElem?_getD]
    cases h : x[i]? with
    | none => exact zero_fit (by decide)
    | some q => exact fx q (List.mem_of_getElem? h)
/-- a number times another, m times -/
def pw (a b : Rat) : Nat → Rat
  | 0 => a
  | m + 1 => pw a b m * b
theorem pw_fit {a b : Rat} {e f : Nat} (fa : FitQ e a) (fb : FitQ f b) : ∀ m, FitQ (e + m * f) (pw a b m)
  | 0 => by simpa [pw] using fa
  | m + 1 => by
    rw [pw]
    exact ((pw_fit fa fb m).mul fb).mono (by rw [Nat.succ_mul]; omega)
theorem evalF_pw {x : List Rat} {t : Tm} {i : Nat} (hi : i < x.length) {p : Nat} (h : t.1.getD i 0 = (p : Int)) (h1 : p ≤ 1) : evalF x t (i + 1) = pw (evalF x t i) x[i] p := by
  rw [evalF, h]
  match p, h1 with
  | 0, _ => rfl
  | 1, _ =>
    rw [if_pos (show ((1 : Nat) : Int) = 1 from rfl), List.getD_eq_getElem?_getD, List.getElem?_eq_getElem hi]
    rfl
theorem scoreF_next {x : List Rat} {l : List Tm} {k : Nat} (h : k < l.length) : scoreF x (l.take (k + 1)) = scoreF x (l.take k) + evalF x l[k] x.length := by
  unfold scoreF
  rw [List.take_succ_eq_append_getElem h, List.foldl_append]
  rfl
theorem score_fit {x : List Rat} {l : List Tm} (hx : x.length ≤ 3) (ft : ∀ t ∈ l, FitQ 11 t.2) (fx : ∀ q ∈ x, FitQ 3 q) : ∀ k, k ≤ l.length → FitQ (1 + k * 21) (scoreF x (l.take k))
  | 0, _ => zero_fit (by omega)
  | k + 1, h => by
    rw [scoreF_next (by omega)]
    exact ((score_fit hx ft fx k (by omega)).add ((eval_fit (ft l[k] (by simp)) fx x.length).mono (show 11 + x.length * 3 ≤ 20 by omega))).mono (by omega)
set_option maxRecDepth 100000 in
set_option maxHeartbeats 8000000 in
theorem score_any (v : Value) (A : Option Addr) (ca n r : Nat) (c : Rat) (lin : List Rat) (fac : List (List Rat)) (x : List Rat) (w : World) (h : CV w v n c lin fac) (hx : FL w (.slice A n ca) x) (hm : MOk n r c lin fac) (fx : ∀ q ∈ x, FitQ 3 q) :
    Calls Tryz.prog 35 #[v, .slice A n ca] w fun e w' => ∃ v', e = .returned v' ∧ FracV w' v' (sc c lin fac x) ∧ Ext w w' := by
  have HT := Lib.hid (fun w' (hx : Ext w w') => terms_any v n r c lin fac w' (h.ext hx) hm)
  have HTF := Lib.hid (terms_fit hm)
  have HTP := Lib.hid (pow_terms c lin fac n)
  have HTL := Lib.hid (terms_length (c := c) (fac := fac) hm.ll hm.n3 n (Nat.le_refl _))
  have HSQ : Hid (scoreF x ((termsF c lin fac n).filter fun t => decide (t.2 ≠ 0)) = sc c lin fac x) := by
    rw [Hid, scoreF_drop, sc, hm.ll]
  obtain ⟨a0, A0, a1, a2, b0, B0, b1, b2, Al, cl, Ax, cx, rfl, h1, h2, h3⟩ := h
  obtain ⟨hxl, -, hcx⟩ := cap_le hx
  have HXL := Lib.hid hxl
  have HXX := Lib.hid hx
  have FX := Lib.hid fx
  have hn3 := hm.n3
  generalize hTT : (termsF c lin fac n).filter (fun t => decide (t.2 ≠ 0)) = T at *
  have HTS : Hid (∀ t ∈ T, FitQ 11 t.2 ∧ Pow t) := by
    intro t ht
    rw [← hTT] at ht
    have := (List.mem_filter.1 ht).1
    exact ⟨HTF.out t this, HTP.out t this⟩
  have HTN : Hid (T.length ≤ 10) := by
    rw [Hid, ← hTT]
    have := List.length_filter_le (fun t : Tm => decide (t.2 ≠ 0)) (termsF c lin fac n)
    have := HTL.out
    omega
  clear h1 h2 h3 hm hx hxl fx hTT HTF HTP HTL
  go_enter Tryz.func35, Tryz.ntmps35
  go_upto_region 1 with fail
  refine box2 (P := fun W => Code.wp _ _ _ _ W) fun W HX0 BM BR => ?_
  go_wp2_with fail
  refine (xzero_any W).mono ?_
  rintro e w1 ⟨v1, rfl, hv1, hx1⟩
  obtain ⟨r0, R0, r1, r2, s0, S0, s1, s2, rfl, _, _⟩ := hv1.parts
  go_upto_region 2 with fail
  refine newbox (P := fun W => Code.wp _ _ _ _ W) hv1 fun W2 HX2 BS hsz2 => ?_
  have hy2 := HX0.out.trans (hx1.trans HX2.out)
  have BM2 := Lib.hid (BM.out.ext (hx1.trans HX2.out))
  have BR2 := Lib.hid (BR.out.ext (hx1.trans HX2.out))
  have hg1 : W.heap.size ≤ w1.heap.size := hx1.size
  have hgW : w.heap.size + 1 < W.heap.size := BR.out.lt
  obtain ⟨k0, k1, k2, k3, k4, k5⟩ := BM2.out.six
  clear hx1 hv1 HX2 hsz2 BM BR
  go_wp2_with fail
  refine (HT.out W2 hy2).mono ?_
  rintro e w3 ⟨At, mt, ct, rfl, htl, hx3⟩
  have HTLI := Lib.hid htl
  obtain ⟨hmt, -, hct⟩ := cap_le htl
  have HB3 : Hid (Box w3 w1.heap.size (scoreF x (T.take 0))) := BS.out.ext hx3
  have BR3 := Lib.hid (BR2.out.ext hx3)
  have HX3 := Lib.hid (hy2.trans hx3)
  subst hmt
  clear k0 k1 k2 k3 k4 k5 htl hx3 hy2 BM2 BR2 BS
  go_wp2_with fail
  go_loopw [7, 8, 9, 14] (fun _ _ _ v14 wr => ∃ k : Nat, k ≤ T.length ∧ v14 = .int .i64 k ∧ Hid (Box wr w1.heap.size (scoreF x (T.take k))) ∧ Hid (Blk wr (w.heap.size + 1) tFrac [.bool false, .slice none 0 0, .bool false, .slice none 0 0]) ∧ Hid (TL wr (.slice At T.length ct) T) ∧ Hid (Ext w wr)) (fun _ _ _ v14 _ => T.length - (RowKit.intOf v14).toNat)
  case atStart => exact ⟨0, Nat.zero_le _, rfl, HB3, BR3, HTLI, HX3⟩
  case round =>
    obtain ⟨k, hk, rfl, HBS, HBR, HTW, HXr⟩ := hrel
    by_cases hkt : k < T.length
    · have HNX := Lib.hid (scoreF_next (x := x) hkt)
      have HTT := Lib.hid (HTS.out _ (List.getElem_mem hkt))
      have FS := Lib.hid (score_fit (by rw [← HXL.out]; exact hn3) (fun t ht => (HTS.out t ht).1) FX.out k hk)
      obtain ⟨g1, o1, p0, p1, p2, x0, X0, x1, x2, y0, Y0, y1, y2, rfl, _, hp, V1, c0, c1, c2, c3, c4, c5, c6⟩ := TL.get HTW.out hkt
      have HPP : Hid ((p0 = 0 ∨ p0 = 1) ∧ (p1 = 0 ∨ p1 = 1) ∧ (p2 = 0 ∨ p2 = 1)) := by
        obtain ⟨q0, q1, q2, e, h⟩ := HTT.out.2
        rw [hp] at e
        injection e with e0 e
        injection e with e1 e
        injection e with e2 _
        subst e0 e1 e2
        exact h
      have HP := Lib.hid hp
      have hgS : w1.heap.size < wr.heap.size := HBS.out.lt
      generalize T[k] = t at *
      clear hp
      generalize wr = wo at *
      go_upto_region 5 with fail
      refine box1 (P := fun W => Code.wp _ _ _ _ W) fun W5 HX5 BT => ?_
      have k3 := BT.out.cell (i := 3) rfl
      have k4 := BT.out.cell (i := 4) rfl
      have k5 := BT.out.cell (i := 5) rfl
      have k6 := BT.out.cell (i := 6) rfl
      clear c0 c1 c2 c3 c4 c5 c6
      go_upto_region 6 with fail
      refine newbox (P := fun W => Code.wp _ _ _ _ W) (V1.out.ext HX5.out) fun W6 HX6 BV hsz6 => ?_
      have HB6 : Hid (Box W6 W5.heap.size (evalF x t 0)) := BV
      have HY6 := Lib.hid (HX5.out.trans HX6.out)
      have BT6 := Lib.hid (BT.out.ext HX6.out)
      have hg5 : W5.heap.size ≤ W5.heap.size := Nat.le_refl _
      clear k3 k4 k5 k6 BV hsz6
      go_wp2_with fail
      go_loopw [9, 22] (fun _ v22 wr => ∃ i : Nat, i ≤ n ∧ v22 = .int .i64 i ∧ Hid (Box wr W5.heap.size (evalF x t i)) ∧ Hid (Ext W5 wr)) (fun _ v22 _ => n - (RowKit.intOf v22).toNat)
      case atStart => exact ⟨0, Nat.zero_le _, rfl, HB6, HX6⟩
      case round =>
        obtain ⟨i, hi, rfl, HBV, HXV⟩ := hrel
        by_cases hin : i < n
        · have hix : i < x.length := by rw [← HXL.out]; exact hin
          have hi3 : i < 3 := by omega
          have FE := Lib.hid (eval_fit HTT.out.1 FX.out i)
          have FXI := Lib.hid (FX.out _ (List.getElem_mem hix))
          have BTi : Hid (Blk wr wo.heap.size tTerm (tcells [p0, p1, p2] [.bool x0, .slice X0 x1 x2, .bool y0, .slice Y0 y1 y2])) := BT.out.ext HXV.out
          have hc1 := term_cells BTi.out (i := i) (by simpa using hi3)
          have HPI : ∃ p : Nat, [p0, p1, p2][i]'(by simpa using hi3) = (p : Int) ∧ p ≤ 1 ∧ Hid (t.1.getD i 0 = (p : Int)) := by
            obtain ⟨h0, h1, h2⟩ := HPP.out
            rw [HP.out]
            rcases i with _ | _ | _ | i
            · rcases h0 with rfl | rfl
              · exact ⟨0, rfl, by decide, rfl⟩
              · exact ⟨1, rfl, by decide, rfl⟩
            · rcases h1 with rfl | rfl
              · exact ⟨0, rfl, by decide, rfl⟩
              · exact ⟨1, rfl, by decide, rfl⟩
            · rcases h2 with rfl | rfl
              · exact ⟨0, rfl, by decide, rfl⟩
              · exact ⟨1, rfl, by decide, rfl⟩
            · omega
          obtain ⟨p, hpe, hp1, HGD⟩ := HPI
          rw [hpe] at hc1
          have HEV := Lib.hid (evalF_pw hix HGD.out hp1)
          have HGX := Lib.hid (fun w' (hx : Ext W5 w') => FL.get (FL.ext HXX.out (HXr.out.trans (HX5.out.trans hx))) hix)
          generalize x[i] = xi at *
          generalize evalF x t i = ei at *
          generalize wr = wm at *
          clear hpe
          go_wp2_with fail
          clear hc1
          have HB0 : Hid (Box wm W5.heap.size (pw ei xi 0)) := HBV
          go_loopw [29] (fun v29 wr => ∃ m : Nat, m ≤ p ∧ v29 = .int .i64 m ∧ Hid (Box wr W5.heap.size (pw ei xi m)) ∧ Hid (Ext W5 wr)) (fun v29 _ => p - (RowKit.intOf v29).toNat)
          case atStart => exact ⟨0, Nat.zero_le _, rfl, HB0, HXV⟩
          case round =>
            obtain ⟨m, hm, rfl, HBM, HXM⟩ := hrel
            by_cases hmp : m < p
            · have FM := Lib.hid (pw_fit FE.out FXI.out m)
              obtain ⟨r0, R0, r1, r2, s0, S0, s1, s2, BS, VS⟩ := HBM.out.parts
              obtain ⟨gx, ox, z0, Z0, z1, z2, t0, T0, t1, t2, rfl, hgx, VX, d0, d1, d2, d3⟩ := HGX.out _ HXM.out
              have HC3 : Hid (∀ w', Ext wr w' → (w'.cell? ⟨gx, ox + i * 4, none⟩ = some (.bool z0) ∧ w'.cell? ⟨gx, ox + i * 4 + 1, none⟩ = some (.slice Z0 z1 z2) ∧ w'.cell? ⟨gx, ox + i * 4 + 2, none⟩ = some (.bool t0) ∧ w'.cell? ⟨gx, ox + i * 4 + 3, none⟩ = some (.slice T0 t1 t2))) := fun w' hx => ⟨(hx.cell (by assumption)).trans d0, (hx.cell (by assumption)).trans d1, (hx.cell (by assumption)).trans d2, (hx.cell (by assumption)).trans d3⟩
              clear d0 d1 d2 d3
              go_upto_region 11 with fail
              obtain ⟨S, hSd⟩ : ∃ S : World → Prop, S = fun w' => (w'.cell? ⟨W5.heap.size, 0, none⟩ = some (.bool r0) ∧ w'.cell? ⟨W5.heap.size, 0 + 1, none⟩ = some (.slice R0 r1 r2) ∧ w'.cell? ⟨W5.heap.size, 0 + 2, none⟩ = some (.bool s0) ∧ w'.cell? ⟨W5.heap.size, 0 + 3, none⟩ = some (.slice S0 s1 s2)) ∧ (w'.cell? ⟨gx, ox + i * 4, none⟩ = some (.bool z0) ∧ w'.cell? ⟨gx, ox + i * 4 + 1, none⟩ = some (.slice Z0 z1 z2) ∧ w'.cell? ⟨gx, ox + i * 4 + 2, none⟩ = some (.bool t0) ∧ w'.cell? ⟨gx, ox + i * 4 + 3, none⟩ = some (.slice T0 t1 t2)) := ⟨_, rfl⟩
              have HSI : Hid (∀ w', S w' → (w'.cell? ⟨W5.heap.size, 0, none⟩ = some (.bool r0) ∧ w'.cell? ⟨W5.heap.size, 0 + 1, none⟩ = some (.slice R0 r1 r2) ∧ w'.cell? ⟨W5.heap.size, 0 + 2, none⟩ = some (.bool s0) ∧ w'.cell? ⟨W5.heap.size, 0 + 3, none⟩ = some (.slice S0 s1 s2)) ∧ (w'.cell? ⟨gx, ox + i * 4, none⟩ = some (.bool z0) ∧ w'.cell? ⟨gx, ox + i * 4 + 1, none⟩ = some (.slice Z0 z1 z2) ∧ w'.cell? ⟨gx, ox + i * 4 + 2, none⟩ = some (.bool t0) ∧ w'.cell? ⟨gx, ox + i * 4 + 3, none⟩ = some (.slice T0 t1 t2))) := by rw [Hid, hSd]; exact fun _ h => h
              have HSE : Hid (∀ w', Ext wr w' → S w') := by rw [Hid, hSd]; exact fun w' h => ⟨(BS.out.ext h).four, HC3.out w' h⟩
              have HS0 : Hid (S wr.drew) := HSE.out _ (Ext.refl wr).drew
              clear hSd
              refine AnyT.start (S := S) (T := fun j => decide (6 ≤ j)) (by kernel_rfl) ?_
              refine AnyT.load 0 31 (.agg #[.bool r0, .slice R0 r1 r2, .bool s0, .slice S0 s1 s2]) rfl (by kernel_rfl) (by kernel_rfl) (by kernel_rfl) (by kernel_rfl) (by kernel_rfl) (fun _ _ _ h => h) HS0.out ?_ ?_
              · intro o ho
                simp only [List.getElem?_toArray, List.getElem?_cons_zero, Option.some.injEq] at ho
                subst ho
                refine ⟨rfl, rfl, fun w' hSw => ?_⟩
                have hs := HSI.out w' hSw
                go_split_ands
                go_simp
              simp only [Act.put, List.setIfInBounds_toArray, List.set_cons_zero, List.set_cons_succ]
              refine AnyT.load 1 32 (.slice (some ⟨gx, ox, none⟩) n ca) rfl (by kernel_rfl) (by kernel_rfl) (by kernel_rfl) (by kernel_rfl) (by kernel_rfl) (fun _ _ _ h => h) HS0.out ?_ ?_
              · intro o ho
                simp only [List.getElem?_toArray, List.getElem?_cons_succ, List.getElem?_cons_zero, Option.some.injEq] at ho
                subst ho
                refine ⟨rfl, rfl, fun w' hSw => ?_⟩
                have hs := HSI.out w' hSw
                go_split_ands
                go_simp
              simp only [Act.put, List.setIfInBounds_toArray, List.set_cons_zero, List.set_cons_succ]
              refine AnyT.load 2 33 (.int .i64 i) rfl (by kernel_rfl) (by kernel_rfl) (by kernel_rfl) (by kernel_rfl) (by kernel_rfl) (fun _ _ _ h => h) HS0.out ?_ ?_
              · intro o ho
                simp only [List.getElem?_toArray, List.getElem?_cons_succ, List.getElem?_cons_zero, Option.some.injEq] at ho
                subst ho
                refine ⟨rfl, rfl, fun w' hSw => ?_⟩
                have hs := HSI.out w' hSw
                go_split_ands
                go_simp
              simp only [Act.put, List.setIfInBounds_toArray, List.set_cons_zero, List.set_cons_succ]
              refine AnyT.load 3 34 (.pointer (some ⟨gx, ox + i * 4, none⟩)) rfl (by kernel_rfl) (by kernel_rfl) (by kernel_rfl) (by kernel_rfl) (by kernel_rfl) (fun _ _ _ h => h) HS0.out ?_ ?_
              · intro o ho
                simp only [List.getElem?_toArray, List.getElem?_cons_succ, List.getElem?_cons_zero, Option.some.injEq] at ho
                subst ho
                refine ⟨rfl, rfl, fun w' hSw => ?_⟩
                have hs := HSI.out w' hSw
                go_split_ands
                go_simp
              simp only [Act.put, List.setIfInBounds_toArray, List.set_cons_zero, List.set_cons_succ]
              refine AnyT.load 4 35 (.agg #[.bool z0, .slice Z0 z1 z2, .bool t0, .slice T0 t1 t2]) rfl (by kernel_rfl) (by kernel_rfl) (by kernel_rfl) (by kernel_rfl) (by kernel_rfl) (fun _ _ _ h => h) HS0.out ?_ ?_
              · intro o ho
                simp only [List.getElem?_toArray, List.getElem?_cons_succ, List.getElem?_cons_zero, Option.some.injEq] at ho
                subst ho
                refine ⟨rfl, rfl, fun w' hSw => ?_⟩
                have hs := HSI.out w' hSw
                go_split_ands
                go_simp
              simp only [Act.put, List.setIfInBounds_toArray, List.set_cons_zero, List.set_cons_succ]
              refine AnyT.step 5 (by kernel_rfl) ?_
              intro o ho K hK
              simp only [List.getElem?_toArray, List.getElem?_cons_succ, List.getElem?_cons_zero, Option.some.injEq] at ho
              subst ho
              go_simp
              refine (fmul_any _ _ _ _ _ (VS.out.ext (Ext.refl wr).drew) (VX.out.ext (Ext.refl wr).drew) FM.out FXI.out (by omega)).mono ?_
              rintro e w7 ⟨v7, rfl, hv7, hx7⟩
              obtain ⟨e0, E0, e1, e2, f0, F0, f1, f2, rfl, _, _⟩ := hv7.parts
              have hy7 := (Ext.refl wr).drew.trans hx7
              refine hK.out _ _ (fun _ => HSE.out _ hy7) ?_
              have BS7 := Lib.hid (BS.out.ext hy7)
              obtain ⟨k0, k1, k2, k3⟩ := BS7.out.four
              obtain ⟨m0, m1, m2, m3⟩ := BS7.out.free4
              obtain ⟨W', hW', HBN, _, HE, _⟩ := Box.put BS7.out hv7 (HXM.out.trans hy7) (Nat.le_refl _)
              have HW' := Lib.hid hW'
              clear hW' hx7 hy7
              refine AnyT.step 6 (by kernel_rfl) ?_
              intro o ho K hK
              simp only [List.getElem?_toArray, List.getElem?_cons_succ, List.getElem?_cons_zero, Option.some.injEq] at ho
              subst ho
              go_simp
              refine hK.out _ _ (fun h => by cases h) ?_
              refine AnyT.done (by kernel_rfl) ?_
              rw [HW'.out]
              clear k0 k1 k2 k3 m0 m1 m2 m3
              go_wp2_with fail
              go_roundw
              case rel => exact ⟨m + 1, by omega, by go_num, HBN, HE⟩
              case measure => simp [RowKit.intOf]; omega
            · obtain rfl : m = p := by omega
              go_wp2_with fail
              go_roundw
              case rel => exact ⟨i + 1, by omega, by go_num, by rw [HEV.out]; exact HBM, HXM⟩
              case measure => simp [RowKit.intOf]; omega
        · obtain rfl : i = n := by omega
          have FE := Lib.hid ((eval_fit HTT.out.1 FX.out x.length).mono (show 11 + x.length * 3 ≤ 20 by rw [← HXL.out]; omega))
          rw [HXL.out] at HBV
          have HY := Lib.hid (HX5.out.trans HXV.out)
          obtain ⟨z0, Z0, z1, z2, t0, T0, t1, t2, BV, VV⟩ := HBV.out.parts
          obtain ⟨r0, R0, r1, r2, s0, S0, s1, s2, BS, VS⟩ := (HBS.out.ext HY.out).parts
          have HBRr := Lib.hid (HBR.out.ext HY.out)
          have HTWr := Lib.hid (TL.ext HTW.out HY.out)
          have HXrr := Lib.hid (HXr.out.trans HY.out)
          obtain ⟨k0, k1, k2, k3⟩ := BS.out.four
          obtain ⟨j0, j1, j2, j3⟩ := BV.out.four
          generalize evalF x t x.length = ei at *
          go_wp2_with fail
          refine (fadd_any _ _ _ _ _ VS.out VV.out FS.out FE.out (by have := HTN.out; omega)).mono ?_
          rintro e w8 ⟨v8, rfl, hv8, hx8⟩
          obtain ⟨e0, E0, e1, e2, f0, F0, f1, f2, rfl, _, _⟩ := hv8.parts
          rw [← HNX.out] at hv8
          have BS8 := Lib.hid (BS.out.ext hx8)
          obtain ⟨W', hW', HBN, HKN, HE, HON⟩ := Box.put BS8.out hv8 (HXrr.out.trans hx8) (by omega)
          have HKT : Hid (Kept tTerm w8 W') := by rw [Hid, ← hW']; exact BS8.out.kept4 (by decide) 0 1 2 3 _ _ _ _
          have HBRn := Lib.hid ((HBRr.out.ext hx8).only HON.out (by omega))
          have HTWn : Hid (TL W' (.slice (some ⟨g1, o1, none⟩) T.length ct) T) := Ls.keep TmR.stab (TL.ext HTWr.out hx8) (fun u hu => by
            simp only [List.mem_cons, List.not_mem_nil, or_false] at hu
            rcases hu with rfl | rfl
            · exact HKT.out
            · exact HKN.out)
          have HW' := Lib.hid hW'
          clear hW' hx8 k0 k1 k2 k3 j0 j1 j2 j3
          obtain ⟨k0, k1, k2, k3⟩ := BS8.out.four
          obtain ⟨m0, m1, m2, m3⟩ := BS8.out.free4
          have htl : T.length ≤ 10 := HTN.out
          go_wp2_with fail
          rw [HW'.out]
          clear k0 k1 k2 k3 m0 m1 m2 m3
          go_roundw
          case rel => exact ⟨k + 1, by omega, by go_num, HBN, HBRn, HTWn, HE⟩
          case measure => simp [RowKit.intOf]; omega
    · obtain rfl : k = T.length := by omega
      rw [List.take_of_length_le (Nat.le_refl _), HSQ.out] at HBS
      obtain ⟨z0, Z0, z1, z2, t0, T0, t1, t2, BD, VD⟩ := HBS.out.parts
      obtain ⟨k0, k1, k2, k3⟩ := BD.out.four
      obtain ⟨j0, j1, j2, j3⟩ := HBR.out.four
      obtain ⟨f0, f1, f2, f3⟩ := HBR.out.free4
      go_wp2
      exact ret_frac rfl rfl rfl HBR.out VD.out HXr.out (by omega) (fun v W' h1 h2 => ⟨v, rfl, h1, h2⟩)
end Go.Proofs.YtemnoemjmeflbaaGreatDoor
