/- cluster.nearest. -/
import Derived.Test.YtlfcicfebhjchaaGreatDoorBox
namespace Go.Proofs.YtlfcicfebhjchaaGreatDoor
open Go.RowKit Go.Lib

/-- the nearer one -/
def nearer (b : Int × Rat) (i : Nat) (d : Rat) : Int × Rat := if b.1 < 0 ∨ d < b.2 then ((i : Int), d) else b
theorem nearer_pos {b : Int × Rat} {i : Nat} {d : Rat} (h : b.1 < 0 ∨ d < b.2) : nearer b i d = ((i : Int), d) := if_pos h
theorem nearer_neg {b : Int × Rat} {i : Nat} {d : Rat} (h : ¬ (b.1 < 0 ∨ d < b.2)) : nearer b i d = b := if_neg h
/-- the nearest so far: its number, and how far it is -/
def nearF (p : List Rat) : List (List Rat) → Nat → Int × Rat → Int × Rat
  | [], _, b => b
  | c :: r, i, b => nearF p r (i + 1) (nearer b i (dist p c))
def near (p : List Rat) (cs : List (List Rat)) : Int × Rat := nearF p cs 0 (-1, 0)
theorem nearF_snoc (p c : List Rat) : ∀ (l : List (List Rat)) (i : Nat) (b : Int × Rat), nearF p (l ++ [c]) i b = nearer (nearF p l i b) (i + l.length) (dist p c)
  | [], i, b => rfl
  | d :: l, i, b => by
    rw [List.cons_append, nearF, nearF_snoc p c l (i + 1), nearF, List.length_cons, show i + 1 + l.length = i + (l.length + 1) by omega]
theorem near_next {p : List Rat} {cs : List (List Rat)} {k : Nat} (h : k < cs.length) : near p (cs.take (k + 1)) = nearer (near p (cs.take k)) k (dist p cs[k]) := by
  unfold near
  rw [List.take_succ_eq_append_getElem h, nearF_snoc, List.length_take, Nat.min_eq_left (by omega), Nat.zero_add]
theorem zero_fit {e : Nat} (h : 1 ≤ e) : FitQ e 0 := (show FitQ 1 (0 : Rat) from ⟨by decide, by decide⟩).mono h
theorem near_fit {p : List Rat} {cs : List (List Rat)} (hl : ∀ c ∈ cs, c.length = p.length) (hn : p.length ≤ 3) (fp : ∀ q ∈ p, FitQ 400 q) (fc : ∀ c ∈ cs, ∀ q ∈ c, FitQ 400 q) : ∀ k, k ≤ cs.length → FitQ 5000 (near p (cs.take k)).2
  | 0, _ => zero_fit (e := 5000) (by decide)
  | k + 1, h => by
    have h1 := near_fit hl hn fp fc k (by omega)
    rw [near_next (by omega)]
    by_cases hc : (near p (cs.take k)).1 < 0 ∨ dist p cs[k] < (near p (cs.take k)).2
    · rw [nearer_pos hc]
      exact dist_fit (hl cs[k] (by simp)).symm hn fp (fc cs[k] (by simp))
    · rw [nearer_neg hc]
      exact h1
theorem near_lt (p : List Rat) (cs : List (List Rat)) : ∀ k, k ≤ cs.length → -1 ≤ (near p (cs.take k)).1 ∧ (near p (cs.take k)).1 < k
  | 0, _ => by show (-1 : Int) ≤ -1 ∧ (-1 : Int) < 0; omega
  | k + 1, h => by
    have h1 := near_lt p cs k (by omega)
    rw [near_next (by omega)]
    by_cases hc : (near p (cs.take k)).1 < 0 ∨ dist p cs[k] < (near p (cs.take k)).2
    · rw [nearer_pos hc]; show (-1 : Int) ≤ (k : Int) ∧ (k : Int) < ((k + 1 : Nat) : Int); omega
    · rw [nearer_neg hc]; omega
theorem results_tmp_cell {fn : Func} {u p : Tmp} {ty : TypeId} (h : fn.results = #[.tmp u, .cell p ty]) (tmps : Array Value) {P : Program} (w : World) (g : Nat) (v : Value) (hp : tmps.getD p undef = .pointer (some ⟨g, 0, none⟩)) (hl : (loadVar ty ⟨g, 0, none⟩).run P w = .ok v w) :
    (results fn tmps).run P w = .ok (.tuple #[tmps.getD u undef, v]) w := by
  have hp' : tmps[p]?.getD undef = .pointer (some ⟨g, 0, none⟩) := by simpa using hp
  simp [results, h, hp', asAddr, hl]
theorem ret_int_frac {fn : Func} {t u g : Nat} {w : World} {q : Rat} {a : Act} {R : Ending → World → Prop} (hres : fn.results = #[.tmp u, .cell t tFrac]) (ht : a.tmps.getD t undef = .pointer (some ⟨g, 0, none⟩)) (hd : a.defers = [])
    (hB : Box w g q) (hR : ∀ b A n c b' A' n' c', FracV w (.agg #[.bool b, .slice A n c, .bool b', .slice A' n' c']) q → R (.returned (.tuple #[a.tmps.getD u undef, .agg #[.bool b, .slice A n c, .bool b', .slice A' n' c']])) w) : bodyPost Tryz.prog fn R .ret a w := by
  obtain ⟨b, A, n, c, b', A', n', c', h1, h2⟩ := hB
  exact bodyPost_ret (results_tmp_cell hres a.tmps w g _ ht (run_loadVar_row w g tFrac tFrac #[.bool b, .slice A n c, .bool b', .slice A' n' c'] (0, 0) _ h1 Tryz.underlying77 rfl (by kernel_rfl))) hd (hR _ _ _ _ _ _ _ _ h2)
set_option maxRecDepth 100000 in
set_option maxHeartbeats 8000000 in
theorem near_any (vp vc : Value) (p : List Rat) (cs : List (List Rat)) (w : World) (hp : FL w vp p) (hc : GL w vc cs) (hl : ∀ c ∈ cs, c.length = p.length) (hn : p.length ≤ 3) (fp : ∀ q ∈ p, FitQ 400 q) (fc : ∀ c ∈ cs, ∀ q ∈ c, FitQ 400 q) :
    Calls Tryz.prog 37 #[vp, vc] w fun e w' => ∃ b A n c b' A' n' c', e = .returned (.tuple #[.int .i64 (near p cs).1, .agg #[.bool b, .slice A n c, .bool b', .slice A' n' c']]) ∧ FracV w' (.agg #[.bool b, .slice A n c, .bool b', .slice A' n' c']) (near p cs).2 ∧ Ext w w' := by
  obtain ⟨A, ca, rfl, _, hca, HA⟩ := hp.parts
  obtain ⟨B, cb, rfl, _, hcb, HB⟩ := hc.parts
  have hca : ca ≤ 9223372036854775807 := by unfold maxLen at hca; omega
  have hcb : cb ≤ 9223372036854775807 := by unfold maxLen at hcb; omega
  have HLN := Lib.hid hl
  have HFA := Lib.hid fp
  have HFB := Lib.hid fc
  clear hp hc hl fp fc
  go_enter Tryz.func37, Tryz.ntmps37
  go_wp2_with fail
  refine box1 (P := fun W => Calls _ _ _ W _) fun W0 HX0 BR => ?_
  refine (xzero_any W0).mono ?_
  rintro e w1 ⟨v1, rfl, hv1, hx1⟩
  obtain ⟨a0, A0, a1, a2, b0, B0, b1, b2, rfl, _, _⟩ := hv1.parts
  go_wp2_with fail
  refine newbox (P := fun W => Code.wp _ _ _ _ W) hv1 fun W HX HB1 hsz => ?_
  have BR1 := Lib.hid (BR.out.ext (hx1.trans HX.out))
  have HX1 := Lib.hid (HX0.out.trans (hx1.trans HX.out))
  have hg : w.heap.size < w1.heap.size := Nat.lt_of_lt_of_le BR.out.lt hx1.size
  have HB0 : Hid (Box W w1.heap.size (near p (cs.take 0)).2) := HB1
  clear hx1 hv1 HX0 HX BR HB1
  go_loopw [6, 8, 9, 10, 14] (fun v6 _ _ _ v14 wr => ∃ k : Nat, k ≤ cs.length ∧ v14 = .int .i64 k ∧ v6 = .int .i64 (near p (cs.take k)).1 ∧ Hid (Box wr w1.heap.size (near p (cs.take k)).2) ∧ Hid (Blk wr w.heap.size tFrac [.bool false, .slice none 0 0, .bool false, .slice none 0 0]) ∧ Hid (Ext w wr)) (fun _ _ _ _ v14 _ => cs.length - (RowKit.intOf v14).toNat)
  case atStart => exact ⟨0, Nat.zero_le _, rfl, rfl, HB0, BR1, HX1⟩
  case round =>
    obtain ⟨k, hk, rfl, rfl, HBS, HBR, HXS⟩ := hrel
    by_cases hkl : k < cs.length
    · have HNX := Lib.hid (near_next (p := p) hkl)
      have FS := Lib.hid (near_fit HLN.out hn HFA.out HFB.out k hk)
      have FD := Lib.hid (dist_fit (HLN.out cs[k] (by simp)).symm hn HFA.out (HFB.out cs[k] (by simp)))
      have HR := Lib.hid (near_lt p cs k hk)
      obtain ⟨g1, o1, A1, c1, rfl, _, HL1, hc1⟩ := OneR.get (GL.ext HB.out HXS.out) hkl
      have HDI := Lib.hid (xdist_any _ _ p cs[k] wr (FL.ext HA.out HXS.out) HL1.out (HLN.out cs[k] (by simp)).symm hn HFA.out (HFB.out cs[k] (by simp)))
      have hgs : w1.heap.size < wr.heap.size := HBS.out.lt
      generalize cs[k] = ck at *
      generalize near p (cs.take k) = nb at *
      obtain ⟨ni, nd⟩ := nb
      simp only at HNX FS HR HBS
      generalize hdd : dist p ck = dd at *
      clear hdd
      go_wp2_with fail
      refine HDI.out.mono ?_
      rintro e W3 ⟨v3, rfl, hv3, hx3⟩
      obtain ⟨a0, A0, a1, a2, b0, B0, b1, b2, rfl, _, _⟩ := hv3.parts
      clear hc1
      go_upto_region 6 with fail
      refine newbox (P := fun W => Code.wp _ _ _ _ W) hv3 fun wq HXN BX2 hsz => ?_
      have BX1 := Lib.hid (HBS.out.ext (hx3.trans HXN.out))
      have BRQ := Lib.hid (HBR.out.ext (hx3.trans HXN.out))
      have HXQ := Lib.hid (HXS.out.trans (hx3.trans HXN.out))
      have hw3 := hx3.size
      clear hx3 hv3 HXN HDI HBS HBR
      by_cases hneg : ni < 0
      · have HMT := Lib.hid (HNX.out.trans (nearer_pos (Or.inl hneg)))
        have hd1 : decide (ni < 0) = true := decide_eq_true hneg
        clear hneg
        obtain ⟨x0, X0, x1, x2, y0, Y0, y1, y2, BS, VS⟩ := BX1.out.parts
        obtain ⟨z0, Z0, z1, z2, t0, T0, t1, t2, BD, VD⟩ := BX2.out.parts
        go_upto_region 7 with fail
        obtain ⟨S, hSd⟩ : ∃ S : World → Prop, S = fun w' => (w'.cell? ⟨W3.heap.size, 0, none⟩ = some (.bool z0) ∧ w'.cell? ⟨W3.heap.size, 0 + 1, none⟩ = some (.slice Z0 z1 z2) ∧ w'.cell? ⟨W3.heap.size, 0 + 2, none⟩ = some (.bool t0) ∧ w'.cell? ⟨W3.heap.size, 0 + 3, none⟩ = some (.slice T0 t1 t2)) := ⟨_, rfl⟩
        have HSI : Hid (∀ w', S w' → (w'.cell? ⟨W3.heap.size, 0, none⟩ = some (.bool z0) ∧ w'.cell? ⟨W3.heap.size, 0 + 1, none⟩ = some (.slice Z0 z1 z2) ∧ w'.cell? ⟨W3.heap.size, 0 + 2, none⟩ = some (.bool t0) ∧ w'.cell? ⟨W3.heap.size, 0 + 3, none⟩ = some (.slice T0 t1 t2))) := by rw [Hid, hSd]; exact fun _ h => h
        have HS0 : Hid (S wq.drew) := by rw [Hid, hSd]; exact (BD.out.ext (Ext.refl wq).drew).four
        clear hSd
        have BS4 := Lib.hid (BS.out.ext (Ext.refl wq).drew)
        obtain ⟨W', hW', HBN, HKN, HE, HON⟩ := Box.put BS4.out (VD.out.ext (Ext.refl wq).drew) (HXQ.out.drew) (by omega)
        have HW := Lib.hid hW'
        have BRN := Lib.hid ((BRQ.out.ext (Ext.refl wq).drew).only HON.out (by omega))
        clear hW'
        refine AnyT.start (S := S) (T := fun j => decide (3 ≤ j)) (by kernel_rfl) ?_
        refine AnyT.load 0 30 (.int .i64 k) rfl (by kernel_rfl) (by kernel_rfl) (by kernel_rfl) (by kernel_rfl) (by kernel_rfl) (fun _ _ _ h => h) HS0.out ?_ ?_
        · intro o ho
          simp only [List.getElem?_toArray, List.getElem?_cons_zero, Option.some.injEq] at ho
          subst ho
          refine ⟨rfl, rfl, fun w' hSw => ?_⟩
          have hs := HSI.out w' hSw
          go_split_ands
          go_simp
        simp only [Act.put, List.setIfInBounds_toArray, List.set_cons_zero, List.set_cons_succ]
        refine AnyT.load 1 31 (.agg #[.bool z0, .slice Z0 z1 z2, .bool t0, .slice T0 t1 t2]) rfl (by kernel_rfl) (by kernel_rfl) (by kernel_rfl) (by kernel_rfl) (by kernel_rfl) (fun _ _ _ h => h) HS0.out ?_ ?_
        · intro o ho
          simp only [List.getElem?_toArray, List.getElem?_cons_succ, List.getElem?_cons_zero, Option.some.injEq] at ho
          subst ho
          refine ⟨rfl, rfl, fun w' hSw => ?_⟩
          have hs := HSI.out w' hSw
          go_split_ands
          go_simp
        simp only [Act.put, List.setIfInBounds_toArray, List.set_cons_zero, List.set_cons_succ]
        refine AnyT.step 2 (by kernel_rfl) ?_
        intro o ho K hK
        simp only [List.getElem?_toArray, List.getElem?_cons_succ, List.getElem?_cons_zero, Option.some.injEq] at ho
        subst ho
        go_simp
        refine hK.out _ _ (fun _ => HS0.out) ?_
        obtain ⟨W5, hW5⟩ : ∃ W5 : World, wq.drew = W5 := ⟨_, rfl⟩
        rw [hW5] at BS4 HW ⊢
        clear hW5
        obtain ⟨k0, k1, k2, k3⟩ := BS4.out.four
        obtain ⟨f0, f1, f2, f3⟩ := BS4.out.free4
        refine AnyT.step 3 (by kernel_rfl) ?_
        intro o ho K hK
        simp only [List.getElem?_toArray, List.getElem?_cons_succ, List.getElem?_cons_zero, Option.some.injEq] at ho
        subst ho
        go_simp
        refine hK.out _ _ (fun h => by cases h) ?_
        refine AnyT.done (by kernel_rfl) ?_
        rw [HW.out]
        clear k0 k1 k2 k3 f0 f1 f2 f3
        go_wp2_with fail
        go_roundw
        case rel => exact ⟨k + 1, by omega, by go_num, by rw [HMT.out], by rw [HMT.out]; exact HBN, BRN, HE⟩
        case measure => simp [RowKit.intOf]; omega
      · have hd1 : decide (ni < 0) = false := decide_eq_false hneg
        obtain ⟨x0, X0, x1, x2, y0, Y0, y1, y2, BS, VS⟩ := BX1.out.parts
        obtain ⟨z0, Z0, z1, z2, t0, T0, t1, t2, BD, VD⟩ := BX2.out.parts
        obtain ⟨k0, k1, k2, k3⟩ := BS.out.four
        obtain ⟨j0, j1, j2, j3⟩ := BD.out.four
        go_wp2_with fail
        refine (fcompare_any _ _ dd nd _ VD.out VS.out FD.out FS.out (by decide)).mono ?_
        rintro e w5 ⟨rfl, hx5⟩
        have BX1 := Lib.hid (BX1.out.ext hx5)
        have BX2 := Lib.hid (BX2.out.ext hx5)
        have BRQ := Lib.hid (BRQ.out.ext hx5)
        have HXQ := Lib.hid (HXQ.out.trans hx5)
        have hsz : W3.heap.size < w5.heap.size := by have := hx5.size; omega
        clear hx5 k0 k1 k2 k3 j0 j1 j2 j3 BS VS BD VD
        generalize wq = wq0 at *
        generalize w5 = wq at *
        by_cases hlt : dd < nd
        · have HMT := Lib.hid (HNX.out.trans (nearer_pos (Or.inr hlt)))
          have hd2 : decide (cmpQ dd nd < 0) = true := decide_eq_true (cmpQ_lt.2 hlt)
          clear hlt hneg
          generalize cmpQ dd nd = cq at *
          obtain ⟨x0, X0, x1, x2, y0, Y0, y1, y2, BS, VS⟩ := BX1.out.parts
          obtain ⟨z0, Z0, z1, z2, t0, T0, t1, t2, BD, VD⟩ := BX2.out.parts
          go_upto_region 7 with fail
          obtain ⟨S, hSd⟩ : ∃ S : World → Prop, S = fun w' => (w'.cell? ⟨W3.heap.size, 0, none⟩ = some (.bool z0) ∧ w'.cell? ⟨W3.heap.size, 0 + 1, none⟩ = some (.slice Z0 z1 z2) ∧ w'.cell? ⟨W3.heap.size, 0 + 2, none⟩ = some (.bool t0) ∧ w'.cell? ⟨W3.heap.size, 0 + 3, none⟩ = some (.slice T0 t1 t2)) := ⟨_, rfl⟩
          have HSI : Hid (∀ w', S w' → (w'.cell? ⟨W3.heap.size, 0, none⟩ = some (.bool z0) ∧ w'.cell? ⟨W3.heap.size, 0 + 1, none⟩ = some (.slice Z0 z1 z2) ∧ w'.cell? ⟨W3.heap.size, 0 + 2, none⟩ = some (.bool t0) ∧ w'.cell? ⟨W3.heap.size, 0 + 3, none⟩ = some (.slice T0 t1 t2))) := by rw [Hid, hSd]; exact fun _ h => h
          have HS0 : Hid (S wq.drew) := by rw [Hid, hSd]; exact (BD.out.ext (Ext.refl wq).drew).four
          clear hSd
          have BS4 := Lib.hid (BS.out.ext (Ext.refl wq).drew)
          obtain ⟨W', hW', HBN, HKN, HE, HON⟩ := Box.put BS4.out (VD.out.ext (Ext.refl wq).drew) (HXQ.out.drew) (by omega)
          have HW := Lib.hid hW'
          have BRN := Lib.hid ((BRQ.out.ext (Ext.refl wq).drew).only HON.out (by omega))
          clear hW'
          refine AnyT.start (S := S) (T := fun j => decide (3 ≤ j)) (by kernel_rfl) ?_
          refine AnyT.load 0 30 (.int .i64 k) rfl (by kernel_rfl) (by kernel_rfl) (by kernel_rfl) (by kernel_rfl) (by kernel_rfl) (fun _ _ _ h => h) HS0.out ?_ ?_
          · intro o ho
            simp only [List.getElem?_toArray, List.getElem?_cons_zero, Option.some.injEq] at ho
            subst ho
            refine ⟨rfl, rfl, fun w' hSw => ?_⟩
            have hs := HSI.out w' hSw
            go_split_ands
            go_simp
          simp only [Act.put, List.setIfInBounds_toArray, List.set_cons_zero, List.set_cons_succ]
          refine AnyT.load 1 31 (.agg #[.bool z0, .slice Z0 z1 z2, .bool t0, .slice T0 t1 t2]) rfl (by kernel_rfl) (by kernel_rfl) (by kernel_rfl) (by kernel_rfl) (by kernel_rfl) (fun _ _ _ h => h) HS0.out ?_ ?_
          · intro o ho
            simp only [List.getElem?_toArray, List.getElem?_cons_succ, List.getElem?_cons_zero, Option.some.injEq] at ho
            subst ho
            refine ⟨rfl, rfl, fun w' hSw => ?_⟩
            have hs := HSI.out w' hSw
            go_split_ands
            go_simp
          simp only [Act.put, List.setIfInBounds_toArray, List.set_cons_zero, List.set_cons_succ]
          refine AnyT.step 2 (by kernel_rfl) ?_
          intro o ho K hK
          simp only [List.getElem?_toArray, List.getElem?_cons_succ, List.getElem?_cons_zero, Option.some.injEq] at ho
          subst ho
          go_simp
          refine hK.out _ _ (fun _ => HS0.out) ?_
          obtain ⟨W5, hW5⟩ : ∃ W5 : World, wq.drew = W5 := ⟨_, rfl⟩
          rw [hW5] at BS4 HW ⊢
          clear hW5
          obtain ⟨k0, k1, k2, k3⟩ := BS4.out.four
          obtain ⟨f0, f1, f2, f3⟩ := BS4.out.free4
          refine AnyT.step 3 (by kernel_rfl) ?_
          intro o ho K hK
          simp only [List.getElem?_toArray, List.getElem?_cons_succ, List.getElem?_cons_zero, Option.some.injEq] at ho
          subst ho
          go_simp
          refine hK.out _ _ (fun h => by cases h) ?_
          refine AnyT.done (by kernel_rfl) ?_
          rw [HW.out]
          clear k0 k1 k2 k3 f0 f1 f2 f3
          go_wp2_with fail
          go_roundw
          case rel => exact ⟨k + 1, by omega, by go_num, by rw [HMT.out], by rw [HMT.out]; exact HBN, BRN, HE⟩
          case measure => simp [RowKit.intOf]; omega
        · have HMT := Lib.hid (HNX.out.trans (nearer_neg (fun h => h.elim (fun h => absurd h (by show ¬ ni < 0; omega)) hlt)))
          have hd2 : decide (cmpQ dd nd < 0) = false := decide_eq_false (fun h => hlt (cmpQ_lt.1 h))
          clear hlt hneg
          generalize cmpQ dd nd = cq at *
          go_wp2_with fail
          go_roundw
          case rel => exact ⟨k + 1, by omega, by go_num, by rw [HMT.out], by rw [HMT.out]; exact BX1, BRQ, HXQ⟩
          case measure => simp [RowKit.intOf]; omega
    · obtain rfl : k = cs.length := by omega
      rw [List.take_of_length_le (Nat.le_refl _)] at HBS
      rw [List.take_of_length_le (Nat.le_refl _)]
      obtain ⟨z0, Z0, z1, z2, t0, T0, t1, t2, BD, VD⟩ := HBS.out.parts
      have hgs : w1.heap.size < wr.heap.size := HBS.out.lt
      go_upto_region 9 with fail
      obtain ⟨S, hSd⟩ : ∃ S : World → Prop, S = fun w' => (w'.cell? ⟨w1.heap.size, 0, none⟩ = some (.bool z0) ∧ w'.cell? ⟨w1.heap.size, 0 + 1, none⟩ = some (.slice Z0 z1 z2) ∧ w'.cell? ⟨w1.heap.size, 0 + 2, none⟩ = some (.bool t0) ∧ w'.cell? ⟨w1.heap.size, 0 + 3, none⟩ = some (.slice T0 t1 t2)) := ⟨_, rfl⟩
      have HSI : Hid (∀ w', S w' → (w'.cell? ⟨w1.heap.size, 0, none⟩ = some (.bool z0) ∧ w'.cell? ⟨w1.heap.size, 0 + 1, none⟩ = some (.slice Z0 z1 z2) ∧ w'.cell? ⟨w1.heap.size, 0 + 2, none⟩ = some (.bool t0) ∧ w'.cell? ⟨w1.heap.size, 0 + 3, none⟩ = some (.slice T0 t1 t2))) := by rw [Hid, hSd]; exact fun _ h => h
      have HS0 : Hid (S wr.drew) := by rw [Hid, hSd]; exact (BD.out.ext (Ext.refl wr).drew).four
      clear hSd
      have BS4 := Lib.hid (HBR.out.ext (Ext.refl wr).drew)
      obtain ⟨W', hW', HBN, HKN, HE, HON⟩ := Box.put BS4.out (VD.out.ext (Ext.refl wr).drew) (HXS.out.drew) (Nat.le_refl _)
      have HW := Lib.hid hW'
      clear hW'
      refine AnyT.start (S := S) (T := fun j => decide (3 ≤ j)) (by kernel_rfl) ?_
      refine AnyT.load 0 33 (.int .i64 (near p cs).1) rfl (by kernel_rfl) (by kernel_rfl) (by kernel_rfl) (by kernel_rfl) (by kernel_rfl) (fun _ _ _ h => h) HS0.out ?_ ?_
      · intro o ho
        simp only [List.getElem?_toArray, List.getElem?_cons_zero, Option.some.injEq] at ho
        subst ho
        refine ⟨rfl, rfl, fun w' hSw => ?_⟩
        have hs := HSI.out w' hSw
        go_split_ands
        go_simp
      simp only [Act.put, List.setIfInBounds_toArray, List.set_cons_zero, List.set_cons_succ]
      refine AnyT.load 1 34 (.agg #[.bool z0, .slice Z0 z1 z2, .bool t0, .slice T0 t1 t2]) rfl (by kernel_rfl) (by kernel_rfl) (by kernel_rfl) (by kernel_rfl) (by kernel_rfl) (fun _ _ _ h => h) HS0.out ?_ ?_
      · intro o ho
        simp only [List.getElem?_toArray, List.getElem?_cons_succ, List.getElem?_cons_zero, Option.some.injEq] at ho
        subst ho
        refine ⟨rfl, rfl, fun w' hSw => ?_⟩
        have hs := HSI.out w' hSw
        go_split_ands
        go_simp
      simp only [Act.put, List.setIfInBounds_toArray, List.set_cons_zero, List.set_cons_succ]
      refine AnyT.step 2 (by kernel_rfl) ?_
      intro o ho K hK
      simp only [List.getElem?_toArray, List.getElem?_cons_succ, List.getElem?_cons_zero, Option.some.injEq] at ho
      subst ho
      go_simp
      refine hK.out _ _ (fun _ => HS0.out) ?_
      obtain ⟨W5, hW5⟩ : ∃ W5 : World, wr.drew = W5 := ⟨_, rfl⟩
      rw [hW5] at BS4 HW ⊢
      clear hW5
      obtain ⟨k0, k1, k2, k3⟩ := BS4.out.four
      obtain ⟨f0, f1, f2, f3⟩ := BS4.out.free4
      refine AnyT.step 3 (by kernel_rfl) ?_
      intro o ho K hK
      simp only [List.getElem?_toArray, List.getElem?_cons_succ, List.getElem?_cons_zero, Option.some.injEq] at ho
      subst ho
      go_simp
      refine hK.out _ _ (fun h => by cases h) ?_
      refine AnyT.done (by kernel_rfl) ?_
      rw [HW.out]
      clear k0 k1 k2 k3 f0 f1 f2 f3
      go_wp2_with fail
      exact ret_int_frac rfl rfl rfl HBN.out (fun b A n c b' A' n' c' h => ⟨b, A, n, c, b', A', n', c', rfl, h, HE.out⟩)
end Go.Proofs.YtlfcicfebhjchaaGreatDoor
