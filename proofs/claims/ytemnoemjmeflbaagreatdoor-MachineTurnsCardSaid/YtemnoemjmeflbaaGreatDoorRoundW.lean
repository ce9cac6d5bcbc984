/- machine.round, Round, Score. -/
import Derived.Test.YtemnoemjmeflbaaGreatDoorScoreW
namespace Go.Proofs.YtemnoemjmeflbaaGreatDoor
open Go.RowKit Go.Lib

theorem floor_natAbs (q : Rat) : q.floor.natAbs ≤ q.num.natAbs := by
  rw [Rat.floor_def]
  have hd : (0 : Int) < q.den := by have := q.den_pos; omega
  have h1 := Int.ediv_mul_add_emod q.num q.den
  have h2 := Int.emod_nonneg q.num (show (q.den : Int) ≠ 0 by omega)
  have h3 := Int.emod_lt_of_pos q.num hd
  rcases Int.lt_or_le q.num 0 with h | h
  · have h4 : -1 * (q.den : Int) ≤ q.num / q.den * q.den ∨ True := .inr trivial
    have h5 : q.num ≤ q.num / q.den := Int.le_ediv_of_mul_le hd (by
      have : q.num * (q.den : Int) ≤ q.num * 1 := Int.mul_le_mul_of_nonpos_left (by omega) (by omega)
      omega)
    have h6 : q.num / (q.den : Int) < 0 := Int.ediv_neg_of_neg_of_pos h hd
    omega
  · have h5 : q.num / q.den ≤ q.num := Int.ediv_le_self _ h
    have h6 : 0 ≤ q.num / (q.den : Int) := Int.ediv_nonneg h (by omega)
    omega
theorem floor_fit {q : Rat} {e : Nat} (h : FitQ e q) (he : 1 ≤ e) : FitQ e (q.floor : Rat) := int_fitR (Nat.lt_of_le_of_lt (floor_natAbs q) h.1) he
theorem two_pow_le {b : Nat} (h : b ≤ 30) : 2 ^ b ≤ 1073741824 := Nat.pow_le_pow_right (n := 2) (by decide) h
theorem two_pow_fit {b : Nat} (h : b ≤ 30) : FitQ 10 (((2 ^ b : Nat) : Int) : Rat) := int_fitR (by rw [Int.natAbs_natCast]; have := two_pow_le h; omega) (by decide)
theorem wrap_two {b : Nat} (h : b ≤ 30) : wrap64 ((2 : Int) ^ b) = ((2 ^ b : Nat) : Int) :=
  (show ∀ b : Fin 31, wrap64 ((2 : Int) ^ b.1) = ((2 ^ b.1 : Nat) : Int) by decide +kernel) ⟨b, by omega⟩
theorem half_eq : (((1 : Int) : Rat) / ((2 : Int) : Rat)) = 1 / 2 := by decide +kernel
theorem half_fit : FitQ 1 (1 / 2 : Rat) := ⟨by decide +kernel, by decide +kernel⟩
theorem rnd_fit {q : Rat} {e b : Nat} (h : FitQ e q) (hb : b ≤ 30) : FitQ (e + 22) (rnd q ((2 ^ b : Nat) : Int)) := by
  unfold rnd
  have h1 := floor_fit ((h.mul (two_pow_fit hb)).add half_fit) (by omega)
  exact (h1.div (two_pow_fit hb) (by rw [int_rat_num]; have := Nat.two_pow_pos b; omega)).mono (by omega)
theorem ret_box {fn : Func} {t g : Nat} {w : World} {q : Rat} {a : Act} {R : Ending → World → Prop} (hres : fn.results = #[.cell t tFrac]) (ht : a.tmps.getD t undef = .pointer (some ⟨g, 0, none⟩)) (hd : a.defers = [])
    (hB : Box w g q) (hR : ∀ v, FracV w v q → R (.returned v) w) : bodyPost Tryz.prog fn R .ret a w := by
  obtain ⟨b, A, n, c, b', A', n', c', h1, h2⟩ := hB
  exact bodyPost_ret (results_cell_row hres a.tmps _ g tFrac #[.bool b, .slice A n c, .bool b', .slice A' n' c'] (0, 0) _ ht h1 Tryz.underlying66 rfl (by kernel_rfl)) hd (hR _ h2)
set_option maxRecDepth 100000 in
set_option maxHeartbeats 4000000 in
theorem mround_any (v : Value) (q : Rat) (b : Nat) (w : World) (h : FracV w v q) (hf : FitQ 100 q) (hb : b ≤ 30) :
    Calls Tryz.prog 43 #[v, .int .i64 b] w fun e w' => ∃ v', e = .returned v' ∧ FracV w' v' (rnd q ((2 ^ b : Nat) : Int)) ∧ Ext w w' := by
  obtain ⟨bb, A, n, c, b', A', n', c', rfl, _, _⟩ := h.parts
  have HV := Lib.hid h
  have HF := Lib.hid hf
  have hs := two_pow_le hb
  have hs0 := Nat.two_pow_pos b
  have FS := Lib.hid (two_pow_fit hb)
  have HW2 := Lib.hid (wrap_two hb)
  generalize hrr : rnd q ((2 ^ b : Nat) : Int) = rr at *
  have HRN : Hid (((q * (((2 ^ b : Nat) : Int) : Rat) + 1 / 2).floor : Rat) / (((2 ^ b : Nat) : Int) : Rat) = rr) := hrr
  clear hrr
  have FF := Lib.hid (floor_fit (((hf.mul (two_pow_fit hb)).add half_fit)) (by decide))
  have FA := Lib.hid ((hf.mul (two_pow_fit hb)).add half_fit)
  have FM := Lib.hid (hf.mul (two_pow_fit hb))
  clear h hf
  go_enter Tryz.func43, Tryz.ntmps43
  go_upto_region 1 with fail
  refine box2 (P := fun W => Code.wp _ _ _ _ W) fun W HX0 BX BR => ?_
  have hgr : w.heap.size + 1 < W.heap.size := BR.out.lt
  go_wp2_with fail
  rw [HW2.out]
  generalize 2 ^ b = s at *
  refine (fof_any (s : Int) W (by omega) (by omega)).mono ?_
  rintro e w1 ⟨v1, rfl, hv1, hx1⟩
  obtain ⟨a0, A0, a1, a2, b0, B0, b1, b2, rfl, _, _⟩ := hv1.parts
  go_upto_region 2 with fail
  refine newbox (P := fun W => Code.wp _ _ _ _ W) hv1 fun W2 HX2 BS hsz2 => ?_
  have HY2 := Lib.hid (hx1.trans HX2.out)
  have hg1 : W.heap.size ≤ w1.heap.size := hx1.size
  clear hx1 hv1 HX2
  go_wp2_with fail
  refine (fof_any 1 W2 (by decide) (by decide)).mono ?_
  rintro e w3 ⟨v3, rfl, hv3, hx3⟩
  go_wp2_with fail
  refine (fof_any 2 w3 (by decide) (by decide)).mono ?_
  rintro e w4 ⟨v4, rfl, hv4, hx4⟩
  go_wp2_with fail
  refine (fdiv_any v3 v4 _ _ w4 (hv3.ext hx4) hv4 (int_fitR (e := 1) (by decide) (by decide)) (int_fitR (e := 1) (by decide) (by decide)) (by decide) (by decide)).mono ?_
  rintro e w5 ⟨v5, rfl, hv5, hx5⟩
  rw [half_eq] at hv5
  obtain ⟨a0, A0, a1, a2, b0, B0, b1, b2, rfl, _, _⟩ := hv5.parts
  have HY5 := Lib.hid (HY2.out.trans (hx3.trans (hx4.trans hx5)))
  have BS5 := Lib.hid (BS.out.ext (hx3.trans (hx4.trans hx5)))
  have hg3 : w1.heap.size + 1 ≤ w5.heap.size := by have := (hx3.trans (hx4.trans hx5)).size; omega
  clear hx3 hv3 hx4 hv4 hx5 BS HY2
  go_upto_region 3 with fail
  refine newbox (P := fun W => Code.wp _ _ _ _ W) hv5 fun W6 HX6 BH hsz6 => ?_
  have HY6 := Lib.hid (HY5.out.trans HX6.out)
  have BS6 := Lib.hid (BS5.out.ext HX6.out)
  have BX6 := Lib.hid (BX.out.ext HY6.out)
  have BR6 := Lib.hid (BR.out.ext HY6.out)
  have HVW := Lib.hid (HV.out.ext (HX0.out.trans HY6.out))
  have HXW := Lib.hid (HX0.out.trans HY6.out)
  clear hv5 HX6 BS5 HY5 BX BR
  obtain ⟨x0, X0, x1, x2, y0, Y0, y1, y2, BS7, VS⟩ := BS6.out.parts
  obtain ⟨z0, Z0, z1, z2, t0, T0, t1, t2, BH7, VH⟩ := BH.out.parts
  obtain ⟨S, hSd⟩ : ∃ S : World → Prop, S = fun w' => (w'.cell? ⟨w.heap.size, 0, none⟩ = some (.bool bb) ∧ w'.cell? ⟨w.heap.size, 0 + 1, none⟩ = some (.slice A n c) ∧ w'.cell? ⟨w.heap.size, 0 + 2, none⟩ = some (.bool b') ∧ w'.cell? ⟨w.heap.size, 0 + 3, none⟩ = some (.slice A' n' c')) ∧ (w'.cell? ⟨w1.heap.size, 0, none⟩ = some (.bool x0) ∧ w'.cell? ⟨w1.heap.size, 0 + 1, none⟩ = some (.slice X0 x1 x2) ∧ w'.cell? ⟨w1.heap.size, 0 + 2, none⟩ = some (.bool y0) ∧ w'.cell? ⟨w1.heap.size, 0 + 3, none⟩ = some (.slice Y0 y1 y2)) ∧ (w'.cell? ⟨w5.heap.size, 0, none⟩ = some (.bool z0) ∧ w'.cell? ⟨w5.heap.size, 0 + 1, none⟩ = some (.slice Z0 z1 z2) ∧ w'.cell? ⟨w5.heap.size, 0 + 2, none⟩ = some (.bool t0) ∧ w'.cell? ⟨w5.heap.size, 0 + 3, none⟩ = some (.slice T0 t1 t2)) := ⟨_, rfl⟩
  have HSI : Hid (∀ w', S w' → (w'.cell? ⟨w.heap.size, 0, none⟩ = some (.bool bb) ∧ w'.cell? ⟨w.heap.size, 0 + 1, none⟩ = some (.slice A n c) ∧ w'.cell? ⟨w.heap.size, 0 + 2, none⟩ = some (.bool b') ∧ w'.cell? ⟨w.heap.size, 0 + 3, none⟩ = some (.slice A' n' c')) ∧ (w'.cell? ⟨w1.heap.size, 0, none⟩ = some (.bool x0) ∧ w'.cell? ⟨w1.heap.size, 0 + 1, none⟩ = some (.slice X0 x1 x2) ∧ w'.cell? ⟨w1.heap.size, 0 + 2, none⟩ = some (.bool y0) ∧ w'.cell? ⟨w1.heap.size, 0 + 3, none⟩ = some (.slice Y0 y1 y2)) ∧ (w'.cell? ⟨w5.heap.size, 0, none⟩ = some (.bool z0) ∧ w'.cell? ⟨w5.heap.size, 0 + 1, none⟩ = some (.slice Z0 z1 z2) ∧ w'.cell? ⟨w5.heap.size, 0 + 2, none⟩ = some (.bool t0) ∧ w'.cell? ⟨w5.heap.size, 0 + 3, none⟩ = some (.slice T0 t1 t2))) := by rw [Hid, hSd]; exact fun _ h => h
  have HSB : Hid (∀ w', Blk w' w.heap.size tFrac [.bool bb, .slice A n c, .bool b', .slice A' n' c'] → Blk w' w1.heap.size tFrac [.bool x0, .slice X0 x1 x2, .bool y0, .slice Y0 y1 y2] → Blk w' w5.heap.size tFrac [.bool z0, .slice Z0 z1 z2, .bool t0, .slice T0 t1 t2] → S w') := by rw [Hid, hSd]; exact fun w' h1 h2 h3 => ⟨h1.four, h2.four, h3.four⟩
  have HSE : Hid (∀ w', Ext W6 w' → S w') := fun w' h => HSB.out w' (BX6.out.ext h) (BS7.out.ext h) (BH7.out.ext h)
  have HS0 : Hid (S W6.drew) := HSE.out _ (Ext.refl W6).drew
  clear hSd
  refine AnyT.start (S := S) (T := fun _ => false) (by kernel_rfl) ?_
  refine AnyT.load 0 13 (.agg #[.bool bb, .slice A n c, .bool b', .slice A' n' c']) rfl (by kernel_rfl) (by kernel_rfl) (by kernel_rfl) (by kernel_rfl) (by kernel_rfl) (fun _ _ _ h => h) HS0.out ?_ ?_
  · intro o ho
    simp only [List.getElem?_toArray, List.getElem?_cons_zero, Option.some.injEq] at ho
    subst ho
    refine ⟨rfl, rfl, fun w' hSw => ?_⟩
    have hs := HSI.out w' hSw
    go_split_ands
    go_simp
  simp only [Act.put, List.setIfInBounds_toArray, List.set_cons_zero, List.set_cons_succ]
  refine AnyT.load 1 14 (.agg #[.bool x0, .slice X0 x1 x2, .bool y0, .slice Y0 y1 y2]) rfl (by kernel_rfl) (by kernel_rfl) (by kernel_rfl) (by kernel_rfl) (by kernel_rfl) (fun _ _ _ h => h) HS0.out ?_ ?_
  · intro o ho
    simp only [List.getElem?_toArray, List.getElem?_cons_succ, List.getElem?_cons_zero, Option.some.injEq] at ho
    subst ho
    refine ⟨rfl, rfl, fun w' hSw => ?_⟩
    have hs := HSI.out w' hSw
    go_split_ands
    go_simp
  simp only [Act.put, List.setIfInBounds_toArray, List.set_cons_zero, List.set_cons_succ]
  refine AnyT.load 3 16 (.agg #[.bool z0, .slice Z0 z1 z2, .bool t0, .slice T0 t1 t2]) rfl (by kernel_rfl) (by kernel_rfl) (by kernel_rfl) (by kernel_rfl) (by kernel_rfl) (fun _ _ _ h => h) HS0.out ?_ ?_
  · intro o ho
    simp only [List.getElem?_toArray, List.getElem?_cons_succ, List.getElem?_cons_zero, Option.some.injEq] at ho
    subst ho
    refine ⟨rfl, rfl, fun w' hSw => ?_⟩
    have hs := HSI.out w' hSw
    go_split_ands
    go_simp
  simp only [Act.put, List.setIfInBounds_toArray, List.set_cons_zero, List.set_cons_succ]
  refine AnyT.load 7 20 (.agg #[.bool x0, .slice X0 x1 x2, .bool y0, .slice Y0 y1 y2]) rfl (by kernel_rfl) (by kernel_rfl) (by kernel_rfl) (by kernel_rfl) (by kernel_rfl) (fun _ _ _ h => h) HS0.out ?_ ?_
  · intro o ho
    simp only [List.getElem?_toArray, List.getElem?_cons_succ, List.getElem?_cons_zero, Option.some.injEq] at ho
    subst ho
    refine ⟨rfl, rfl, fun w' hSw => ?_⟩
    have hs := HSI.out w' hSw
    go_split_ands
    go_simp
  simp only [Act.put, List.setIfInBounds_toArray, List.set_cons_zero, List.set_cons_succ]
  refine AnyT.step 2 (by kernel_rfl) ?_
  intro o ho K hK
  simp only [List.getElem?_toArray, List.getElem?_cons_succ, List.getElem?_cons_zero, Option.some.injEq] at ho
  subst ho
  go_simp
  refine (fmul_any _ _ _ _ _ (HVW.out.ext (Ext.refl W6).drew) (VS.out.ext (Ext.refl W6).drew) HF.out FS.out (by decide)).mono ?_
  rintro e w7 ⟨v7, rfl, hv7, hx7⟩
  have hy7 := (Ext.refl W6).drew.trans hx7
  refine hK.out _ _ (fun _ => HSE.out _ hy7) ?_
  refine AnyT.step 4 (by kernel_rfl) ?_
  intro o ho K hK
  simp only [List.getElem?_toArray, List.getElem?_cons_succ, List.getElem?_cons_zero, Option.some.injEq] at ho
  subst ho
  go_simp
  refine (fadd_any _ _ _ _ _ hv7 (VH.out.ext hy7) FM.out half_fit (by decide)).mono ?_
  rintro e w8 ⟨v8, rfl, hv8, hx8⟩
  have hy8 := hy7.trans hx8
  refine hK.out _ _ (fun _ => HSE.out _ hy8) ?_
  refine AnyT.step 5 (by kernel_rfl) ?_
  intro o ho K hK
  simp only [List.getElem?_toArray, List.getElem?_cons_succ, List.getElem?_cons_zero, Option.some.injEq] at ho
  subst ho
  go_simp
  refine (ffloor_any _ _ _ hv8 FA.out (by decide)).mono ?_
  rintro e w9 ⟨v9, rfl, hv9, hx9⟩
  have hy9 := hy8.trans hx9
  refine hK.out _ _ (fun _ => HSE.out _ hy9) ?_
  refine AnyT.step 6 (by kernel_rfl) ?_
  intro o ho K hK
  simp only [List.getElem?_toArray, List.getElem?_cons_succ, List.getElem?_cons_zero, Option.some.injEq] at ho
  subst ho
  go_simp
  refine (fwhole_any _ _ _ hv9).mono ?_
  rintro e w10 ⟨v10, rfl, hv10, hx10⟩
  have hy10 := hy9.trans hx10
  refine hK.out _ _ (fun _ => HSE.out _ hy10) ?_
  refine AnyT.step 8 (by kernel_rfl) ?_
  intro o ho K hK
  simp only [List.getElem?_toArray, List.getElem?_cons_succ, List.getElem?_cons_zero, Option.some.injEq] at ho
  subst ho
  go_simp
  refine (fdiv_any _ _ _ _ _ hv10 (VS.out.ext hy10) FF.out FS.out (by decide) (by rw [int_rat_num]; omega)).mono ?_
  rintro e w11 ⟨v11, rfl, hv11, hx11⟩
  obtain ⟨e0, E0, e1, e2, f0, F0, f1, f2, rfl, _, _⟩ := hv11.parts
  have hy11 := hy10.trans hx11
  refine hK.out _ _ (fun _ => HSE.out _ hy11) ?_
  rw [HRN.out] at hv11
  have BR11 := Lib.hid (BR6.out.ext hy11)
  have HX11 := Lib.hid (HXW.out.trans hy11)
  obtain ⟨k0, k1, k2, k3⟩ := BR11.out.four
  obtain ⟨m0, m1, m2, m3⟩ := BR11.out.free4
  obtain ⟨W', hW', HBN, HKN, HE, HON⟩ := Box.put BR11.out hv11 HX11.out (by omega)
  have HSN := Lib.hid (HSB.out W' ((BX6.out.ext hy11).only HON.out (by omega)) ((BS7.out.ext hy11).only HON.out (by omega)) ((BH7.out.ext hy11).only HON.out (by omega)))
  have HWn := Lib.hid hW'
  clear hW' hx7 hy7 hx8 hy8 hx9 hy9 hx10 hy10 hv7 hv8 hv9 hv10 hx11 hy11
  refine AnyT.step 9 (by kernel_rfl) ?_
  intro o ho K hK
  simp only [List.getElem?_toArray, List.getElem?_cons_succ, List.getElem?_cons_zero, Option.some.injEq] at ho
  subst ho
  go_simp
  refine hK.out _ _ (fun _ => by rw [HWn.out]; exact HSN.out) ?_
  refine AnyT.done (by kernel_rfl) ?_
  rw [HWn.out]
  clear k0 k1 k2 k3 m0 m1 m2 m3
  go_wp2_with fail
  exact ret_box rfl rfl rfl HBN.out (fun v h => ⟨v, rfl, h, HE.out⟩)
set_option maxRecDepth 100000 in
set_option maxHeartbeats 4000000 in
theorem mRound_any (q : Rat) (b : Nat) (w : World) (hf : FitQ 100 q) (hb : b ≤ 30) (ht : Tab w) :
    Calls Tryz.prog 18 #[.string ⟨(ratText q).toArray⟩, .int .i64 b] w fun e w' => e = .returned (.tuple #[.string ⟨(ratText (rnd q ((2 ^ b : Nat) : Int))).toArray⟩, .int .i64 0]) ∧ Ext w w' := by
  have HF := Lib.hid hf
  have HT := Lib.hid ht
  have RV := Lib.hid (fun w' => rvalid_any q w' (hf.mono (by decide)))
  have RD := Lib.hid (fun w' => xread_any q w' (hf.mono (by decide)))
  have RN := Lib.hid (fun v w' h => mround_any v q b w' h hf hb)
  have FR := Lib.hid ((rnd_fit hf hb).mono (show 100 + 22 ≤ 400 by decide))
  generalize rnd q ((2 ^ b : Nat) : Int) = r at *
  have FT := Lib.hid (fun v w' h ht => ffits_any v r w' h FR.out ht)
  generalize ratText q = tq at *
  generalize ratText r = tr at *
  clear hf ht
  have d1 : decide ((b : Int) < 0) = false := decide_eq_false (by omega)
  have d2 : decide ((b : Int) > 30) = false := decide_eq_false (by omega)
  go_enter Tryz.func18, Tryz.ntmps18
  go_wp2_with fail
  refine (RV.out w).mono ?_
  rintro e w1 ⟨rfl, hx1⟩
  go_wp2_with fail
  refine (RD.out w1).mono ?_
  rintro e w2 ⟨v2, rfl, hv2, hx2⟩
  go_wp2_with fail
  refine (RN.out v2 w2 hv2).mono ?_
  rintro e w3 ⟨v3, rfl, hv3, hx3⟩
  have HX := Lib.hid (hx1.trans (hx2.trans hx3))
  clear hx1 hx2 hx3 hv2
  go_wp2_with fail
  refine (FT.out v3 w3 hv3 (HT.out.ext HX.out)).mono ?_
  rintro e w4 ⟨rfl, hx4⟩
  go_wp2
  go_ret2
  exact ⟨rfl, HX.out.trans hx4⟩
theorem rats_fit {l : List Rat} {e d : Nat} (h : ∀ q ∈ l, FitQ e q) (he : e ≤ d) : ∀ q ∈ l, FitQ d q := fun q hq => (h q hq).mono he
theorem sc_fit {n r : Nat} {c : Rat} {lin : List Rat} {fac : List (List Rat)} {x : List Rat} (hm : MOk n r c lin fac) (hx : x.length = n) (fx : ∀ q ∈ x, FitQ 3 q) : FitQ 400 (sc c lin fac x) := by
  have h1 := score_fit (x := x) (l := termsF c lin fac n) (by rw [hx]; exact hm.n3) (terms_fit hm) fx (termsF c lin fac n).length (Nat.le_refl _)
  rw [List.take_of_length_le (Nat.le_refl _)] at h1
  have h2 := terms_length (c := c) (fac := fac) hm.ll hm.n3 n (Nat.le_refl _)
  have := hm.n3
  unfold sc
  rw [hm.ll]
  exact h1.mono (by omega)
set_option maxRecDepth 100000 in
set_option maxHeartbeats 4000000 in
theorem mScore_any (v : Value) (A : Option Addr) (ca n r : Nat) (c : Rat) (lin : List Rat) (fac : List (List Rat)) (x : List Rat) (w : World) (h : MV w v n c lin fac) (hx : RL w (.slice A n ca) x) (hm : MOk n r c lin fac) (fx : ∀ q ∈ x, FitQ 3 q) (ht : Tab w) :
    Calls Tryz.prog 15 #[v, .slice A n ca] w fun e w' => e = .returned (.tuple #[.string ⟨(ratText (sc c lin fac x)).toArray⟩, .int .i64 0]) ∧ Ext w w' := by
  have HM := Lib.hid hm
  have HMV := Lib.hid h
  have HX := Lib.hid hx
  have FX := Lib.hid fx
  have HT := Lib.hid ht
  obtain ⟨hxl, -, hca⟩ := cap_le hx
  have HXL := Lib.hid hxl
  have FS := Lib.hid (sc_fit hm hxl.symm fx)
  obtain ⟨Af, cf, Al, cl, Ax, cx, rfl, h1, -, -⟩ := h
  obtain ⟨-, -, hcf⟩ := cap_le h1
  have SCR := Lib.hid (fun v Aq cq w' h hq => score_any v Aq cq n r c lin fac x w' h hq hm fx)
  generalize sc c lin fac x = r' at *
  have FT := Lib.hid (fun v w' h ht => ffits_any v r' w' h FS.out ht)
  generalize ratText r' = tr at *
  clear h1 hx hm fx ht hxl
  generalize htc : ratText c = tc at *
  clear htc
  go_enter Tryz.func15, Tryz.ntmps15
  go_wp2_with fail
  refine box1 (P := fun W => Calls _ _ _ W _) fun W HX0 BX => ?_
  refine (check_any _ n r c lin fac W (HMV.out.ext HX0.out) HM.out).mono ?_
  rintro e w1 ⟨rfl, hx1⟩
  have BX1 := Lib.hid (BX.out.ext hx1)
  have HX1 := Lib.hid (HX0.out.trans hx1)
  clear BX hx1 HX0
  obtain ⟨k0, k1, k2, k3⟩ := BX1.out.four
  go_wp2_with fail
  refine (xvalid_any _ x w1 (RL.ext HX.out HX1.out) (fun q hq => (FX.out q hq).mono (by decide))).mono ?_
  rintro e w2 ⟨rfl, hx2⟩
  have BX2 := Lib.hid (BX1.out.ext hx2)
  have HX2 := Lib.hid (HX1.out.trans hx2)
  clear BX1 hx2 HX1 k0 k1 k2 k3
  obtain ⟨k0, k1, k2, k3⟩ := BX2.out.four
  go_wp2_with fail
  refine (mread_any _ n r c lin fac w2 (HMV.out.ext HX2.out) HM.out).mono ?_
  rintro e w3 ⟨v3, rfl, hv3, hx3⟩
  have HX3 := Lib.hid (HX2.out.trans hx3)
  have HV3 := Lib.hid hv3
  clear BX2 hx3 HX2 k0 k1 k2 k3 hv3
  go_wp2_with fail
  refine (xlist_any _ x w3 (RL.ext HX.out HX3.out) (fun q hq => (FX.out q hq).mono (by decide)) (by rw [← HXL.out]; have := HM.out.n3; omega)).mono ?_
  rintro e w4 ⟨v4, rfl, hv4, hx4⟩
  obtain ⟨A4, c4, rfl, _, _, HV4⟩ := hv4.parts
  have HX4 := Lib.hid (HX3.out.trans hx4)
  have HV3' := Lib.hid (HV3.out.ext hx4)
  rw [← HXL.out] at HV4 ⊢
  clear hx4 HX3 HV3 hv4
  go_wp2_with fail
  refine (SCR.out v3 A4 c4 w4 HV3'.out HV4.out).mono ?_
  rintro e w5 ⟨v5, rfl, hv5, hx5⟩
  have HX5 := Lib.hid (HX4.out.trans hx5)
  clear hx5 HX4
  go_wp2_with fail
  refine (FT.out v5 w5 hv5 (HT.out.ext HX5.out)).mono ?_
  rintro e w6 ⟨rfl, hx6⟩
  go_wp2
  go_ret2
  exact ⟨rfl, HX5.out.trans hx6⟩
end Go.Proofs.YtemnoemjmeflbaaGreatDoor
