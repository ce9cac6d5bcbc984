/- joinlearnref02.New at a negative denominator; joinlearnmake: Long. -/
import Derived.Test.YtemnoemjmeflbaaGreatDoorMkL
import Derived.Test.YtemnoemjmeflbaaGreatDoorShuf
namespace Go.Proofs.YtemnoemjmeflbaaGreatDoor
open Go.RowKit Go.Lib

theorem signed_flip (n : Nat) (b : Bool) : signed (!b) n = -signed b n := by
  cases b <;> simp [signed]
theorem divInt_quoN (x y : Int) (hy : y < 0) : signed (decide (x < 0) != decide ((((Nat.gcd x.natAbs y.natAbs : Nat) : Int)) < 0)) (x.natAbs / (((Nat.gcd x.natAbs y.natAbs : Nat) : Int)).natAbs) = -(Rat.divInt x y).num ∧ signed (decide (y < 0) != decide ((((Nat.gcd x.natAbs y.natAbs : Nat) : Int)) < 0)) (y.natAbs / (((Nat.gcd x.natAbs y.natAbs : Nat) : Int)).natAbs) = -((Rat.divInt x y).den : Int) := by
  have h := divInt_quo (-x) (-y) (by omega)
  rw [Rat.neg_divInt_neg, Int.natAbs_neg, Int.natAbs_neg] at h
  rw [← h.1, ← h.2]
  have hg : ¬ (((Nat.gcd x.natAbs y.natAbs : Nat) : Int)) < 0 := by omega
  rw [decide_eq_false hg, Bool.bne_false, Bool.bne_false, Bool.bne_false, Bool.bne_false, decide_eq_true hy, decide_eq_false (show ¬ (-y < 0) by omega)]
  constructor
  · rcases Int.lt_trichotomy x 0 with hx | hx | hx
    · rw [decide_eq_true hx, decide_eq_false (show ¬ (-x < 0) by omega), ← signed_flip]
      rfl
    · subst hx
      simp [signed]
    · rw [decide_eq_false (show ¬ (x < 0) by omega), decide_eq_true (show -x < 0 by omega), ← signed_flip]
      rfl
  · rw [← signed_flip]
    rfl
theorem signed_abs (b : Bool) (n : Nat) : (signed b n).natAbs = n := by cases b <;> simp [signed]
theorem put2b {a w : World} {g : Nat} {t : TypeId} {u0 u1 : Value} (hB : Blk w g t [u0, u1]) (he : Ext a w) (hg : a.heap.size ≤ g) (x0 x1 : Value) :
    ∃ W', ((w.setCell ⟨g, 0, none⟩ x0).setCell ⟨g, 1, none⟩ x1) = W' ∧ Hid (Blk W' g t [x0, x1]) ∧ Hid (∀ u, t ≠ u → Kept u w W') ∧ Hid (Only g w W') ∧ Hid (Ext a W') :=
  ⟨_, rfl, (hB.set_ 0 x0).set_ 1 x1, fun _ hu => (hB.kept_set hu 0 x0).trans ((hB.set_ 0 x0).kept_set hu 1 x1), ((Only.refl g w).set_ 0 x0).set_ 1 x1, (he.setCell hg _).setCell hg _⟩
set_option maxRecDepth 100000 in
set_option maxHeartbeats 1000000 in
theorem rnewN_any (va vb : Value) (x y : Int) (w : World) (ha : BigV w va x) (hb : BigV w vb y) (fx : FitZ x) (fy : FitZ y) (hy : y < 0) :
    Calls Tryz.prog 41 #[va, vb] w fun e w' => ∃ v', e = .returned v' ∧ RFrac w' v' (Rat.divInt x y) ∧ Ext w w' := by
  obtain ⟨ba, Aa, na, ca, rfl, HA⟩ := ha.parts
  obtain ⟨bb, Ab, nb, cb, rfl, HB⟩ := hb.parts
  have FX := Lib.hid fx
  have FY := Lib.hid fy
  have HDQ := Lib.hid (divInt_quoN x y hy)
  have hnb0 : ((nb : Int) == 0) = false := by rw [big_len HB.out]; exact decide_eq_false (by omega)
  have hgp : 0 < Nat.gcd x.natAbs y.natAbs := Nat.gcd_pos_of_pos_right _ (by omega)
  have HGP : Hid (((Nat.gcd x.natAbs y.natAbs : Nat) : Int) ≠ 0) := by unfold Hid; omega
  have FG : Hid (FitZ ((Nat.gcd x.natAbs y.natAbs : Nat) : Int)) := FY.out.le (by rw [Int.natAbs_natCast]; exact Nat.gcd_le_right _ (by omega))
  have HGC := Lib.hid (fun (w : World) (va vb : Value) (ha : BigV w va x) (hb : BigV w vb y) => rgcd_any va vb x y w ha hb FX.out FY.out)
  have FN : Hid (FitZ' (-(Rat.divInt x y).num)) := by
    rw [Hid, ← HDQ.out.1]
    refine (FitZ.le (x := x) fx ?_).wide
    rw [signed_abs]
    exact Nat.div_le_self _ _
  have FD : Hid (FitZ' (-((Rat.divInt x y).den : Int))) := by
    rw [Hid, ← HDQ.out.2]
    refine (FitZ.le (x := y) fy ?_).wide
    rw [signed_abs]
    exact Nat.div_le_self _ _
  have HD0 : Hid (-((Rat.divInt x y).den : Int) < 0) := by have := (Rat.divInt x y).den_pos; unfold Hid; omega
  generalize Nat.gcd x.natAbs y.natAbs = G at *
  generalize hqq : Rat.divInt x y = q at *
  clear ha hb fx fy hgp hqq
  go_enter Tryz.func41, Tryz.ntmps41
  go_wp2_with fail
  refine box3 (P := fun W => Calls _ _ _ W _) fun W HX0 BA BB BR => ?_
  refine (HGC.out W _ _ (HA.out.ext HX0.out) (HB.out.ext HX0.out)).mono ?_
  rintro e w1 ⟨v1, rfl, hv1, hx1⟩
  obtain ⟨b1, A1, n1, c1, rfl, HV1⟩ := hv1.parts
  go_upto_region 4 with fail
  refine box1 (P := fun W => Code.wp _ _ _ _ W) fun W2 HX2 BG => ?_
  have HXA := Lib.hid (hx1.trans HX2.out)
  have BA2 := Lib.hid (BA.out.ext HXA.out)
  have BB2 := Lib.hid (BB.out.ext HXA.out)
  have BR2 := Lib.hid (BR.out.ext HXA.out)
  have HX3 := Lib.hid (HX0.out.trans HXA.out)
  have HG2 := Lib.hid (hv1.ext HX2.out)
  obtain ⟨a0, a1⟩ := BA2.out.two
  obtain ⟨g0, g1⟩ := BG.out.two
  clear hx1 hv1 HV1 hnb0
  go_wp2_with fail
  refine (rquo_any _ _ x G W2 (HA.out.ext HX3.out) HG2.out FX.out FG.out HGP.out).mono ?_
  rintro e w3 ⟨v3, v3', rfl, hv3, hv3', hx3⟩
  rw [HDQ.out.1] at hv3
  obtain ⟨b3, A3, n3, c3, rfl, HV3⟩ := hv3.parts
  obtain ⟨b3', A3', n3', c3', rfl, _⟩ := hv3'.parts
  go_upto_region 5 with fail
  refine box2 (P := fun W => Code.wp _ _ _ _ W) fun W4 HX4 BN _ => ?_
  have HXB := Lib.hid (hx3.trans HX4.out)
  have BB4 := Lib.hid (BB2.out.ext HXB.out)
  have BR4 := Lib.hid (BR2.out.ext HXB.out)
  have BG4 := Lib.hid (BG.out.ext HXB.out)
  have HX5 := Lib.hid (HX3.out.trans HXB.out)
  have HG4 := Lib.hid (HG2.out.ext HXB.out)
  have HN4 := Lib.hid (hv3.ext HX4.out)
  have hg4 : w3.heap.size < W4.heap.size := BN.out.lt
  obtain ⟨b0, b1⟩ := BB4.out.two
  obtain ⟨g0, g1⟩ := BG4.out.two
  have hgw : w.heap.size + 1 + 1 < w3.heap.size := (BR2.out.ext hx3).lt
  clear hx3 hv3 hv3' HV3 a0 a1
  go_wp2_with fail
  refine (rquo_any _ _ y G W4 (HB.out.ext HX5.out) HG4.out FY.out FG.out HGP.out).mono ?_
  rintro e w5 ⟨v5, v5', rfl, hv5, hv5', hx5⟩
  rw [HDQ.out.2] at hv5
  obtain ⟨b5, A5, n5, c5, rfl, HV5⟩ := hv5.parts
  obtain ⟨b5', A5', n5', c5', rfl, _⟩ := hv5'.parts
  have hb5 : b5 = true := by rw [HV5.out.inv.1]; exact decide_eq_true HD0.out
  subst hb5
  go_upto_region 6 with fail
  refine box2 (P := fun W => Code.wp _ _ _ _ W) fun W6 HX6 BD _ => ?_
  have HXC := Lib.hid (hx5.trans HX6.out)
  have BR6 := Lib.hid (BR4.out.ext HXC.out)
  have BN6 := Lib.hid (BN.out.ext HXC.out)
  have HX7 := Lib.hid (HX5.out.trans HXC.out)
  have HN6 := Lib.hid (HN4.out.ext HXC.out)
  have HD6 := Lib.hid (hv5.ext HX6.out)
  have hg5 : w3.heap.size < w5.heap.size := by have := hx5.size; omega
  clear hx5 hv5 hv5' HV5 b0 b1 g0 g1
  obtain ⟨d0, d1⟩ := BD.out.two
  go_upto_region 7 with fail
  clear d0 d1
  obtain ⟨S, hSd⟩ : ∃ S : World → Prop, S = fun w' => (w'.cell? ⟨w3.heap.size, 0, none⟩ = some (.bool b3) ∧ w'.cell? ⟨w3.heap.size, 1, none⟩ = some (.slice A3 n3 c3)) ∧ w'.cell? ⟨w5.heap.size, 0, none⟩ = some (.bool true) ∧ w'.cell? ⟨w5.heap.size, 1, none⟩ = some (.slice A5 n5 c5) := ⟨_, rfl⟩
  have HSI : Hid (∀ w', S w' → (w'.cell? ⟨w3.heap.size, 0, none⟩ = some (.bool b3) ∧ w'.cell? ⟨w3.heap.size, 1, none⟩ = some (.slice A3 n3 c3)) ∧ w'.cell? ⟨w5.heap.size, 0, none⟩ = some (.bool true) ∧ w'.cell? ⟨w5.heap.size, 1, none⟩ = some (.slice A5 n5 c5)) := by rw [Hid, hSd]; exact fun _ h => h
  have HSE : Hid (∀ w', Ext W6 w' → S w') := by rw [Hid, hSd]; exact fun w' h => ⟨(BN6.out.ext h).two, (BD.out.ext h).two⟩
  have HS0 : Hid (S W6.drew) := HSE.out _ (Ext.refl W6).drew
  clear hSd
  refine AnyT.start (S := S) (T := fun j => decide (4 ≤ j)) (by kernel_rfl) ?_
  refine AnyT.load 0 32 (.agg #[.bool b3, .slice A3 n3 c3]) rfl (by kernel_rfl) (by kernel_rfl) (by kernel_rfl) (by kernel_rfl) (by kernel_rfl) (fun _ _ _ h => h) HS0.out ?_ ?_
  · intro o ho
    simp only [List.getElem?_toArray, List.getElem?_cons_zero, Option.some.injEq] at ho
    subst ho
    refine ⟨rfl, rfl, fun w' hSw => ?_⟩
    have hs := HSI.out w' hSw
    go_split_ands
    go_simp
  simp only [Act.put, List.setIfInBounds_toArray, List.set_cons_zero, List.set_cons_succ]
  refine AnyT.load 2 34 (.agg #[.bool true, .slice A5 n5 c5]) rfl (by kernel_rfl) (by kernel_rfl) (by kernel_rfl) (by kernel_rfl) (by kernel_rfl) (fun _ _ _ h => h) HS0.out ?_ ?_
  · intro o ho
    simp only [List.getElem?_toArray, List.getElem?_cons_succ, List.getElem?_cons_zero, Option.some.injEq] at ho
    subst ho
    refine ⟨rfl, rfl, fun w' hSw => ?_⟩
    have hs := HSI.out w' hSw
    go_split_ands
    go_simp
  simp only [Act.put, List.setIfInBounds_toArray, List.set_cons_zero, List.set_cons_succ]
  refine AnyT.step 1 (by kernel_rfl) ?_
  intro o ho K hK
  simp only [List.getElem?_toArray, List.getElem?_cons_succ, List.getElem?_cons_zero, Option.some.injEq] at ho
  subst ho
  go_simp
  refine (rneg_any _ _ _ (HN6.out.ext (Ext.refl W6).drew) FN.out).mono ?_
  rintro e w7 ⟨v7, rfl, hv7, hx7⟩
  rw [Int.neg_neg] at hv7
  obtain ⟨b7, A7, n7, c7, rfl, HV7⟩ := hv7.parts
  have hy7 := (Ext.refl W6).drew.trans hx7
  refine hK.out _ _ (fun _ => HSE.out _ hy7) ?_
  refine AnyT.step 3 (by kernel_rfl) ?_
  intro o ho K hK
  simp only [List.getElem?_toArray, List.getElem?_cons_succ, List.getElem?_cons_zero, Option.some.injEq] at ho
  subst ho
  go_simp
  refine (rneg_any _ _ _ (HD6.out.ext hy7) FD.out).mono ?_
  rintro e w8 ⟨v8, rfl, hv8, hx8⟩
  rw [Int.neg_neg] at hv8
  obtain ⟨b8, A8, n8, c8, rfl, HV8⟩ := hv8.parts
  have hy8 := hy7.trans hx8
  refine hK.out _ _ (fun _ => HSE.out _ hy8) ?_
  have BN8 := Lib.hid (BN6.out.ext hy8)
  have BD8 := Lib.hid (BD.out.ext hy8)
  have BR8 := Lib.hid (BR6.out.ext hy8)
  have HX8 := Lib.hid (HX7.out.trans hy8)
  have HN8 := Lib.hid (HV7.out.ext hx8)
  clear hx7 hy7 hx8 hy8 hv7 hv8 HV7 BN6 BD BR6
  obtain ⟨k0, k1⟩ := BN8.out.two
  have f0 := BN8.out.frozen 0
  have f1 := BN8.out.frozen 1
  obtain ⟨W', hW', BN9, KN9, ON9, EN9⟩ := put2b BN8.out HX8.out (by omega) (.bool b7) (.slice A7 n7 c7)
  have HW9 := Lib.hid hW'
  have BD9 := Lib.hid (BD8.out.only ON9.out (by omega))
  have BR9 := Lib.hid (BR8.out.only ON9.out (by omega))
  have HN9 := Lib.hid (HN8.out.keep (KN9.out _ (by decide)))
  have HD9 := Lib.hid (HV8.out.keep (KN9.out _ (by decide)))
  clear hW'
  refine AnyT.step 4 (by kernel_rfl) ?_
  intro o ho K hK
  simp only [List.getElem?_toArray, List.getElem?_cons_succ, List.getElem?_cons_zero, Option.some.injEq] at ho
  subst ho
  go_simp
  refine hK.out _ _ (fun h => by cases h) ?_
  rw [HW9.out]
  clear k0 k1 f0 f1 BN8 BD8 BR8 HN8 HV8
  obtain ⟨k0, k1⟩ := BD9.out.two
  have f0 := BD9.out.frozen 0
  have f1 := BD9.out.frozen 1
  obtain ⟨Wz, hWz, BD10, KN10, ON10, EN10⟩ := put2b BD9.out EN9.out (by have := HX8.out.size; omega) (.bool b8) (.slice A8 n8 c8)
  have HW10 := Lib.hid hWz
  have BN10 := Lib.hid (BN9.out.only ON10.out (by omega))
  have BR10 := Lib.hid (BR9.out.only ON10.out (by omega))
  have HF : Hid (RFrac Wz (.agg #[.bool b7, .slice A7 n7 c7, .bool b8, .slice A8 n8 c8]) q) := .mk' (HN9.out.keep (KN10.out _ (by decide))) (HD9.out.keep (KN10.out _ (by decide)))
  clear hWz
  refine AnyT.step 5 (by kernel_rfl) ?_
  intro o ho K hK
  simp only [List.getElem?_toArray, List.getElem?_cons_succ, List.getElem?_cons_zero, Option.some.injEq] at ho
  subst ho
  go_simp
  refine hK.out _ _ (fun h => by cases h) ?_
  refine AnyT.done (by kernel_rfl) ?_
  rw [HW10.out]
  clear k0 k1 f0 f1
  obtain ⟨n0, n1⟩ := BN10.out.two
  obtain ⟨d0, d1⟩ := BD10.out.two
  obtain ⟨k0, k1, k2, k3⟩ := BR10.out.four
  obtain ⟨f0, f1, f2, f3⟩ := BR10.out.free4
  go_wp2
  exact ret_rfrac rfl rfl rfl BR10.out HF.out EN10.out (by omega) (fun v W' h1 h2 => ⟨v, rfl, h1, h2⟩)
theorem rnewA_any (va vb : Value) (x y : Int) (w : World) (ha : BigV w va x) (hb : BigV w vb y) (fx : FitZ x) (fy : FitZ y) (hy : y ≠ 0) :
    Calls Tryz.prog 41 #[va, vb] w fun e w' => ∃ v', e = .returned v' ∧ RFrac w' v' (Rat.divInt x y) ∧ Ext w w' := by
  rcases Int.lt_or_lt_of_ne hy with h | h
  · exact rnewN_any va vb x y w ha hb fx fy h
  · exact rnew_any va vb x y w ha hb fx fy h
theorem long_fit {x y : Int} {d : Nat} (hx : x.natAbs < 10 ^ d) (hy : y.natAbs < 10 ^ d) (h0 : y ≠ 0) (hd : 1 ≤ d) : FitQ (d + d) (Rat.divInt x y) := by
  rcases Int.lt_or_lt_of_ne h0 with h | h
  · rw [← Rat.neg_divInt_neg]
    exact long_fitR (by rw [Int.natAbs_neg]; exact hx) (by rw [Int.natAbs_neg]; exact hy) (by omega) hd
  · exact long_fitR hx hy h hd
theorem fit12 {z : Int} (h : z.natAbs < 10 ^ 12) : FitZ z := ⟨12, by decide, h⟩
theorem Only.fresh {a w w' : World} {g k : Nat} (h : Only g a w) (ho : Only k w w') (hk : a.heap.size ≤ k) : Only g a w' :=
  ⟨ho.os.trans h.os, ho.tape.trans h.tape, ho.output.trans h.output, Nat.le_trans h.size ho.size, fun i hi hne => (ho.block i (Nat.lt_of_lt_of_le hi h.size) (by simp; omega)).trans (h.block i hi hne)⟩
theorem SrcAt.past {w w' : World} {g k : Nat} (h : SrcAt w g) (ho : Only k w w') (hk : g < k) : SrcAt w' g := h.grown ho (fun j hj => by injection hj with hj; omega)
set_option maxRecDepth 100000 in
set_option maxHeartbeats 1000000 in
theorem mlong_any (g : Nat) (w : World) (h : SrcAt w g) :
    Calls Tryz.prog 17 #[.pointer (some ⟨g, 0, none⟩), .int .i64 12] w fun e w' => ∃ q, FitQ 24 q ∧ e = .returned (.string ⟨(ratText q).toArray⟩) ∧ SrcAt w' g ∧ Only g w w' := by
  have HS := Lib.hid h
  have hgw := h.lt
  clear h
  go_enter Tryz.func17, Tryz.ntmps17
  go_wp2_with fail
  refine (mbig_any g 12 w HS.out (by decide)).mono ?_
  rintro e w1 ⟨y, hy, rfl, hs1, ho1⟩
  have HY := Lib.hid hy
  have RY := Lib.hid (fun w' => rread_any y w' (fit12 HY.out).wide)
  generalize decZ y = ty at *
  clear hy
  go_wp2_with fail
  refine (RY.out w1).mono ?_
  rintro e w2 ⟨v2, rfl, hv2, hx2⟩
  obtain ⟨bd, Ad, nd, cd, rfl, HV2⟩ := hv2.parts
  have hg2 : w.heap.size ≤ w2.heap.size := Nat.le_trans ho1.size hx2.size
  go_upto_region 2 with fail
  refine box1 (P := fun W => Code.wp _ _ _ _ W) fun W HX0 BD => ?_
  have VD := Lib.hid (HV2.out.ext HX0.out)
  have HSR := Lib.hid ((hs1.ext hx2).ext HX0.out)
  have HON := Lib.hid ((ho1.trans (Only.of_ext hx2)).trans (Only.of_ext HX0.out))
  have hll := big_len HV2.out
  clear hs1 ho1 hx2 hv2 HV2 RY
  obtain ⟨y0, y1⟩ := BD.out.two
  by_cases hy0 : y = 0
  · have hl0 : ((nd : Int) == 0) = true := by rw [hll]; exact decide_eq_true hy0
    clear hll hy0
    go_wp2_with fail
    refine (rof_any 1 W (by decide) (by decide)).mono ?_
    rintro e w3 ⟨v3, rfl, hv3, hx3⟩
    obtain ⟨b3, A3, n3, c3, rfl, HV3⟩ := hv3.parts
    have BD3 := Lib.hid (BD.out.ext hx3)
    have HSR3 := Lib.hid (HSR.out.ext hx3)
    have HON3 := Lib.hid (HON.out.trans (Only.of_ext hx3))
    have HX3 := Lib.hid (HX0.out.trans hx3)
    clear hv3 hx3 y0 y1 BD HSR HON
    obtain ⟨k0, k1⟩ := BD3.out.two
    have f0 := BD3.out.frozen 0
    have f1 := BD3.out.frozen 1
    obtain ⟨Wz, hWz, BDz, KNz, ONz, -⟩ := put2b BD3.out HX3.out (Nat.le_refl _) (.bool b3) (.slice A3 n3 c3)
    have HWz := Lib.hid hWz
    have VDz := Lib.hid (HV3.out.keep (KNz.out _ (by decide)))
    have HSRz := Lib.hid (HSR3.out.past ONz.out (by omega))
    have HONz := Lib.hid (HON3.out.fresh ONz.out hg2)
    have HY1 : Hid ((1 : Int).natAbs < 10 ^ 12) := by unfold Hid; decide
    have HY0 : Hid ((1 : Int) ≠ 0) := by unfold Hid; decide
    clear hWz HV3 HSR3 HON3 VD HY
    go_upto_region 4 with fail
    rw [HWz.out]
    clear k0 k1 f0 f1 HWz BD3 ONz KNz HX3 HX0
    generalize (1 : Int) = yy at VDz HY1 HY0
    go_upto_region 4 with fail
    obtain ⟨y0, y1⟩ := BDz.out.two
    obtain ⟨S, hSd⟩ : ∃ S : World → Prop, S = fun w' => w'.cell? ⟨w2.heap.size, 0, none⟩ = some (.bool b3) ∧ w'.cell? ⟨w2.heap.size, 1, none⟩ = some (.slice A3 n3 c3) := ⟨_, rfl⟩
    have HSI : Hid (∀ w', S w' → w'.cell? ⟨w2.heap.size, 0, none⟩ = some (.bool b3) ∧ w'.cell? ⟨w2.heap.size, 1, none⟩ = some (.slice A3 n3 c3)) := by rw [Hid, hSd]; exact fun _ h => h
    have HSB : Hid (∀ w', Blk w' w2.heap.size tBig [.bool b3, .slice A3 n3 c3] → S w') := by rw [Hid, hSd]; exact fun w' h => h.two
    have HS0 : Hid (S Wz.drew) := HSB.out _ BDz.out
    clear hSd y0 y1
    refine AnyT.start (S := S) (T := fun _ => false) (by kernel_rfl) ?_
    refine AnyT.load 0 18 (.pointer (some ⟨g, 0, none⟩)) rfl (by kernel_rfl) (by kernel_rfl) (by kernel_rfl) (by kernel_rfl) (by kernel_rfl) (fun _ _ _ h => h) HS0.out ?_ ?_
    · intro o ho
      simp only [List.getElem?_toArray, List.getElem?_cons_zero, Option.some.injEq] at ho
      subst ho
      refine ⟨rfl, rfl, fun w' hSw => ?_⟩
      have hs := HSI.out w' hSw
      go_split_ands
      go_simp
    simp only [Act.put, List.setIfInBounds_toArray, List.set_cons_zero, List.set_cons_succ]
    refine AnyT.load 1 19 (.int .i64 12) rfl (by kernel_rfl) (by kernel_rfl) (by kernel_rfl) (by kernel_rfl) (by kernel_rfl) (fun _ _ _ h => h) HS0.out ?_ ?_
    · intro o ho
      simp only [List.getElem?_toArray, List.getElem?_cons_succ, List.getElem?_cons_zero, Option.some.injEq] at ho
      subst ho
      refine ⟨rfl, rfl, fun w' hSw => ?_⟩
      have hs := HSI.out w' hSw
      go_split_ands
      go_simp
    simp only [Act.put, List.setIfInBounds_toArray, List.set_cons_zero, List.set_cons_succ]
    refine AnyT.load 4 22 (.agg #[.bool b3, .slice A3 n3 c3]) rfl (by kernel_rfl) (by kernel_rfl) (by kernel_rfl) (by kernel_rfl) (by kernel_rfl) (fun _ _ _ h => h) HS0.out ?_ ?_
    · intro o ho
      simp only [List.getElem?_toArray, List.getElem?_cons_succ, List.getElem?_cons_zero, Option.some.injEq] at ho
      subst ho
      refine ⟨rfl, rfl, fun w' hSw => ?_⟩
      have hs := HSI.out w' hSw
      go_split_ands
      go_simp
    simp only [Act.put, List.setIfInBounds_toArray, List.set_cons_zero, List.set_cons_succ]
    refine AnyT.step 2 (by kernel_rfl) ?_
    intro o ho K hK
    simp only [List.getElem?_toArray, List.getElem?_cons_succ, List.getElem?_cons_zero, Option.some.injEq] at ho
    subst ho
    go_simp
    refine (mbig_any g 12 _ (HSRz.out.ext (Ext.refl Wz).drew) (by decide)).mono ?_
    rintro e w5 ⟨x, hx, rfl, hs5, ho5⟩
    have BD5 := Lib.hid (BDz.out.drew.only ho5 (by omega))
    have VD5 := Lib.hid ((VDz.out.ext (Ext.refl Wz).drew).keep (Src.kept (HSRz.out.ext (Ext.refl Wz).drew) ho5 (by decide)))
    have HON5 := Lib.hid ((HONz.out.trans (Only.of_ext (Ext.refl Wz).drew)).trans ho5)
    have HS5 := Lib.hid hs5
    have HX := Lib.hid hx
    clear hs5 ho5 hx
    refine hK.out _ _ (fun _ => HSB.out _ BD5.out) ?_
    have RX := Lib.hid (fun w' => rread_any x w' (fit12 HX.out).wide)
    generalize decZ x = tx at *
    refine AnyT.step 3 (by kernel_rfl) ?_
    intro o ho K hK
    simp only [List.getElem?_toArray, List.getElem?_cons_succ, List.getElem?_cons_zero, Option.some.injEq] at ho
    subst ho
    go_simp
    refine (RX.out w5).mono ?_
    rintro e w6 ⟨v6, rfl, hv6, hx6⟩
    refine hK.out _ _ (fun _ => HSB.out _ (BD5.out.ext hx6)) ?_
    refine AnyT.step 5 (by kernel_rfl) ?_
    intro o ho K hK
    simp only [List.getElem?_toArray, List.getElem?_cons_succ, List.getElem?_cons_zero, Option.some.injEq] at ho
    subst ho
    go_simp
    refine (rnewA_any _ _ x yy w6 hv6 (VD5.out.ext hx6) (fit12 HX.out) (fit12 HY1.out) HY0.out).mono ?_
    rintro e w7 ⟨v7, rfl, hv7, hx7⟩
    refine hK.out _ _ (fun _ => HSB.out _ (BD5.out.ext (hx6.trans hx7))) ?_
    have FQ := Lib.hid (long_fit HX.out HY1.out HY0.out (by decide))
    generalize Rat.divInt x yy = q at *
    have RG := Lib.hid (fun w' h => rfgive_any v7 q w' h (FQ.out.mono (by decide)))
    generalize htq : ratText q = tq at *
    have HTQ := Lib.hid htq
    clear htq
    refine AnyT.step 6 (by kernel_rfl) ?_
    intro o ho K hK
    simp only [List.getElem?_toArray, List.getElem?_cons_succ, List.getElem?_cons_zero, Option.some.injEq] at ho
    subst ho
    go_simp
    refine (RG.out w7 hv7).mono ?_
    rintro e w8 ⟨rfl, hx8⟩
    have hy8 := hx6.trans (hx7.trans hx8)
    have BD8 := Lib.hid (BD5.out.ext hy8)
    refine hK.out _ _ (fun _ => HSB.out _ BD8.out) ?_
    have HXF := Lib.hid hy8
    clear hx6 hx7 hx8 hy8 hv6 hv7
    refine AnyT.step 7 (by kernel_rfl) ?_
    intro o ho K hK
    simp only [List.getElem?_toArray, List.getElem?_cons_succ, List.getElem?_cons_zero, Option.some.injEq] at ho
    subst ho
    go_simp
    refine hK.out _ _ (fun _ => HSB.out _ BD8.out) ?_
    clear HS0
    have HS0 : Hid (S w8) := HSB.out _ BD8.out
    refine AnyT.load 8 25 (.string ⟨tq.toArray⟩) rfl (by kernel_rfl) (by kernel_rfl) (by kernel_rfl) (by kernel_rfl) (by kernel_rfl) (fun _ _ _ h => h) HS0.out ?_ ?_
    · intro o ho
      simp only [List.getElem?_toArray, List.getElem?_cons_succ, List.getElem?_cons_zero, Option.some.injEq] at ho
      subst ho
      refine ⟨rfl, rfl, fun w' hSw => ?_⟩
      have hs := HSI.out w' hSw
      go_split_ands
      go_simp
    simp only [Act.put, List.setIfInBounds_toArray, List.set_cons_zero, List.set_cons_succ]
    refine AnyT.load 9 26 (.int .i64 0) rfl (by kernel_rfl) (by kernel_rfl) (by kernel_rfl) (by kernel_rfl) (by kernel_rfl) (fun _ _ _ h => h) HS0.out ?_ ?_
    · intro o ho
      simp only [List.getElem?_toArray, List.getElem?_cons_succ, List.getElem?_cons_zero, Option.some.injEq] at ho
      subst ho
      refine ⟨rfl, rfl, fun w' hSw => ?_⟩
      have hs := HSI.out w' hSw
      go_split_ands
      go_simp
    simp only [Act.put, List.setIfInBounds_toArray, List.set_cons_zero, List.set_cons_succ]
    refine AnyT.step 10 (by kernel_rfl) ?_
    intro o ho K hK
    simp only [List.getElem?_toArray, List.getElem?_cons_succ, List.getElem?_cons_zero, Option.some.injEq] at ho
    subst ho
    go_simp
    refine hK.out _ _ (fun _ => HS0.out) ?_
    refine AnyT.step 11 (by kernel_rfl) ?_
    intro o ho K hK
    simp only [List.getElem?_toArray, List.getElem?_cons_succ, List.getElem?_cons_zero, Option.some.injEq] at ho
    subst ho
    go_simp
    refine hK.out _ _ (fun _ => HS0.out) ?_
    refine AnyT.done (by kernel_rfl) ?_
    go_wp2
    go_ret
    exact ⟨q, FQ.out, by rw [HTQ.out]; rfl, HS5.out.ext HXF.out, HON5.out.trans (Only.of_ext HXF.out)⟩
  · have hl0 : ((nd : Int) == 0) = false := by rw [hll]; exact decide_eq_false hy0
    have HY0 := Lib.hid hy0
    clear hll hy0 y0 y1
    obtain ⟨y0, y1⟩ := BD.out.two
    go_upto_region 4 with fail
    obtain ⟨y0, y1⟩ := BD.out.two
    obtain ⟨S, hSd⟩ : ∃ S : World → Prop, S = fun w' => w'.cell? ⟨w2.heap.size, 0, none⟩ = some (.bool bd) ∧ w'.cell? ⟨w2.heap.size, 1, none⟩ = some (.slice Ad nd cd) := ⟨_, rfl⟩
    have HSI : Hid (∀ w', S w' → w'.cell? ⟨w2.heap.size, 0, none⟩ = some (.bool bd) ∧ w'.cell? ⟨w2.heap.size, 1, none⟩ = some (.slice Ad nd cd)) := by rw [Hid, hSd]; exact fun _ h => h
    have HSB : Hid (∀ w', Blk w' w2.heap.size tBig [.bool bd, .slice Ad nd cd] → S w') := by rw [Hid, hSd]; exact fun w' h => h.two
    have HS0 : Hid (S W.drew) := HSB.out _ BD.out
    clear hSd y0 y1
    refine AnyT.start (S := S) (T := fun _ => false) (by kernel_rfl) ?_
    refine AnyT.load 0 18 (.pointer (some ⟨g, 0, none⟩)) rfl (by kernel_rfl) (by kernel_rfl) (by kernel_rfl) (by kernel_rfl) (by kernel_rfl) (fun _ _ _ h => h) HS0.out ?_ ?_
    · intro o ho
      simp only [List.getElem?_toArray, List.getElem?_cons_zero, Option.some.injEq] at ho
      subst ho
      refine ⟨rfl, rfl, fun w' hSw => ?_⟩
      have hs := HSI.out w' hSw
      go_split_ands
      go_simp
    simp only [Act.put, List.setIfInBounds_toArray, List.set_cons_zero, List.set_cons_succ]
    refine AnyT.load 1 19 (.int .i64 12) rfl (by kernel_rfl) (by kernel_rfl) (by kernel_rfl) (by kernel_rfl) (by kernel_rfl) (fun _ _ _ h => h) HS0.out ?_ ?_
    · intro o ho
      simp only [List.getElem?_toArray, List.getElem?_cons_succ, List.getElem?_cons_zero, Option.some.injEq] at ho
      subst ho
      refine ⟨rfl, rfl, fun w' hSw => ?_⟩
      have hs := HSI.out w' hSw
      go_split_ands
      go_simp
    simp only [Act.put, List.setIfInBounds_toArray, List.set_cons_zero, List.set_cons_succ]
    refine AnyT.load 4 22 (.agg #[.bool bd, .slice Ad nd cd]) rfl (by kernel_rfl) (by kernel_rfl) (by kernel_rfl) (by kernel_rfl) (by kernel_rfl) (fun _ _ _ h => h) HS0.out ?_ ?_
    · intro o ho
      simp only [List.getElem?_toArray, List.getElem?_cons_succ, List.getElem?_cons_zero, Option.some.injEq] at ho
      subst ho
      refine ⟨rfl, rfl, fun w' hSw => ?_⟩
      have hs := HSI.out w' hSw
      go_split_ands
      go_simp
    simp only [Act.put, List.setIfInBounds_toArray, List.set_cons_zero, List.set_cons_succ]
    refine AnyT.step 2 (by kernel_rfl) ?_
    intro o ho K hK
    simp only [List.getElem?_toArray, List.getElem?_cons_succ, List.getElem?_cons_zero, Option.some.injEq] at ho
    subst ho
    go_simp
    refine (mbig_any g 12 _ (HSR.out.ext (Ext.refl W).drew) (by decide)).mono ?_
    rintro e w5 ⟨x, hx, rfl, hs5, ho5⟩
    have BD5 := Lib.hid (BD.out.drew.only ho5 (by omega))
    have VD5 := Lib.hid ((VD.out.ext (Ext.refl W).drew).keep (Src.kept (HSR.out.ext (Ext.refl W).drew) ho5 (by decide)))
    have HON5 := Lib.hid ((HON.out.trans (Only.of_ext (Ext.refl W).drew)).trans ho5)
    have HS5 := Lib.hid hs5
    have HX := Lib.hid hx
    clear hs5 ho5 hx
    refine hK.out _ _ (fun _ => HSB.out _ BD5.out) ?_
    have RX := Lib.hid (fun w' => rread_any x w' (fit12 HX.out).wide)
    generalize decZ x = tx at *
    refine AnyT.step 3 (by kernel_rfl) ?_
    intro o ho K hK
    simp only [List.getElem?_toArray, List.getElem?_cons_succ, List.getElem?_cons_zero, Option.some.injEq] at ho
    subst ho
    go_simp
    refine (RX.out w5).mono ?_
    rintro e w6 ⟨v6, rfl, hv6, hx6⟩
    refine hK.out _ _ (fun _ => HSB.out _ (BD5.out.ext hx6)) ?_
    refine AnyT.step 5 (by kernel_rfl) ?_
    intro o ho K hK
    simp only [List.getElem?_toArray, List.getElem?_cons_succ, List.getElem?_cons_zero, Option.some.injEq] at ho
    subst ho
    go_simp
    refine (rnewA_any _ _ x y w6 hv6 (VD5.out.ext hx6) (fit12 HX.out) (fit12 HY.out) HY0.out).mono ?_
    rintro e w7 ⟨v7, rfl, hv7, hx7⟩
    refine hK.out _ _ (fun _ => HSB.out _ (BD5.out.ext (hx6.trans hx7))) ?_
    have FQ := Lib.hid (long_fit HX.out HY.out HY0.out (by decide))
    generalize Rat.divInt x y = q at *
    have RG := Lib.hid (fun w' h => rfgive_any v7 q w' h (FQ.out.mono (by decide)))
    generalize htq : ratText q = tq at *
    have HTQ := Lib.hid htq
    clear htq
    refine AnyT.step 6 (by kernel_rfl) ?_
    intro o ho K hK
    simp only [List.getElem?_toArray, List.getElem?_cons_succ, List.getElem?_cons_zero, Option.some.injEq] at ho
    subst ho
    go_simp
    refine (RG.out w7 hv7).mono ?_
    rintro e w8 ⟨rfl, hx8⟩
    have hy8 := hx6.trans (hx7.trans hx8)
    have BD8 := Lib.hid (BD5.out.ext hy8)
    refine hK.out _ _ (fun _ => HSB.out _ BD8.out) ?_
    have HXF := Lib.hid hy8
    clear hx6 hx7 hx8 hy8 hv6 hv7
    refine AnyT.step 7 (by kernel_rfl) ?_
    intro o ho K hK
    simp only [List.getElem?_toArray, List.getElem?_cons_succ, List.getElem?_cons_zero, Option.some.injEq] at ho
    subst ho
    go_simp
    refine hK.out _ _ (fun _ => HSB.out _ BD8.out) ?_
    clear HS0
    have HS0 : Hid (S w8) := HSB.out _ BD8.out
    refine AnyT.load 8 25 (.string ⟨tq.toArray⟩) rfl (by kernel_rfl) (by kernel_rfl) (by kernel_rfl) (by kernel_rfl) (by kernel_rfl) (fun _ _ _ h => h) HS0.out ?_ ?_
    · intro o ho
      simp only [List.getElem?_toArray, List.getElem?_cons_succ, List.getElem?_cons_zero, Option.some.injEq] at ho
      subst ho
      refine ⟨rfl, rfl, fun w' hSw => ?_⟩
      have hs := HSI.out w' hSw
      go_split_ands
      go_simp
    simp only [Act.put, List.setIfInBounds_toArray, List.set_cons_zero, List.set_cons_succ]
    refine AnyT.load 9 26 (.int .i64 0) rfl (by kernel_rfl) (by kernel_rfl) (by kernel_rfl) (by kernel_rfl) (by kernel_rfl) (fun _ _ _ h => h) HS0.out ?_ ?_
    · intro o ho
      simp only [List.getElem?_toArray, List.getElem?_cons_succ, List.getElem?_cons_zero, Option.some.injEq] at ho
      subst ho
      refine ⟨rfl, rfl, fun w' hSw => ?_⟩
      have hs := HSI.out w' hSw
      go_split_ands
      go_simp
    simp only [Act.put, List.setIfInBounds_toArray, List.set_cons_zero, List.set_cons_succ]
    refine AnyT.step 10 (by kernel_rfl) ?_
    intro o ho K hK
    simp only [List.getElem?_toArray, List.getElem?_cons_succ, List.getElem?_cons_zero, Option.some.injEq] at ho
    subst ho
    go_simp
    refine hK.out _ _ (fun _ => HS0.out) ?_
    refine AnyT.step 11 (by kernel_rfl) ?_
    intro o ho K hK
    simp only [List.getElem?_toArray, List.getElem?_cons_succ, List.getElem?_cons_zero, Option.some.injEq] at ho
    subst ho
    go_simp
    refine hK.out _ _ (fun _ => HS0.out) ?_
    refine AnyT.done (by kernel_rfl) ?_
    go_wp2
    go_ret
    exact ⟨q, FQ.out, by rw [HTQ.out]; rfl, HS5.out.ext HXF.out, HON5.out.trans (Only.of_ext HXF.out)⟩
end Go.Proofs.YtemnoemjmeflbaaGreatDoor
