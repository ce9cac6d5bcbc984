/- joinlearnmake: Masses. -/
import Derived.Test.YtkhmfgkbobblmaaGreatDoorRBox
import Derived.Test.YtkhmfgkbobblmaaGreatDoorLay
import Derived.Test.YtkhmfgkbobblmaaGreatDoorMkR
import Derived.Test.YtkhmfgkbobblmaaGreatDoorLit
namespace Go.Proofs.YtkhmfgkbobblmaaGreatDoor
open Go.RowKit Go.Lib

theorem RBox.past {w w' : World} {g k : Nat} {q : Rat} (h : RBox w g q) (ho : Only k w w') (hne : g ≠ k) (hk : Kept tI w w') : RBox w' g q := by
  obtain ⟨b, A, n, c, b', A', n', c', h1, h2⟩ := h
  exact ⟨b, A, n, c, b', A', n', c', h1.only ho hne, h2.keep hk⟩
theorem mass_slice : SliceTy Tryz.prog 27 tMass 2 32 := .mk' (z := .agg #[.string ⟨#[]⟩, .string ⟨#[]⟩]) (by kernel_rfl) (by kernel_rfl) rfl (by decide) (by decide)
/-- a made weight, a made step -/
def Mwt (q : Rat) : Prop := ∃ y : Int, q * 2 = (y : Rat) ∧ 1 ≤ y ∧ y ≤ 14
def Mst (d : Rat) : Prop := ∃ z : Int, d * 12 = (z : Rat) ∧ 1 ≤ z ∧ z ≤ 120
theorem Mwt.fit {q : Rat} (h : Mwt q) : FitQ 4 q := by
  obtain ⟨y, h1, h2, h3⟩ := h
  exact (show Whl 2 98 q from ⟨y, h1, by omega⟩).fit (by decide) (by decide) (by decide)
theorem Mst.fit {q : Rat} (h : Mst q) : FitQ 4 q := by
  obtain ⟨y, h1, h2, h3⟩ := h
  exact (show Whl 12 120 q from ⟨y, h1, by omega⟩).fit (by decide) (by decide) (by decide)
theorem Mst.pos {d : Rat} (h : Mst d) : 0 < d := by
  obtain ⟨y, h1, h2, h3⟩ := h
  have h6 : ((0 : Int) : Rat) < (y : Rat) := Rat.intCast_lt_intCast.2 (show (0 : Int) < y by omega)
  have h7 : ((0 : Int) : Rat) = 0 := rfl
  rw [h7] at h6
  grind
def mwt : List Value := [.string ⟨#[49]⟩, .string ⟨#[49]⟩, .string ⟨#[50]⟩, .string ⟨#[49, 47, 50]⟩, .string ⟨#[55]⟩]
def mst : List Value := [.string ⟨#[49]⟩, .string ⟨#[50]⟩, .string ⟨#[49, 47, 51]⟩, .string ⟨#[49, 48]⟩, .string ⟨#[49]⟩]
theorem txt10 : ratText (10 : Rat) = [49, 48] := by
  have h := ratText_z 10
  rw [show ((10 : Int) : Rat) = 10 from rfl] at h
  rw [h, show (10 : Int) = ((10 : Nat) : Int) from rfl, decZ_nat, dec_big (by decide), dec_small (by decide)]
  rfl
theorem txt13 : ratText (1 / 3 : Rat) = [49, 47, 51] := by
  rw [ratText_frac (by decide +kernel), show (1 / 3 : Rat).num = ((1 : Nat) : Int) by decide +kernel, show (1 / 3 : Rat).den = 3 by decide +kernel, decZ_nat, dec_small (by decide), dec_small (by decide)]
  rfl
theorem mwt_text {u : Value} (h : u ∈ mwt) : ∃ q, Mwt q ∧ u = .string ⟨(ratText q).toArray⟩ := by
  have h7 : ratText (7 : Rat) = [55] := ratText_dig (n := 7) (by decide)
  simp only [mwt, List.mem_cons, List.not_mem_nil, or_false] at h
  rcases h with rfl | rfl | rfl | rfl | rfl
  · exact ⟨1, ⟨2, by decide +kernel, by decide, by decide⟩, by rw [txt1]⟩
  · exact ⟨1, ⟨2, by decide +kernel, by decide, by decide⟩, by rw [txt1]⟩
  · exact ⟨2, ⟨4, by decide +kernel, by decide, by decide⟩, by rw [txt2]⟩
  · exact ⟨1 / 2, ⟨1, by decide +kernel, by decide, by decide⟩, by rw [ratText_half]⟩
  · exact ⟨7, ⟨14, by decide +kernel, by decide, by decide⟩, by rw [h7]⟩
theorem mst_text {u : Value} (h : u ∈ mst) : ∃ q, Mst q ∧ u = .string ⟨(ratText q).toArray⟩ := by
  simp only [mst, List.mem_cons, List.not_mem_nil, or_false] at h
  rcases h with rfl | rfl | rfl | rfl | rfl
  · exact ⟨1, ⟨12, by decide +kernel, by decide, by decide⟩, by rw [txt1]⟩
  · exact ⟨2, ⟨24, by decide +kernel, by decide, by decide⟩, by rw [txt2]⟩
  · exact ⟨1 / 3, ⟨4, by decide +kernel, by decide, by decide⟩, by rw [txt13]⟩
  · exact ⟨10, ⟨120, by decide +kernel, by decide, by decide⟩, by rw [txt10]⟩
  · exact ⟨1, ⟨12, by decide +kernel, by decide, by decide⟩, by rw [txt1]⟩
/-- a made mass -/
def MsT (x : Ms) : Prop := ∃ z y : Int, x.1 * 12 = (z : Rat) ∧ x.2 * 2 = (y : Rat) ∧ z.natAbs ≤ 1020 ∧ 1 ≤ y ∧ y ≤ 14
theorem MsT.g {x : Ms} (h : MsT x) : MsG x := by
  obtain ⟨z, y, h1, h2, h3, h4, h5⟩ := h
  exact ⟨z, y, h1, h2, by omega, h4, by omega⟩
/-- the masses so far, and the next number -/
def MsI (l : List Ms) (x : Rat) : Prop := (∃ z : Int, x * 12 = (z : Rat) ∧ z.natAbs ≤ 60 + 120 * l.length) ∧ Asc l ∧ ∀ y ∈ l, y.1 < x ∧ MsT y
theorem MsI.fit {l : List Ms} {x : Rat} (h : MsI l x) (hl : l.length ≤ 8) : FitQ 4 x := by
  obtain ⟨⟨z, h1, h2⟩, _⟩ := h
  exact (show Whl 12 1200 x from ⟨z, h1, by omega⟩).fit (by decide) (by decide) (by decide)
theorem MsI.start {a : Int} (h1 : -5 ≤ a) (h2 : a ≤ 5) : MsI [] (a : Rat) :=
  ⟨⟨a * 12, by rw [Rat.intCast_mul]; rfl, by simp only [List.length_nil]; omega⟩, List.Pairwise.nil, fun y hy => by cases hy⟩
theorem MsI.next {l : List Ms} {x d q : Rat} (h : MsI l x) (hl : l.length ≤ 7) (hd : Mst d) (hq : Mwt q) : MsI (l ++ [(x, q)]) (x + d) := by
  have hp := hd.pos
  obtain ⟨⟨z, h1, h2⟩, h3, h4⟩ := h
  obtain ⟨y, k1, k2, k3⟩ := hd
  obtain ⟨u, m1, m2, m3⟩ := hq
  refine ⟨⟨z + y, by rw [Rat.intCast_add, ← h1, ← k1]; grind, by rw [List.length_append, List.length_singleton]; omega⟩, ?_, ?_⟩
  · refine List.pairwise_append.2 ⟨h3, List.pairwise_singleton _ _, fun a ha b hb => ?_⟩
    rw [List.mem_singleton.1 hb]
    exact (h4 a ha).1
  · intro a ha
    rcases List.mem_append.1 ha with ha | ha
    · have := (h4 a ha).1
      exact ⟨by grind, (h4 a ha).2⟩
    · rw [List.mem_singleton.1 ha]
      exact ⟨by show x < x + d; grind, z, u, h1, m1, by omega, m2, m3⟩
theorem MsI.ok {l : List Ms} {x : Rat} (h : MsI l x) : (∀ y ∈ l, MsT y) ∧ Asc l := ⟨fun y hy => (h.2.2 y hy).2, h.2.1⟩
set_option maxRecDepth 100000 in
set_option maxHeartbeats 1000000 in
theorem mmassesT_any (g most : Nat) (w : World) (h : SrcAt w g) (hm : most ≤ 8) :
    Calls Tryz.prog 10 #[.pointer (some ⟨g, 0, none⟩), .int .i64 most] w fun e w' => ∃ A c l, l.length ≤ most ∧ (∀ y ∈ l, MsT y) ∧ Asc l ∧ e = .returned (.slice A l.length c) ∧ ML w' (.slice A l.length c) l ∧ SrcAt w' g ∧ Only g w w' := by
  have HS := Lib.hid h
  have hg := h.lt
  clear h
  go_enter Tryz.func10, Tryz.ntmps10
  go_wp2_with fail
  refine (rangez_any g (-5) 5 w HS.out (by decide) (by decide) (by decide)).mono ?_
  rintro e w1 ⟨a, ha1, ha2, rfl, hs1, ho1⟩
  go_wp2_with fail
  refine (r2of_any a w1 (by omega) (by omega)).mono ?_
  rintro e w2 ⟨v2, rfl, hv2, hx2⟩
  obtain ⟨a0, A0, a1, a2, b0, B0, b1, b2, rfl, _, _⟩ := hv2.parts
  have HS2 := Lib.hid (hs1.ext hx2)
  have HO2 : Hid (Only g w w2) := ho1.trans (Only.of_ext hx2)
  have HMI := Lib.hid (MsI.start ha1 ha2)
  generalize ((a : Int) : Rat) = x at *
  go_upto_region 3 with fail
  refine newrbox (P := fun W => Code.wp _ _ _ _ W) hv2 fun W HXW HB0 => ?_
  have HSW := Lib.hid (HS2.out.ext HXW.out)
  have HOW : Hid (Only g w W) := HO2.out.trans (Only.of_ext HXW.out)
  have hgw : w.heap.size ≤ w2.heap.size := HO2.out.size
  have hwW : w2.heap.size < W.heap.size := HB0.out.lt
  have H0 := Lib.hid (n_any g (most + 1) W HSW.out (by omega) (by omega))
  rw [show ((most + 1 : Nat) : Int) = (most : Int) + 1 by omega] at H0
  clear hs1 ho1 hx2 hv2 ha1 ha2 HXW HO2 HS2
  go_wp2_with fail
  refine H0.out.mono ?_
  rintro e w3 ⟨r, hr, rfl, hs3, ho3⟩
  have HS3 := Lib.hid hs3
  have HO3 := Lib.hid (HOW.out.trans ho3)
  have HB3 : Hid (RBox w3 w2.heap.size x) := HB0.out.past ho3 (by omega) (Src.kept HSW.out ho3 (by decide))
  have hw3 : W.heap.size ≤ w3.heap.size := ho3.size
  clear hs3 ho3 H0 HSW HOW HB0
  go_wp2_with fail
  go_loopw [5, 7, 8, 9] (fun v5 v7 _ _ wr => ∃ (k : Nat) (l : List Ms) (x : Rat), k ≤ r ∧ v7 = .int .i64 k ∧ l.length + k = r ∧ Hid (MsI l x) ∧ Hid (OwnL tMass 2 MaR W.heap.size wr v5 l) ∧ Hid (RBox wr w2.heap.size x) ∧ Hid (SrcAt wr g) ∧ Hid (Only g w wr) ∧ W.heap.size ≤ wr.heap.size) (fun _ v7 _ _ _ => (RowKit.intOf v7).toNat)
  case atStart => exact ⟨r, [], x, Nat.le_refl _, rfl, by simp, HMI, OwnL.nil, HB3, HS3, HO3, hw3⟩
  case round =>
    clear HMI HB3 HS3 HO3 hw3
    obtain ⟨k, l, x, hk, rfl, hlk, HMI, HOw, HBx, HSr, HOr, hwr⟩ := hrel
    obtain ⟨A, c, xs, rfl, _, hcm, HR, HC⟩ := HOw.out.parts
    by_cases hk0 : k = 0
    · subst hk0
      go_wp2
      go_ret
      exact ⟨A, c, l, by omega, HMI.out.ok.1, HMI.out.ok.2, rfl, HOw.out.ls, HSr.out, HOr.out⟩
    · have hd : decide ((k : Int) > 0) = true := by rw [decide_eq_true_iff]; omega
      have FX := Lib.hid (HMI.out.fit (by omega))
      obtain ⟨x0, X0, x1, x2, y0, Y0, y1, y2, BX, VX⟩ := HBx.out.parts
      obtain ⟨j0, j1, j2, j3⟩ := BX.out.four
      go_wp2_with fail
      refine (rfgive_any _ x wr VX.out (FX.out.mono (by decide))).mono ?_
      rintro e w4 ⟨rfl, hx4⟩
      generalize htx : ratText x = tx
      have HTX := Lib.hid htx
      clear htx j0 j1 j2 j3
      have hs4 := HSr.out.ext hx4
      have hg4 : g < w4.heap.size := hs4.lt
      go_wp2_with fail
      have BL := Blk.new w4 tStr mwt
      have hxl : Ext w4 (w4.alloc (.cells mwt.toArray tStr)) := (Ext.refl w4).alloc _
      refine (mtext_any g w4.heap.size mwt _ (hs4.ext hxl) BL (by omega) (by decide) (by decide)).mono ?_
      rintro e w5 ⟨u, hu, rfl, hs5, ho5⟩
      obtain ⟨q, hq, rfl⟩ := mwt_text hu
      have hoA : Only g wr w5 := (Only.of_ext (hx4.trans hxl)).trans ho5
      have hkA : Kept tI wr w5 := (Kept.of_below (hx4.trans hxl)).trans (Src.kept (hs4.ext hxl) ho5 (by decide))
      have O5 := Lib.hid (HOw.out.only MaR.stab hoA (by omega) (fun u hu => by cases hu))
      have S5 := Lib.hid hs5
      have N5 := Lib.hid (HOr.out.trans hoA)
      have B5 : Hid (Blk w5 w2.heap.size tFr [.bool x0, .slice X0 x1 x2, .bool y0, .slice Y0 y1 y2]) := BX.out.only hoA (by omega)
      have V5 : Hid (RFrac w5 (.agg #[.bool x0, .slice X0 x1 x2, .bool y0, .slice Y0 y1 y2]) x) := VX.out.keep hkA
      have HWT := Lib.hid hq
      obtain ⟨A', c', xs', e, _, _, HR5, HC5⟩ := O5.out.parts
      injection e with e1 _ e2
      subst e1 e2
      have hw5 : W.heap.size ≤ w5.heap.size := Nat.le_trans hwr hoA.size
      have hbt : (l.length + 1) * 32 ≤ 140737488355328 := by omega
      clear hd hs4 hs5 O5 ho5 hxl BL hoA hkA hq hu hg4 hx4 HOw HR HC HBx BX VX HSr HOr
      generalize htq : ratText q = tq at *
      have HTQ := Lib.hid htq
      clear htq
      go_wp2_with (at_builtin; refine wpList_app1 rfl _ _ 27 rfl W.heap.size mass_slice _ _ _ rfl HR5.out #[.string ⟨tx.toArray⟩, .string ⟨tq.toArray⟩] 1 1 rfl rfl rfl hbt hw5 ?_)
      intro v' w6 ho6 hg6 _
      have O6 := Lib.hid (OwnL.snoc (R := MaR) (x := (x, q)) MaR.stab (fun u hu => by cases hu) HR5.out HC5.out (show MaR _ [.string ⟨tx.toArray⟩, .string ⟨tq.toArray⟩] (x, q) by unfold MaR; rw [HTX.out, HTQ.out]) ho6 hg6)
      have S6 := Lib.hid (S5.out.grown hg6 (fun k hk => by have := (HR5.out.lt k hk).1; omega))
      have N6 : Hid (Only g w w6) := N5.out.grownF HR5.out hg6 (by omega)
      have B6 : Hid (Blk w6 w2.heap.size tFr [.bool x0, .slice X0 x1 x2, .bool y0, .slice Y0 y1 y2]) := blkG B5.out HR5.out hg6 (by omega)
      have V6 : Hid (RFrac w6 (.agg #[.bool x0, .slice X0 x1 x2, .bool y0, .slice Y0 y1 y2]) x) := V5.out.keep (Kept.grown HR5.out hg6 (by decide))
      have hw6 : W.heap.size ≤ w6.heap.size := Nat.le_trans hw5 hg6.size
      have hg6' : g < w6.heap.size := by omega
      clear ho6 hg6 HR5 HC5 S5 N5 B5 V5 hw5 hbt
      go_upto_region 8 with fail
      obtain ⟨S, hSd⟩ : ∃ S : World → Prop, S = fun w' => (w'.cell? ⟨w2.heap.size, 0, none⟩ = some (.bool x0) ∧ w'.cell? ⟨w2.heap.size, 0 + 1, none⟩ = some (.slice X0 x1 x2) ∧ w'.cell? ⟨w2.heap.size, 0 + 2, none⟩ = some (.bool y0) ∧ w'.cell? ⟨w2.heap.size, 0 + 3, none⟩ = some (.slice Y0 y1 y2)) := ⟨_, rfl⟩
      have HSI : Hid (∀ w', S w' → (w'.cell? ⟨w2.heap.size, 0, none⟩ = some (.bool x0) ∧ w'.cell? ⟨w2.heap.size, 0 + 1, none⟩ = some (.slice X0 x1 x2) ∧ w'.cell? ⟨w2.heap.size, 0 + 2, none⟩ = some (.bool y0) ∧ w'.cell? ⟨w2.heap.size, 0 + 3, none⟩ = some (.slice Y0 y1 y2))) := by rw [Hid, hSd]; exact fun _ h => h
      have HSE : Hid (∀ w', Blk w' w2.heap.size tFr [.bool x0, .slice X0 x1 x2, .bool y0, .slice Y0 y1 y2] → S w') := by rw [Hid, hSd]; exact fun w' h => h.four
      have HS0 : Hid (S w6.drew) := HSE.out _ B6.out
      clear hSd
      refine AnyT.start (S := S) (T := fun j => decide (6 ≤ j)) (by kernel_rfl) ?_
      refine AnyT.load 0 34 (.agg #[.bool x0, .slice X0 x1 x2, .bool y0, .slice Y0 y1 y2]) rfl (by kernel_rfl) (by kernel_rfl) (by kernel_rfl) (by kernel_rfl) (by kernel_rfl) (fun _ _ _ h => h) HS0.out ?_ ?_
      · intro o ho
        simp only [List.getElem?_toArray, List.getElem?_cons_zero, Option.some.injEq] at ho
        subst ho
        refine ⟨rfl, rfl, fun w' hSw => ?_⟩
        have hs := HSI.out w' hSw
        go_split_ands
        go_simp
      simp only [Act.put, List.setIfInBounds_toArray, List.set_cons_zero, List.set_cons_succ]
      refine AnyT.load 1 35 (.pointer (some ⟨g, 0, none⟩)) rfl (by kernel_rfl) (by kernel_rfl) (by kernel_rfl) (by kernel_rfl) (by kernel_rfl) (fun _ _ _ h => h) HS0.out ?_ ?_
      · intro o ho
        simp only [List.getElem?_toArray, List.getElem?_cons_succ, List.getElem?_cons_zero, Option.some.injEq] at ho
        subst ho
        refine ⟨rfl, rfl, fun w' hSw => ?_⟩
        have hs := HSI.out w' hSw
        go_split_ands
        go_simp
      simp only [Act.put, List.setIfInBounds_toArray, List.set_cons_zero, List.set_cons_succ]
      refine AnyT.step 2 (by kernel_rfl) ?_
      intro o ho K hK
      simp only [List.getElem?_toArray, List.getElem?_cons_succ, List.getElem?_cons_zero, Option.some.injEq] at ho
      subst ho
      go_simp
      have hxl : Ext w6 (w6.drew.alloc (.cells mst.toArray tStr)) := (Ext.refl w6).drew.alloc _
      have BL := Blk.new w6.drew tStr mst
      refine hK.out _ _ (fun _ => HSE.out _ (B6.out.ext hxl)) ?_
      refine AnyT.step 3 (by kernel_rfl) ?_
      intro o ho K hK
      simp only [List.getElem?_toArray, List.getElem?_cons_succ, List.getElem?_cons_zero, Option.some.injEq] at ho
      subst ho
      go_simp
      refine (mtext_any g w6.heap.size mst _ (S6.out.ext hxl) BL (by omega) (by decide) (by decide)).mono ?_
      rintro e w7 ⟨u, hu, rfl, hs7, ho7⟩
      obtain ⟨d, hd, rfl⟩ := mst_text hu
      have hoA : Only g w6 w7 := (Only.of_ext hxl).trans ho7
      have hkA : Kept tI w6 w7 := (Kept.of_below hxl).trans (Src.kept (S6.out.ext hxl) ho7 (by decide))
      have O7 := Lib.hid (O6.out.only MaR.stab hoA (by omega) (fun u hu => by cases hu))
      have S7 := Lib.hid hs7
      have N7 := Lib.hid (N6.out.trans hoA)
      have B7 : Hid (Blk w7 w2.heap.size tFr [.bool x0, .slice X0 x1 x2, .bool y0, .slice Y0 y1 y2]) := B6.out.only hoA (by omega)
      have V7 : Hid (RFrac w7 (.agg #[.bool x0, .slice X0 x1 x2, .bool y0, .slice Y0 y1 y2]) x) := V6.out.keep hkA
      have HST := Lib.hid hd
      have hw7 : W.heap.size ≤ w7.heap.size := Nat.le_trans hw6 hoA.size
      clear hs7 ho7 hoA hkA hd hu hxl BL B6 V6 N6 S6 O6
      refine hK.out _ _ (fun _ => HSE.out _ B7.out) ?_
      refine AnyT.step 4 (by kernel_rfl) ?_
      intro o ho K hK
      simp only [List.getElem?_toArray, List.getElem?_cons_succ, List.getElem?_cons_zero, Option.some.injEq] at ho
      subst ho
      go_simp
      refine (r2read_any d _ (e := 3) HST.out.fit (by decide)).mono ?_
      rintro e w8 ⟨v8, rfl, hv8, hx8⟩
      refine hK.out _ _ (fun _ => HSE.out _ (B7.out.ext hx8)) ?_
      refine AnyT.step 5 (by kernel_rfl) ?_
      intro o ho K hK
      simp only [List.getElem?_toArray, List.getElem?_cons_succ, List.getElem?_cons_zero, Option.some.injEq] at ho
      subst ho
      go_simp
      refine (rfadd_any _ _ _ _ _ (V7.out.ext hx8) hv8 FX.out HST.out.fit (by decide)).mono ?_
      rintro e w9 ⟨v9, rfl, hv9, hx9⟩
      obtain ⟨e0, E0, e1, e2, f0, F0, f1, f2, rfl, _, _⟩ := hv9.parts
      have hy9 := hx8.trans hx9
      have B9' := Lib.hid (B7.out.ext hy9)
      refine hK.out _ _ (fun _ => HSE.out _ B9'.out) ?_
      obtain ⟨k0, k1, k2, k3⟩ := B9'.out.four
      obtain ⟨m0, m1, m2, m3⟩ := B9'.out.free4
      obtain ⟨W', hW', HBN, HKN, HON⟩ := put4 B9'.out (.bool e0) (.slice E0 e1 e2) (.bool f0) (.slice F0 f1 f2)
      have HW' := Lib.hid hW'
      have BN : Hid (RBox W' w2.heap.size (x + d)) := ⟨e0, E0, e1, e2, f0, F0, f1, f2, HBN.out, hv9.keep (HKN.out _ (by decide))⟩
      have O9 := Lib.hid ((O7.out.ext MaR.stab hy9).only MaR.stab HON.out hwW (fun u hu => by cases hu))
      have S9 := Lib.hid ((S7.out.ext hy9).past HON.out (by omega))
      have N9 := Lib.hid ((N7.out.trans (Only.of_ext hy9)).fresh HON.out hgw)
      have hw9 : W.heap.size ≤ W'.heap.size := Nat.le_trans hw7 (Nat.le_trans hy9.size HON.out.size)
      have HMN := Lib.hid (HMI.out.next (by omega) HST.out HWT.out)
      clear hW' hx8 hx9 hy9 hv8 hv9
      refine AnyT.step 6 (by kernel_rfl) ?_
      intro o ho K hK
      simp only [List.getElem?_toArray, List.getElem?_cons_succ, List.getElem?_cons_zero, Option.some.injEq] at ho
      subst ho
      go_simp
      refine hK.out _ _ (fun h => by cases h) ?_
      refine AnyT.done (by kernel_rfl) ?_
      rw [HW'.out]
      clear k0 k1 k2 k3 m0 m1 m2 m3
      go_wp2_with fail
      go_roundw
      case rel => exact ⟨k - 1, l ++ [(x, q)], x + d, by omega, by rw [Int.natCast_sub (by omega)]; rfl, by simp; omega, HMN, O9, BN, S9, N9, hw9⟩
      case measure => simp [RowKit.intOf]; omega
theorem mmasses_any (g most : Nat) (w : World) (h : SrcAt w g) (hm : most ≤ 8) :
    Calls Tryz.prog 10 #[.pointer (some ⟨g, 0, none⟩), .int .i64 most] w fun e w' => ∃ A c l, l.length ≤ most ∧ MsOk l ∧ Asc l ∧ e = .returned (.slice A l.length c) ∧ ML w' (.slice A l.length c) l ∧ SrcAt w' g ∧ Only g w w' :=
  (mmassesT_any g most w h hm).mono fun _ _ ⟨A, c, l, h1, h2, h3⟩ => ⟨A, c, l, h1, ⟨by omega, fun y hy => (h2 y hy).g⟩, h3⟩
end Go.Proofs.YtkhmfgkbobblmaaGreatDoor
