/- corepoint.Line, walked. -/
import Derived.Test.YtkhmfgkbobblmaaGreatDoorDivW
import Derived.Test.YtkhmfgkbobblmaaGreatDoorRCmp
import Derived.Test.YtkhmfgkbobblmaaGreatDoorText
namespace Go.Proofs.YtkhmfgkbobblmaaGreatDoor
open Go.RowKit Go.Lib

theorem dd_at {m p n q j c : Nat} {w : World} {A : Option Addr} {l : List Ms} (h : DDL w (.slice A m c) (tabD l m)) (hp : p < m) (hn : l.length = n) (hq : n - p = q) (hj : j < q) : ∃ g o g5 o5 d x0 X0 x1 x2 y0 Y0 y1 y2, A = some ⟨g, o, none⟩ ∧ Hid (∀ w', Ext w w' → w'.cell? ⟨g, o + p, none⟩ = some (.slice (some ⟨g5, o5, none⟩) q d) ∧ (w'.cell? ⟨g5, o5 + j * 5, none⟩ = some (.bool x0) ∧ w'.cell? ⟨g5, o5 + j * 5 + 1, none⟩ = some (.slice X0 x1 x2) ∧ w'.cell? ⟨g5, o5 + j * 5 + 2, none⟩ = some (.bool y0) ∧ w'.cell? ⟨g5, o5 + j * 5 + 3, none⟩ = some (.slice Y0 y1 y2))) ∧ Hid (FracV w (.agg #[.bool x0, .slice X0 x1 x2, .bool y0, .slice Y0 y1 y2]) (dvr l p j).1) := by
  have hi : p < (tabD l m).length := by rw [tabD_length]; exact hp
  obtain ⟨g, o, B, d, e, hg, h1, h2⟩ := OneR.get h hi
  rw [tabD_get l m hp, rowD_length, hn, hq] at h1 h2
  obtain ⟨g5, o5, x0, X0, x1, x2, y0, Y0, y1, y2, rfl, hv, hc⟩ := dl_at h1.out hj
  exact ⟨g, o, g5, o5, d, x0, X0, x1, x2, y0, Y0, y1, y2, e, fun w' hx => ⟨(hx.cell hg).trans h2, hc.out w' hx⟩, hv⟩
theorem dd_nx {m p n q j c : Nat} {w : World} {A : Option Addr} {l : List Ms} (h : DDL w (.slice A m c) (tabD l m)) (hp : p < m) (hn : l.length = n) (hq : n - p = q) (hj : j < q) : ∃ g o g5 o5 d, A = some ⟨g, o, none⟩ ∧ Hid (∀ w', Ext w w' → w'.cell? ⟨g, o + p, none⟩ = some (.slice (some ⟨g5, o5, none⟩) q d) ∧ w'.cell? ⟨g5, o5 + j * 5 + 4, none⟩ = some (.int .i64 (dvr l p j).2)) := by
  have hi : p < (tabD l m).length := by rw [tabD_length]; exact hp
  obtain ⟨g, o, B, d, e, hg, h1, h2⟩ := OneR.get h hi
  rw [tabD_get l m hp, rowD_length, hn, hq] at h1 h2
  have hk : j < (rowD l p q).length := by rw [rowD_length]; exact hj
  obtain ⟨g5, o5, b, A1, n1, c1, b', A2, n2, c2, rfl, hg5, _, _, _, _, _, p5⟩ := DL.get h1.out hk
  rw [rowD_get l p q hj] at p5
  exact ⟨g, o, g5, o5, d, e, fun w' hx => ⟨(hx.cell hg).trans h2, (hx.cell hg5).trans p5⟩⟩
theorem RL.init {w : World} {A : Option Addr} {n c : Nat} {L : List Rat} {x : Rat} (h : RL w (.slice A (n + 1) c) (L ++ [x])) (hn : L.length = n) :
    ∃ g o, A = some ⟨g, o, none⟩ ∧ w.cell? ⟨g, o + n, none⟩ = some (.string ⟨(ratText x).toArray⟩) ∧ n + 1 ≤ c ∧ c ≤ maxLen ∧ RL w (.slice (some ⟨g, o, none⟩) n n) L := by
  subst hn
  have hi : L.length < (L ++ [x]).length := by simp
  obtain ⟨g, o, rfl, _, hc⟩ := RL.get h hi
  rw [List.getElem_append_right (Nat.le_refl _)] at hc
  simp only [Nat.sub_self, List.getElem_singleton] at hc
  obtain ⟨A', c', xs, e, h2, h3, h4, h5, h6⟩ := h
  injection e with e1 e2 e3
  subst e1 e3
  have hle : L.length + 1 ≤ c := by rw [← e2] at h2; exact h2
  refine ⟨g, o, rfl, hc, hle, h3, some ⟨g, o, none⟩, L.length, xs.take (L.length * 1), rfl, Nat.le_refl _, Nat.le_trans (by omega) h3, (fun h => by cases h), h5.take _, ?_⟩
  have := Ch.take (k := 1) (fun c x h => by rw [show c = [.string ⟨(ratText x).toArray⟩] from h]; rfl) h6 L.length
  rwa [List.take_left] at this
theorem b64n {n : Nat} (h : n ≤ 9) : (n + 1) * 64 ≤ 140737488355328 := by omega
/-- the centres that are still to come -/
def rem (l : List Ms) (s : Nat) : Nat → List Rat
  | 0 => []
  | p + 1 => cen p (l.drop s)
theorem rem_next {l : List Ms} {p s : Nat} (h : s + p < l.length) : rem l s (p + 1) = mean (seg l s (dvr l p s).2) :: rem l (dvr l p s).2 p := by
  show cen p (l.drop s) = _
  rw [cen_step h]
  cases p <;> rfl
theorem ds_b64 {ds r L : List Rat} {x : Rat} (h : ds ++ x :: r = L) (hL : L.length ≤ 9) : (ds.length + 1) * 64 ≤ 140737488355328 := by
  have := congrArg List.length h
  simp only [List.length_append, List.length_cons] at this
  omega
theorem bp_next (f : Nat → Rat) {i : Nat} (h : 0 < i) : bp f i = if f i < f (bp f (i - 1)) then i else bp f (i - 1) := by
  obtain ⟨m, rfl⟩ : ∃ m, i = m + 1 := ⟨i - 1, by omega⟩
  rfl
theorem bp_yes (f : Nat → Rat) {i : Nat} (h : f i < f (bp f (i - 1))) : bp f i = i := by
  rcases i with _ | i
  · rfl
  · rw [bp_next f (Nat.succ_pos i), if_pos h]
theorem bp_no (f : Nat → Rat) {i : Nat} (h : ¬ f i < f (bp f (i - 1))) : bp f i = bp f (i - 1) := by
  rcases i with _ | i
  · rfl
  · rw [bp_next f (Nat.succ_pos i), if_neg h]
theorem dvr_top (l : List Ms) (p : Nat) : (dvr l p 0).1 = (dv p l).1 := by simp [dvr]
set_option maxRecDepth 100000 in
set_option maxHeartbeats 1000000 in
theorem line_any (vl : Value) (l : List Ms) (k : Nat) (w : World) (h : ML w vl l) (hm : MsOk l) (ha : Asc l) (hn : l ≠ []) (h1 : 1 ≤ k) (h4 : k ≤ 4) (ht : Tab w) :
    Calls Tryz.prog 16 #[vl, .int .i64 k] w fun e w' => ∃ A c, e = .returned (.tuple #[.slice A (lcen l k).length c, .string ⟨(ratText (lcost l k)).toArray⟩, .int .i64 0]) ∧ RL w' (.slice A (lcen l k).length c) (lcen l k) ∧ Ext w w' := by
  have HM := Lib.hid hm
  have hn8 := hm.1
  have hl1 : 1 ≤ l.length := by
    rcases l with _ | ⟨x, l⟩
    · exact absurd rfl hn
    · simp
  have MS := Lib.hid (masses_any vl l k w h hm ha h1 h4)
  rw [if_neg (by omega)] at MS
  have LA := Lib.hid (fun w' hx => lay_any vl l w' (ML.ext h hx) hm)
  have DI := Lib.hid (fun v w' hv => cdivide_any v l k w' hv hm hn h1 (by omega))
  obtain ⟨A, ca, rfl, _, hca, HA⟩ := h.parts
  have hca : ca ≤ 9223372036854775807 := by unfold maxLen at hca; omega
  have HT := Lib.hid ht
  clear hm ha ht h
  go_enter Tryz.func16, Tryz.ntmps16
  go_wp2_with fail
  refine MS.out.mono ?_
  rintro e w1 ⟨rfl, hx1⟩
  go_wp2_with fail
  refine (LA.out w1 hx1).mono ?_
  rintro e w2 ⟨vt, rfl, hvt, hx2⟩
  have HVT := Lib.hid hvt
  obtain ⟨A0, c0, A1, c1, A2, c2, rfl, -, -, -⟩ := hvt
  have HX2 := Lib.hid (hx1.trans hx2)
  clear hx1 hx2
  go_upto_region 5 with fail
  refine box1 (P := fun W => Code.wp _ _ _ _ W) fun W HXW BL => ?_
  obtain ⟨q0, q1, q2⟩ := BL.out.three
  have HVW := Lib.hid (LnV.ext HVT.out HXW.out)
  have HXW2 := Lib.hid (HX2.out.trans HXW.out)
  have hgw : w2.heap.size < W.heap.size := BL.out.lt
  clear HVT HX2 HXW
  go_wp2_with fail
  refine (DI.out _ W HVW.out).mono ?_
  rintro e w3 ⟨vd, rfl, hvd, hx3⟩
  clear q0 q1 q2
  obtain ⟨A9, c9, rfl, _, hc9, HDD⟩ := hvd.parts
  rw [tabD_length] at HDD ⊢
  obtain ⟨m, hm⟩ : ∃ m, min k l.length = m := ⟨_, rfl⟩
  have HMM := Lib.hid hm
  have hmk : 1 ≤ m := by omega
  have hmn : m ≤ l.length := by omega
  rw [hm] at HDD ⊢
  have BL3 := Lib.hid (BL.out.ext hx3)
  have HVL := Lib.hid (LnV.ext HVW.out hx3)
  have HX3 := Lib.hid (HXW2.out.trans hx3)
  clear hm hx3 hvd BL HVW HXW2
  go_wp2_with fail
  go_loopw [10, 11, 36] (fun v10 _ v36 wr => ∃ i : Nat, i ≤ m ∧ v36 = .int .i64 i ∧ v10 = .int .i64 (bp (fun p => (dv p l).1) (i - 1) : Nat) ∧ Hid (Ext w3 wr)) (fun _ _ v36 _ => m - (RowKit.intOf v36).toNat)
  case atStart => exact ⟨0, Nat.zero_le _, rfl, rfl, Ext.refl _⟩
  case round =>
    obtain ⟨i, hi, rfl, rfl, HXr⟩ := hrel
    by_cases him : i < m
    · have hb := bp_lt (fun p => (dv p l).1) (i - 1)
      have HYES := Lib.hid (bp_yes (fun p => (dv p l).1) (i := i))
      have HNO := Lib.hid (bp_no (fun p => (dv p l).1) (i := i))
      generalize bp (fun p => (dv p l).1) (i - 1) = b at *
      have hbm : b < m := by omega
      obtain ⟨q5, hq5⟩ : ∃ q, l.length - i = q := ⟨_, rfl⟩
      obtain ⟨q6, hq6⟩ : ∃ q, l.length - b = q := ⟨_, rfl⟩
      have h5 : 0 < q5 := by omega
      have h6 : 0 < q6 := by omega
      obtain ⟨g, o, g5, o5, d5, x0, X0, x1, x2, y0, Y0, y1, y2, rfl, HC1, HV1⟩ := dd_at (p := i) (j := 0) HDD.out him rfl hq5 h5
      obtain ⟨g', o', g6, o6, d6, z0, Z0, z1, z2, t0, T0, t1, t2, e, HC2, HV2⟩ := dd_at (p := b) (j := 0) HDD.out hbm rfl hq6 h6
      injection e with e
      injection e with e1 e2
      subst e1 e2
      simp only [Nat.zero_mul, Nat.add_zero] at HC1 HC2
      have F1 := Lib.hid (dvr_fit HM.out (p := i) (i := 0) (by omega))
      have F2 := Lib.hid (dvr_fit HM.out (p := b) (i := 0) (by omega))
      rw [dvr_top] at HV1 HV2 F1 F2
      have CMP := Lib.hid (fun w' hx => fcompare_any _ _ (dv i l).1 (dv b l).1 w' (HV1.out.ext (HXr.out.trans hx)) (HV2.out.ext (HXr.out.trans hx)) F1.out F2.out (by omega))
      have HCZ : Hid (cmpQ (dv i l).1 (dv b l).1 < 0 ↔ (dv i l).1 < (dv b l).1) := cmpQ_lt
      clear hq5 hq6 HV1 HV2 F1 F2
      generalize cmpQ (dv i l).1 (dv b l).1 = cz at *
      by_cases hlt : cz < 0
      · have HNB := Lib.hid (HYES.out (HCZ.out.1 hlt))
        go_upto_region 10 with fail
        have HSI : Hid (∀ w', Ext wr w' → (w'.cell? ⟨g, o + i, none⟩ = some (.slice (some ⟨g5, o5, none⟩) q5 d5) ∧ (w'.cell? ⟨g5, o5, none⟩ = some (.bool x0) ∧ w'.cell? ⟨g5, o5 + 1, none⟩ = some (.slice X0 x1 x2) ∧ w'.cell? ⟨g5, o5 + 2, none⟩ = some (.bool y0) ∧ w'.cell? ⟨g5, o5 + 3, none⟩ = some (.slice Y0 y1 y2))) ∧ w'.cell? ⟨g, o + b, none⟩ = some (.slice (some ⟨g6, o6, none⟩) q6 d6) ∧ (w'.cell? ⟨g6, o6, none⟩ = some (.bool z0) ∧ w'.cell? ⟨g6, o6 + 1, none⟩ = some (.slice Z0 z1 z2) ∧ w'.cell? ⟨g6, o6 + 2, none⟩ = some (.bool t0) ∧ w'.cell? ⟨g6, o6 + 3, none⟩ = some (.slice T0 t1 t2))) := fun w' hx => ⟨HC1.out w' (HXr.out.trans hx), HC2.out w' (HXr.out.trans hx)⟩
        have HS0 : Hid (Ext wr wr.drew) := (Ext.refl wr).drew
        refine AnyT.start (S := fun w' => Ext wr w') (T := fun _ => false) (by kernel_rfl) ?_
        refine AnyT.ld 0 39 (.slice (some ⟨g, o, none⟩) m c9) _ rfl rfl (by kernel_rfl) (fun _ _ _ h => h) HS0.out rfl ?_ ?_
        focus (intro w' hSw; have hs := HSI.out w' hSw; go_split_ands; go_simp; try (first | exact rfl | omega | go_num | (intro hbd; exfalso; omega)))
        simp only [Act.put, List.setIfInBounds_toArray, List.set_cons_zero, List.set_cons_succ]
        refine AnyT.ld 1 40 (.int .i64 i) _ rfl rfl (by kernel_rfl) (fun _ _ _ h => h) HS0.out rfl ?_ ?_
        focus (intro w' hSw; have hs := HSI.out w' hSw; go_split_ands; go_simp; try (first | exact rfl | omega | go_num | (intro hbd; exfalso; omega)))
        simp only [Act.put, List.setIfInBounds_toArray, List.set_cons_zero, List.set_cons_succ]
        refine AnyT.ld 2 41 (.pointer (some ⟨g, o + i, none⟩)) _ rfl rfl (by kernel_rfl) (fun _ _ _ h => h) HS0.out rfl ?_ ?_
        focus (intro w' hSw; have hs := HSI.out w' hSw; go_split_ands; go_simp; try (first | exact rfl | omega | go_num | (intro hbd; exfalso; omega)))
        simp only [Act.put, List.setIfInBounds_toArray, List.set_cons_zero, List.set_cons_succ]
        refine AnyT.ld 3 42 (.slice (some ⟨g5, o5, none⟩) q5 d5) _ rfl rfl (by kernel_rfl) (fun _ _ _ h => h) HS0.out rfl ?_ ?_
        focus (intro w' hSw; have hs := HSI.out w' hSw; go_split_ands; go_simp; try (first | exact rfl | omega | go_num | (intro hbd; exfalso; omega)))
        simp only [Act.put, List.setIfInBounds_toArray, List.set_cons_zero, List.set_cons_succ]
        refine AnyT.ld 4 43 (.pointer (some ⟨g5, o5, none⟩)) _ rfl rfl (by kernel_rfl) (fun _ _ _ h => h) HS0.out rfl ?_ ?_
        focus (intro w' hSw; have hs := HSI.out w' hSw; go_split_ands; go_simp; try (first | exact rfl | omega | go_num | (intro hbd; exfalso; omega)))
        simp only [Act.put, List.setIfInBounds_toArray, List.set_cons_zero, List.set_cons_succ]
        refine AnyT.ld 5 44 (.pointer (some ⟨g5, o5, none⟩)) _ rfl rfl (by kernel_rfl) (fun _ _ _ h => h) HS0.out rfl ?_ ?_
        focus (intro w' hSw; have hs := HSI.out w' hSw; go_split_ands; go_simp; try (first | exact rfl | omega | go_num | (intro hbd; exfalso; omega)))
        simp only [Act.put, List.setIfInBounds_toArray, List.set_cons_zero, List.set_cons_succ]
        refine AnyT.ld 6 45 (.agg #[.bool x0, .slice X0 x1 x2, .bool y0, .slice Y0 y1 y2]) _ rfl rfl (by kernel_rfl) (fun _ _ _ h => h) HS0.out rfl ?_ ?_
        focus (intro w' hSw; have hs := HSI.out w' hSw; go_split_ands; go_simp; try (first | exact rfl | omega | go_num | (intro hbd; exfalso; omega)))
        simp only [Act.put, List.setIfInBounds_toArray, List.set_cons_zero, List.set_cons_succ]
        refine AnyT.ld 7 46 (.slice (some ⟨g, o, none⟩) m c9) _ rfl rfl (by kernel_rfl) (fun _ _ _ h => h) HS0.out rfl ?_ ?_
        focus (intro w' hSw; have hs := HSI.out w' hSw; go_split_ands; go_simp; try (first | exact rfl | omega | go_num | (intro hbd; exfalso; omega)))
        simp only [Act.put, List.setIfInBounds_toArray, List.set_cons_zero, List.set_cons_succ]
        refine AnyT.ld 8 47 (.int .i64 b) _ rfl rfl (by kernel_rfl) (fun _ _ _ h => h) HS0.out rfl ?_ ?_
        focus (intro w' hSw; have hs := HSI.out w' hSw; go_split_ands; go_simp; try (first | exact rfl | omega | go_num | (intro hbd; exfalso; omega)))
        simp only [Act.put, List.setIfInBounds_toArray, List.set_cons_zero, List.set_cons_succ]
        refine AnyT.ld 9 48 (.pointer (some ⟨g, o + b, none⟩)) _ rfl rfl (by kernel_rfl) (fun _ _ _ h => h) HS0.out rfl ?_ ?_
        focus (intro w' hSw; have hs := HSI.out w' hSw; go_split_ands; go_simp; try (first | exact rfl | omega | go_num | (intro hbd; exfalso; omega)))
        simp only [Act.put, List.setIfInBounds_toArray, List.set_cons_zero, List.set_cons_succ]
        refine AnyT.ld 10 49 (.slice (some ⟨g6, o6, none⟩) q6 d6) _ rfl rfl (by kernel_rfl) (fun _ _ _ h => h) HS0.out rfl ?_ ?_
        focus (intro w' hSw; have hs := HSI.out w' hSw; go_split_ands; go_simp; try (first | exact rfl | omega | go_num | (intro hbd; exfalso; omega)))
        simp only [Act.put, List.setIfInBounds_toArray, List.set_cons_zero, List.set_cons_succ]
        refine AnyT.ld 11 50 (.pointer (some ⟨g6, o6, none⟩)) _ rfl rfl (by kernel_rfl) (fun _ _ _ h => h) HS0.out rfl ?_ ?_
        focus (intro w' hSw; have hs := HSI.out w' hSw; go_split_ands; go_simp; try (first | exact rfl | omega | go_num | (intro hbd; exfalso; omega)))
        simp only [Act.put, List.setIfInBounds_toArray, List.set_cons_zero, List.set_cons_succ]
        refine AnyT.ld 12 51 (.pointer (some ⟨g6, o6, none⟩)) _ rfl rfl (by kernel_rfl) (fun _ _ _ h => h) HS0.out rfl ?_ ?_
        focus (intro w' hSw; have hs := HSI.out w' hSw; go_split_ands; go_simp; try (first | exact rfl | omega | go_num | (intro hbd; exfalso; omega)))
        simp only [Act.put, List.setIfInBounds_toArray, List.set_cons_zero, List.set_cons_succ]
        refine AnyT.ld 13 52 (.agg #[.bool z0, .slice Z0 z1 z2, .bool t0, .slice T0 t1 t2]) _ rfl rfl (by kernel_rfl) (fun _ _ _ h => h) HS0.out rfl ?_ ?_
        focus (intro w' hSw; have hs := HSI.out w' hSw; go_split_ands; go_simp; try (first | exact rfl | omega | go_num | (intro hbd; exfalso; omega)))
        simp only [Act.put, List.setIfInBounds_toArray, List.set_cons_zero, List.set_cons_succ]
        refine AnyT.step 14 (by kernel_rfl) ?_
        intro o ho K hK
        simp only [List.getElem?_toArray, List.getElem?_cons_succ, List.getElem?_cons_zero, Option.some.injEq] at ho
        subst ho
        go_simp
        refine (CMP.out _ HS0.out).mono ?_
        rintro e wn ⟨rfl, hxn⟩
        have hyn := HS0.out.trans hxn
        refine hK.out _ _ (fun _ => hyn) ?_
        clear HS0 hxn
        have HS0 := Lib.hid hyn
        have HXn := Lib.hid (HXr.out.trans hyn)
        clear hyn
        refine AnyT.ld 15 54 (.bool true) _ rfl rfl (by kernel_rfl) (fun _ _ _ h => h) HS0.out rfl ?_ ?_
        focus (intro w' hSw; have hs := HSI.out w' hSw; go_split_ands; go_simp; try (first | exact rfl | omega | go_num | (intro hbd; exfalso; omega)))
        simp only [Act.put, List.setIfInBounds_toArray, List.set_cons_zero, List.set_cons_succ]
        refine AnyT.done (by kernel_rfl) ?_
        clear HSI HS0
        go_wp2_with fail
        go_roundw
        case rel => exact ⟨i + 1, by omega, by go_num, by rw [show i + 1 - 1 = i by omega, HNB.out], HXn⟩
        case measure => simp [RowKit.intOf]; omega
      · have HNB := Lib.hid (HNO.out (fun h => hlt (HCZ.out.2 h)))
        go_upto_region 10 with fail
        have HSI : Hid (∀ w', Ext wr w' → (w'.cell? ⟨g, o + i, none⟩ = some (.slice (some ⟨g5, o5, none⟩) q5 d5) ∧ (w'.cell? ⟨g5, o5, none⟩ = some (.bool x0) ∧ w'.cell? ⟨g5, o5 + 1, none⟩ = some (.slice X0 x1 x2) ∧ w'.cell? ⟨g5, o5 + 2, none⟩ = some (.bool y0) ∧ w'.cell? ⟨g5, o5 + 3, none⟩ = some (.slice Y0 y1 y2))) ∧ w'.cell? ⟨g, o + b, none⟩ = some (.slice (some ⟨g6, o6, none⟩) q6 d6) ∧ (w'.cell? ⟨g6, o6, none⟩ = some (.bool z0) ∧ w'.cell? ⟨g6, o6 + 1, none⟩ = some (.slice Z0 z1 z2) ∧ w'.cell? ⟨g6, o6 + 2, none⟩ = some (.bool t0) ∧ w'.cell? ⟨g6, o6 + 3, none⟩ = some (.slice T0 t1 t2))) := fun w' hx => ⟨HC1.out w' (HXr.out.trans hx), HC2.out w' (HXr.out.trans hx)⟩
        have HS0 : Hid (Ext wr wr.drew) := (Ext.refl wr).drew
        refine AnyT.start (S := fun w' => Ext wr w') (T := fun _ => false) (by kernel_rfl) ?_
        refine AnyT.ld 0 39 (.slice (some ⟨g, o, none⟩) m c9) _ rfl rfl (by kernel_rfl) (fun _ _ _ h => h) HS0.out rfl ?_ ?_
        focus (intro w' hSw; have hs := HSI.out w' hSw; go_split_ands; go_simp; try (first | exact rfl | omega | go_num | (intro hbd; exfalso; omega)))
        simp only [Act.put, List.setIfInBounds_toArray, List.set_cons_zero, List.set_cons_succ]
        refine AnyT.ld 1 40 (.int .i64 i) _ rfl rfl (by kernel_rfl) (fun _ _ _ h => h) HS0.out rfl ?_ ?_
        focus (intro w' hSw; have hs := HSI.out w' hSw; go_split_ands; go_simp; try (first | exact rfl | omega | go_num | (intro hbd; exfalso; omega)))
        simp only [Act.put, List.setIfInBounds_toArray, List.set_cons_zero, List.set_cons_succ]
        refine AnyT.ld 2 41 (.pointer (some ⟨g, o + i, none⟩)) _ rfl rfl (by kernel_rfl) (fun _ _ _ h => h) HS0.out rfl ?_ ?_
        focus (intro w' hSw; have hs := HSI.out w' hSw; go_split_ands; go_simp; try (first | exact rfl | omega | go_num | (intro hbd; exfalso; omega)))
        simp only [Act.put, List.setIfInBounds_toArray, List.set_cons_zero, List.set_cons_succ]
        refine AnyT.ld 3 42 (.slice (some ⟨g5, o5, none⟩) q5 d5) _ rfl rfl (by kernel_rfl) (fun _ _ _ h => h) HS0.out rfl ?_ ?_
        focus (intro w' hSw; have hs := HSI.out w' hSw; go_split_ands; go_simp; try (first | exact rfl | omega | go_num | (intro hbd; exfalso; omega)))
        simp only [Act.put, List.setIfInBounds_toArray, List.set_cons_zero, List.set_cons_succ]
        refine AnyT.ld 4 43 (.pointer (some ⟨g5, o5, none⟩)) _ rfl rfl (by kernel_rfl) (fun _ _ _ h => h) HS0.out rfl ?_ ?_
        focus (intro w' hSw; have hs := HSI.out w' hSw; go_split_ands; go_simp; try (first | exact rfl | omega | go_num | (intro hbd; exfalso; omega)))
        simp only [Act.put, List.setIfInBounds_toArray, List.set_cons_zero, List.set_cons_succ]
        refine AnyT.ld 5 44 (.pointer (some ⟨g5, o5, none⟩)) _ rfl rfl (by kernel_rfl) (fun _ _ _ h => h) HS0.out rfl ?_ ?_
        focus (intro w' hSw; have hs := HSI.out w' hSw; go_split_ands; go_simp; try (first | exact rfl | omega | go_num | (intro hbd; exfalso; omega)))
        simp only [Act.put, List.setIfInBounds_toArray, List.set_cons_zero, List.set_cons_succ]
        refine AnyT.ld 6 45 (.agg #[.bool x0, .slice X0 x1 x2, .bool y0, .slice Y0 y1 y2]) _ rfl rfl (by kernel_rfl) (fun _ _ _ h => h) HS0.out rfl ?_ ?_
        focus (intro w' hSw; have hs := HSI.out w' hSw; go_split_ands; go_simp; try (first | exact rfl | omega | go_num | (intro hbd; exfalso; omega)))
        simp only [Act.put, List.setIfInBounds_toArray, List.set_cons_zero, List.set_cons_succ]
        refine AnyT.ld 7 46 (.slice (some ⟨g, o, none⟩) m c9) _ rfl rfl (by kernel_rfl) (fun _ _ _ h => h) HS0.out rfl ?_ ?_
        focus (intro w' hSw; have hs := HSI.out w' hSw; go_split_ands; go_simp; try (first | exact rfl | omega | go_num | (intro hbd; exfalso; omega)))
        simp only [Act.put, List.setIfInBounds_toArray, List.set_cons_zero, List.set_cons_succ]
        refine AnyT.ld 8 47 (.int .i64 b) _ rfl rfl (by kernel_rfl) (fun _ _ _ h => h) HS0.out rfl ?_ ?_
        focus (intro w' hSw; have hs := HSI.out w' hSw; go_split_ands; go_simp; try (first | exact rfl | omega | go_num | (intro hbd; exfalso; omega)))
        simp only [Act.put, List.setIfInBounds_toArray, List.set_cons_zero, List.set_cons_succ]
        refine AnyT.ld 9 48 (.pointer (some ⟨g, o + b, none⟩)) _ rfl rfl (by kernel_rfl) (fun _ _ _ h => h) HS0.out rfl ?_ ?_
        focus (intro w' hSw; have hs := HSI.out w' hSw; go_split_ands; go_simp; try (first | exact rfl | omega | go_num | (intro hbd; exfalso; omega)))
        simp only [Act.put, List.setIfInBounds_toArray, List.set_cons_zero, List.set_cons_succ]
        refine AnyT.ld 10 49 (.slice (some ⟨g6, o6, none⟩) q6 d6) _ rfl rfl (by kernel_rfl) (fun _ _ _ h => h) HS0.out rfl ?_ ?_
        focus (intro w' hSw; have hs := HSI.out w' hSw; go_split_ands; go_simp; try (first | exact rfl | omega | go_num | (intro hbd; exfalso; omega)))
        simp only [Act.put, List.setIfInBounds_toArray, List.set_cons_zero, List.set_cons_succ]
        refine AnyT.ld 11 50 (.pointer (some ⟨g6, o6, none⟩)) _ rfl rfl (by kernel_rfl) (fun _ _ _ h => h) HS0.out rfl ?_ ?_
        focus (intro w' hSw; have hs := HSI.out w' hSw; go_split_ands; go_simp; try (first | exact rfl | omega | go_num | (intro hbd; exfalso; omega)))
        simp only [Act.put, List.setIfInBounds_toArray, List.set_cons_zero, List.set_cons_succ]
        refine AnyT.ld 12 51 (.pointer (some ⟨g6, o6, none⟩)) _ rfl rfl (by kernel_rfl) (fun _ _ _ h => h) HS0.out rfl ?_ ?_
        focus (intro w' hSw; have hs := HSI.out w' hSw; go_split_ands; go_simp; try (first | exact rfl | omega | go_num | (intro hbd; exfalso; omega)))
        simp only [Act.put, List.setIfInBounds_toArray, List.set_cons_zero, List.set_cons_succ]
        refine AnyT.ld 13 52 (.agg #[.bool z0, .slice Z0 z1 z2, .bool t0, .slice T0 t1 t2]) _ rfl rfl (by kernel_rfl) (fun _ _ _ h => h) HS0.out rfl ?_ ?_
        focus (intro w' hSw; have hs := HSI.out w' hSw; go_split_ands; go_simp; try (first | exact rfl | omega | go_num | (intro hbd; exfalso; omega)))
        simp only [Act.put, List.setIfInBounds_toArray, List.set_cons_zero, List.set_cons_succ]
        refine AnyT.step 14 (by kernel_rfl) ?_
        intro o ho K hK
        simp only [List.getElem?_toArray, List.getElem?_cons_succ, List.getElem?_cons_zero, Option.some.injEq] at ho
        subst ho
        go_simp
        refine (CMP.out _ HS0.out).mono ?_
        rintro e wn ⟨rfl, hxn⟩
        have hyn := HS0.out.trans hxn
        refine hK.out _ _ (fun _ => hyn) ?_
        clear HS0 hxn
        have HS0 := Lib.hid hyn
        have HXn := Lib.hid (HXr.out.trans hyn)
        clear hyn
        refine AnyT.ld 15 54 (.bool false) _ rfl rfl (by kernel_rfl) (fun _ _ _ h => h) HS0.out rfl ?_ ?_
        focus (intro w' hSw; have hs := HSI.out w' hSw; go_split_ands; go_simp; try (first | exact rfl | omega | go_num | (intro hbd; exfalso; omega)))
        simp only [Act.put, List.setIfInBounds_toArray, List.set_cons_zero, List.set_cons_succ]
        refine AnyT.done (by kernel_rfl) ?_
        clear HSI HS0
        go_wp2_with fail
        go_roundw
        case rel => exact ⟨i + 1, by omega, by go_num, by rw [show i + 1 - 1 = i by omega, HNB.out], HXn⟩
        case measure => simp [RowKit.intOf]; omega
    · obtain rfl : m = i := by omega
      have HLP : Hid (bp (fun p => (dv p l).1) (m - 1) = lp l k) := by rw [Hid, ← HMM.out]; rfl
      have hlp : lp l k < m := by have h := HMM.out; rw [← h]; exact lp_lt (by omega) h1
      have HDDr := Lib.hid (DDL.ext HDD.out HXr.out)
      have BLr := Lib.hid (BL3.out.ext HXr.out)
      have HVr := Lib.hid (LnV.ext HVL.out HXr.out)
      have HX4 := Lib.hid (HX3.out.trans HXr.out)
      have HC0 : Hid (([] : List Rat) ++ rem l 0 (lp l k + 1) = lcen l k) := rfl
      rw [HLP.out]
      clear HDD BL3 HVL HX3 HXr HMM hi him
      generalize wr = w4 at *
      have HO0 : Hid (OwnL tFrac 4 FrR w4.heap.size w4 (.slice none 0 0) []) := OwnL.nil
      go_wp2_with fail
      go_loopw [12, 13, 14, 15, 16, 17, 18] (fun v12 v13 v14 _ _ _ _ wr => ∃ (q s : Nat) (ds : List Rat), q ≤ lp l k + 1 ∧ (0 < q → s + (q - 1) < l.length) ∧ v13 = .int .i64 s ∧ v14 = .int .i64 ((q : Int) - 1) ∧ Hid (ds ++ rem l s q = lcen l k) ∧ Hid (OwnL tFrac 4 FrR w4.heap.size wr v12 ds) ∧ Hid (Ext w4 wr)) (fun _ _ v14 _ _ _ _ _ => (RowKit.intOf v14 + 1).toNat)
      case atStart => exact ⟨lp l k + 1, 0, [], Nat.le_refl _, fun _ => by omega, rfl, by go_num, HC0, HO0, Ext.refl _⟩
      case round =>
        obtain ⟨q, s, ds, hq, hs, rfl, rfl, HCC, HOD, HXr⟩ := hrel
        by_cases hq0 : 0 < q
        · obtain ⟨p, rfl⟩ : ∃ p, q = p + 1 := ⟨q - 1, by omega⟩
          have hsp : s + p < l.length := by have h := hs hq0; omega
          obtain ⟨hy1, hy2⟩ := dvr_next hsp
          have HRN := Lib.hid (rem_next hsp)
          rw [HRN.out] at HCC
          have hpm : p < m := by omega
          have hpc : ((p + 1 : Nat) : Int) - 1 = (p : Int) := by omega
          rw [hpc]
          obtain ⟨q5, hq5⟩ : ∃ q, l.length - p = q := ⟨_, rfl⟩
          have hsq : s < q5 := by omega
          obtain ⟨g, o, g5, o5, d5, rfl, HCN⟩ := dd_nx (p := p) (j := s) HDDr.out hpm rfl hq5 hsq
          have PA := Lib.hid (fun w' hx => part_any _ l s (dvr l p s).2 w' (LnV.ext HVr.out hx) HM.out (by omega) (by omega))
          clear hq5 HRN hpc
          generalize (dvr l p s).2 = t at *
          obtain ⟨p1, p2⟩ := HCN.out wr HXr.out
          have hsk := seg_ok HM.out s t
          have hne := seg_ne hy1 (show t ≤ l.length by omega)
          have F0 := Lib.hid (M0_fit hsk)
          have F1 := Lib.hid (M1_fit hsk)
          have P0 := Lib.hid (numpos (M0_pos hsk.pos hne))
          have HE : Hid (M1 (seg l s t) / M0 (seg l s t) = mean (seg l s t)) := rfl
          have hbt := ds_b64 HCC.out (by rw [lcen_length]; omega)
          clear hsk hne
          obtain ⟨Ad, cd, xd, rfl, RD, CD⟩ := OwnL.cut HOD.out rfl
          have BLw := Lib.hid (BLr.out.ext HXr.out)
          obtain ⟨q0, q1, q2⟩ := BLw.out.three
          generalize M0 (seg l s t) = m0 at *
          generalize M1 (seg l s t) = m1 at *
          generalize M2 (seg l s t) = m2 at *
          generalize mean (seg l s t) = mu at *
          go_wp2_with fail
          refine (PA.out wr HXr.out).mono ?_
          rintro e w5 ⟨vx, vy, vz, rfl, hvx, hvy, hvz, hx5⟩
          obtain ⟨a0, aA, a1, a2, a3, aB, a4, a5, rfl, _, _⟩ := hvx.parts
          obtain ⟨b0, bA, b1, b2, b3, bB, b4, b5, rfl, _, _⟩ := hvy.parts
          obtain ⟨d0, dA, d1, d2, d3, dB, d4, d6, rfl, _, _⟩ := hvz.parts
          clear q0 q1 q2 p1 p2
          go_upto_region 20 with fail
          refine box3 (P := fun W => Code.wp _ _ _ _ W) fun W6 HX6 B7 B8 B9 => ?_
          have hy6 := hx5.trans HX6.out
          have HVx := Lib.hid (hvx.ext HX6.out)
          have HVy := Lib.hid (hvy.ext HX6.out)
          clear hvx hvy hvz hx5 HX6
          obtain ⟨k0, k1, k2, k3⟩ := B7.out.four
          obtain ⟨j0, j1, j2, j3⟩ := B8.out.four
          go_wp2_with fail
          refine (fdiv_any _ _ _ _ _ HVy.out HVx.out F1.out F0.out (by decide) P0.out).mono ?_
          rintro e w7 ⟨v7, rfl, hv7, hx7⟩
          rw [HE.out] at hv7
          obtain ⟨e0, eA, e1, e2, e3, eB, e4, e5, rfl, _, _⟩ := hv7.parts
          have hy7 := hy6.trans hx7
          have RD7 := Lib.hid (own_extR RD.out hy7)
          have hb7 : w4.heap.size ≤ w7.heap.size := Nat.le_trans HXr.out.size hy7.size
          clear k0 k1 k2 k3 j0 j1 j2 j3
          go_wp2_with (at_builtin; refine wpList_app1 rfl _ _ tFracs rfl w4.heap.size frac_slice _ _ _ rfl RD7.out #[.bool e0, .slice eA e1 e2, .bool e3, .slice eB e4 e5] 1 1 rfl rfl rfl hbt hb7 ?_)
          intro v' w8 ho8 hg8 _
          have O8 : Hid (OwnL tFrac 4 FrR w4.heap.size w8 v' (ds ++ [mu])) := OwnL.snoc (R := FrR) (w := w7) (x := mu) FrR.stab (by decide) RD7.out (CD.out.mono fun c x hc => FrR.stab _ _ _ _ (fun _ _ => .of_below hy7) hc) ⟨e0, eA, e1, e2, e3, eB, e4, e5, rfl, hv7⟩ ho8 hg8
          have X8 := Lib.hid ((HXr.out.trans hy7).grownO RD7.out hg8)
          have HC8 : Hid ((ds ++ [mu]) ++ rem l t p = lcen l k) := by rw [List.append_assoc]; exact HCC.out
          clear ho8 hg8 hy7 hx7 hv7 hbt
          go_wp2_with fail
          go_roundw
          case rel => exact ⟨p, t, ds ++ [mu], by omega, fun h => by omega, rfl, by go_num, HC8, O8, X8⟩
          case measure => simp [RowKit.intOf]
        · obtain rfl : q = 0 := by omega
          have HDS : Hid (ds = lcen l k) := (List.append_nil ds).symm.trans HCC.out
          obtain ⟨q5, hq5⟩ : ∃ q, l.length - lp l k = q := ⟨_, rfl⟩
          have h5 : 0 < q5 := by omega
          obtain ⟨g, o, g5, o5, d5, x0, X0, x1, x2, y0, Y0, y1, y2, rfl, HC1, HV1⟩ := dd_at (p := lp l k) (j := 0) HDDr.out hlp rfl hq5 h5
          simp only [Nat.zero_mul, Nat.add_zero] at HC1
          rw [dvr_top] at HV1
          have HVV : Hid (FracV wr (.agg #[.bool x0, .slice X0 x1 x2, .bool y0, .slice Y0 y1 y2]) (lcost l k)) := HV1.out.ext HXr.out
          have hll := lcen_length l k
          have F1 := dv_fit (lp l k) l HM.out (by omega)
          have F2 := cen_fit (lp l k) l HM.out (by omega)
          have HF : Hid (∀ x ∈ lcen l k ++ [lcost l k], FitQ 400 x) := fun x hx => by
            rcases List.mem_append.1 hx with hx | hx
            · exact (F2 x hx).mono (by decide)
            · rw [List.mem_singleton.1 hx]; exact F1.mono (by omega)
          obtain ⟨n, hn⟩ : ∃ n, (lcen l k).length = n := ⟨_, rfl⟩
          have hn9 : n ≤ 9 := by omega
          have HN := Lib.hid hn
          have hds := HDS.out
          subst hds
          clear HDS HCC hs hq0 hq hq5 HV1 F1 F2
          obtain ⟨L, hLc⟩ : ∃ L, lcen l k = L := ⟨_, rfl⟩
          obtain ⟨lc, hLo⟩ : ∃ lc, lcost l k = lc := ⟨_, rfl⟩
          rw [hLc] at HF HN hn HOD
          rw [hLo] at HF HVV
          have HLc := Lib.hid hLc
          have HLo := Lib.hid hLo
          clear hLc hLo hll HC0
          generalize lp l k = pp at *
          obtain ⟨Ad, cd, xd, rfl, RD, CD⟩ := OwnL.cut HOD.out hn
          have hbt := b64n hn9
          have hb : w4.heap.size ≤ wr.heap.size := HXr.out.size
          obtain ⟨p1, p2, p3, p4, p5⟩ := HC1.out wr HXr.out
          clear hn HC1
          go_wp2_with (at_builtin; refine wpList_app1 rfl _ _ tFracs rfl w4.heap.size frac_slice _ _ _ rfl RD.out #[.bool x0, .slice X0 x1 x2, .bool y0, .slice Y0 y1 y2] 1 1 rfl rfl rfl hbt hb ?_)
          intro v' w8 ho8 hg8 _
          have O8 : Hid (OwnL tFrac 4 FrR w4.heap.size w8 v' (L ++ [lc])) := OwnL.snoc (R := FrR) (w := wr) (x := lc) FrR.stab (by decide) (by rw [HN.out]; exact RD.out) CD.out ⟨x0, X0, x1, x2, y0, Y0, y1, y2, rfl, HVV.out⟩ (by rw [HN.out]; exact ho8) hg8
          have X8 := Lib.hid (HX4.out.trans (HXr.out.grownO RD.out hg8))
          have hl1 : (L ++ [lc]).length = n + 1 := by rw [List.length_append, HN.out]; rfl
          have FT := Lib.hid (ftexts_any v' (L ++ [lc]) w8 O8.out.ls HF.out (by omega) (HT.out.ext X8.out))
          rw [hl1] at FT
          clear ho8 hg8 hbt hl1 p1 p2 p3 p4 p5
          go_wp2_with fail
          refine FT.out.mono ?_
          rintro e w9 ⟨A, c, rfl, hrl, hx9⟩
          have HX9 := Lib.hid (X8.out.trans hx9)
          obtain ⟨gR, oR, rfl, hcell, hc1, hc2, hrl2⟩ := RL.init hrl HN.out
          have HRL := Lib.hid hrl2
          have hc3 : c ≤ 9223372036854775807 := by unfold maxLen at hc2; omega
          generalize htq : ratText lc = tq at *
          have HTQ := Lib.hid htq
          clear htq hrl hrl2 hx9 hc2
          have hn1 : ((n + 1 : Nat) : Int) - 1 = (n : Int) := by omega
          clear HXr HDDr HVV HF HOD RD CD FT O8 X8 HVr BLr HX4 HO0 HLP MS LA DI
          go_upto_region 25 with fail
          go_region
          go_wp2
          go_ret3
          rw [HLc.out, HLo.out, HN.out, HTQ.out]
          exact ⟨some ⟨gR, oR, none⟩, n, rfl, RL.ext HRL.out (Ext.refl w9).drew, HX9.out.drew⟩
end Go.Proofs.YtkhmfgkbobblmaaGreatDoor
