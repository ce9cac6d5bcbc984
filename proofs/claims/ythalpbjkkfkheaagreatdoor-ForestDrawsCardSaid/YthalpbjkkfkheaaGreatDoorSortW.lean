/- joinlearnref06.Sort walked. -/
import Derived.Test.YthalpbjkkfkheaaGreatDoorSortR
namespace Go.Proofs.YthalpbjkkfkheaaGreatDoor
open Go.RowKit Go.Lib

theorem own_rw {w : World} {base g n c : Nat} {o : List Rw} (h : OwnL tRow 2 RwR base w (.slice (some ⟨g, 0, none⟩) n c) o) {k : Nat} (hk : k < o.length) :
    ∃ B d, g < w.heap.size ∧ w.cell? ⟨g, k * 2, none⟩ = some (.slice B o[k].1.length d) ∧ w.cell? ⟨g, k * 2 + 1, none⟩ = some (.int .i64 o[k].2) ∧ Hid (TL w (.slice B o[k].1.length d) o[k].1) := by
  obtain ⟨g', o', B, d, e, h1, h2, h3, h4⟩ := RwL.get h.ls hk
  injection e with e
  injection e with e1 e2
  subst e1 e2
  rw [Nat.zero_add] at h2 h3
  exact ⟨B, d, h1, h2, h3, h4⟩
set_option maxRecDepth 100000 in
set_option maxHeartbeats 4000000 in
theorem rsort_any (A : Option Addr) (n c : Nat) (l : List Rw) (w : World) (h : RwL w (.slice A n c) l) (hl : l.length ≤ 1000) (hw : ∀ y ∈ l, y.2.natAbs ≤ 1000000) :
    Calls Tryz.prog 20 #[.slice A n c] w fun e w' => ∃ v, e = .returned v ∧ OwnL tRow 2 RwR w.heap.size w' v (sortR l) ∧ Ext w w' := by
  obtain ⟨hn, hnc, hcm⟩ := cap_le h
  subst hn
  have HL := Lib.hid h
  have HF := Lib.hid (foldR_w hw)
  have HWt := Lib.hid hw
  clear h hw
  go_enter Tryz.func20, Tryz.ntmps20
  go_upto_region 3 with fail
  go_loopw [3, 5, 6, 12] (fun v3 _ _ v12 wr => ∃ i : Nat, i ≤ l.length ∧ v12 = .int .i64 i ∧ Hid (OwnL tRow 2 RwR w.heap.size wr v3 (foldR l i)) ∧ Hid (Ext w wr)) (fun _ _ _ v12 _ => l.length - (RowKit.intOf v12).toNat)
  case atStart => exact ⟨0, Nat.zero_le _, rfl, OwnL.nil, Ext.refl _⟩
  case round =>
    obtain ⟨i, hi, rfl, HO, HX⟩ := hrel
    by_cases hil : i < l.length
    · obtain ⟨gi, oi, Bi, di, rfl, hgi, hp1, hp2, HTi⟩ := RwL.get (RwL.ext HL.out HX.out) hil
      have HFN := Lib.hid (foldR_succ hil)
      have HWi := Lib.hid (HWt.out _ (List.getElem_mem hil))
      obtain ⟨hf1, hf2⟩ := HF.out i hi
      have HF2 := Lib.hid hf2
      clear hf2
      generalize l[i] = x at *
      generalize foldR l i = o at *
      obtain ⟨xv, xw⟩ := x
      simp only at hp1 hp2 HTi HWi
      obtain ⟨Ao, co, xs, rfl, hoc, hcm2, HR, HC⟩ := HO.out.parts
      go_upto_region 5 with fail
      refine box1 (P := fun W => Code.wp _ _ _ _ W) fun W HXW BX => ?_
      have HO1 := Lib.hid (HO.out.ext RwR.stab HXW.out)
      have HX1 := Lib.hid (HX.out.trans HXW.out)
      have HT1 := Lib.hid (TL.ext HTi.out HXW.out)
      have hbs := BX.out.lt
      have hwb : w.heap.size ≤ wr.heap.size := HX.out.size
      generalize wr.heap.size = bx at *
      clear HO HX HXW HTi hp1 hp2 HR HC
      have HIN0 : Hid (insR (xv, xw) o = o.take 0 ++ insR (xv, xw) (o.drop 0)) := rfl
      go_upto_region 6 with fail
      go_loopw [6] (fun v6 wr => ∃ k : Nat, k ≤ o.length ∧ v6 = .int .i64 k ∧ Hid (insR (xv, xw) o = o.take k ++ insR (xv, xw) (o.drop k)) ∧ Hid (OwnL tRow 2 RwR w.heap.size wr (.slice Ao o.length co) o) ∧ Hid (Blk wr bx tRow [.slice Bi xv.length di, .int .i64 xw]) ∧ Hid (TL wr (.slice Bi xv.length di) xv) ∧ Hid (Ext w wr)) (fun v6 _ => o.length - (RowKit.intOf v6).toNat)
      case atStart => exact ⟨0, Nat.zero_le _, rfl, HIN0, HO1, BX, HT1, HX1⟩
      case round =>
        clear HO1 BX HT1 HX1 hbs HIN0
        obtain ⟨k, hk, rfl, HIN, HO1, BX, HT1, HX1⟩ := hrel
        obtain ⟨b0, b1⟩ := BX.out.two
        have hbs := BX.out.lt
        generalize wr = W at *
        by_cases hkl : k < o.length
        · obtain ⟨_, _, xs, e, _, _, HR, HC⟩ := HO1.out.parts
          injection e with e1 _ e2
          subst e1 e2
          obtain ⟨go', rfl, hgb⟩ := own_some HR.out (by omega)
          obtain ⟨Bk, dk, hgk, hq1, hq2, HTk⟩ := own_rw HO1.out hkl
          have HLS : Hid (∀ n, Calls Tryz.prog 28 #[.slice Bk o[k].1.length dk, .slice Bi xv.length di] (W.drewN n) fun e w' => e = .returned (.bool (ltT o[k].1 xv)) ∧ ∃ m, w' = W.drewN m) := fun n => by
            refine (rless_any _ _ _ _ _ _ o[k].1 xv _ (TL.ext HTk.out ((Ext.refl W).drewN n)) (TL.ext HT1.out ((Ext.refl W).drewN n))).mono ?_
            rintro e w' ⟨h1, m, rfl⟩
            exact ⟨h1, _, drewN_add _ _ _⟩
          have HTX : Hid (∀ n, Calls Tryz.prog 13 #[.slice Bk o[k].1.length dk, .slice Bi xv.length di] (W.drewN n) fun e w' => e = .returned (.bool (o[k].1 == xv)) ∧ ∃ m, w' = W.drewN m) := fun n => by
            refine (rtexts_any _ _ _ _ _ _ o[k].1 xv _ (TL.ext HTk.out ((Ext.refl W).drewN n)) (TL.ext HT1.out ((Ext.refl W).drewN n))).mono ?_
            rintro e w' ⟨h1, m, rfl⟩
            exact ⟨h1, _, drewN_add _ _ _⟩
          have HS1 := Lib.hid (fun h => insR_step hkl HIN.out h)
          have HS2 := Lib.hid (fun h h' => insR_new hkl HIN.out h h')
          have HS3 := Lib.hid (fun h h' => insR_old hkl HIN.out h h')
          have HWk := Lib.hid (HF2.out _ (List.getElem_mem hkl))
          simp only at HS1 HS2 HS3
          obtain ⟨y, hy⟩ : ∃ y, y = o[k] := ⟨_, rfl⟩
          have HY := Lib.hid hy
          rw [← hy] at HLS HTX HS1 HS2 HS3 HWk hq1 hq2 HTk
          clear hy
          cases hlt : ltT y.1 xv with
          | true =>
            rw [hlt] at HLS
            have HN := Lib.hid (HS1.out hlt)
            clear hlt HS1 HS2 HS3 HTX
            go_wp2_with fail
            go_quiet ((go_at_call 28; exact HLS.out _))
            go_wp2
            go_roundw
            case rel => exact ⟨k + 1, by omega, by go_num, HN, HO1.out.ext RwR.stab ((Ext.refl W).drewN _), BX.out.drewN _, TL.ext HT1.out ((Ext.refl W).drewN _), HX1.out.drewN _⟩
            case measure => simp [RowKit.intOf]; omega
          | false =>
            rw [hlt] at HLS
            have HNN := Lib.hid (HS2.out hlt)
            have HNO := Lib.hid (HS3.out hlt)
            clear hlt HS1 HS2 HS3 HTX
            go_wp2_with fail
            go_quiet ((go_at_call 28; exact HLS.out _))
            go_upto_region 8 with fail
            have HX0 : Hid (Ext W (W.drewN nq)) := (Ext.refl W).drewN nq
            generalize W.drewN nq = W2 at *
            have HO2 := Lib.hid (HO1.out.ext RwR.stab HX0.out)
            have BX2 := Lib.hid (BX.out.ext HX0.out)
            have HT2 := Lib.hid (TL.ext HT1.out HX0.out)
            have HX2 := Lib.hid (HX1.out.trans HX0.out)
            have HR2 := Lib.hid (own_extR HR.out HX0.out)
            have HC2 := Lib.hid (Ch.mono (fun c x hc => RwR.stab _ _ _ _ (fun _ _ => Kept.of_below HX0.out) hc) HC.out)
            have HTk2 := Lib.hid (TL.ext HTk.out HX0.out)
            have hq1 := (HX0.out.cell (p := ⟨go', k * 2, none⟩) hgk).trans hq1
            have hq2 := (HX0.out.cell (p := ⟨go', k * 2 + 1, none⟩) hgk).trans hq2
            have hgk2 := Nat.lt_of_lt_of_le hgk HX0.out.size
            obtain ⟨b0, b1⟩ := BX2.out.two
            have HTX : Hid (∀ n, Calls Tryz.prog 13 #[.slice Bk y.1.length dk, .slice Bi xv.length di] (W2.drewN n) fun e w' => e = .returned (.bool (y.1 == xv)) ∧ ∃ m, w' = W2.drewN m) := fun n => by
              refine (rtexts_any _ _ _ _ _ _ y.1 xv _ (TL.ext HTk2.out ((Ext.refl W2).drewN n)) (TL.ext HT2.out ((Ext.refl W2).drewN n))).mono ?_
              rintro e w' ⟨h1, m, rfl⟩
              exact ⟨h1, _, drewN_add _ _ _⟩
            clear HLS HO1 BX HT1 HX1 HR HC HTk HX0 hgk
            cases heq : y.1 == xv with
            | true =>
              rw [heq] at HTX
              have HN := Lib.hid (HNO.out heq)
              clear heq HNN HNO
              go_quiet ((go_at_call 13; exact HTX.out _))
              go_upto_region 9 with fail
              have HX0 : Hid (Ext W2 (W2.drewN nq).drew) := ((Ext.refl W2).drewN nq).drew
              generalize hW3 : W2.drewN nq = W3 at *
              clear hW3
              have HO3 := Lib.hid (HO2.out.ext RwR.stab HX0.out)
              have BX3 := Lib.hid (BX2.out.ext HX0.out)
              have HX3 := Lib.hid (HX2.out.trans HX0.out)
              have HR3 := Lib.hid (own_extR HR2.out HX0.out)
              have HC3 : Hid (Ch (RwR W3.drew) xs o) := Ch.mono (fun c x hc => RwR.stab _ _ _ _ (fun _ _ => Kept.of_below HX0.out) hc) HC2.out
              have hq2 := (HX0.out.cell (p := ⟨go', k * 2 + 1, none⟩) hgk2).trans hq2
              have HWR : Hid (IntKind.i64.wrap (y.2 + xw) = y.2 + xw) := by have := HWk.out; have := HWi.out; rw [Hid, IntKind.wrap_i64]; omega
              clear HTX HO2 BX2 HT2 HX2 HR2 HC2 HTk2 HX0 hq1 hgk2 b0 b1
              have HSI : Hid (∀ w', Ext W3.drew w' → w'.cell? ⟨bx, 1, none⟩ = some (.int .i64 xw) ∧ w'.cell? ⟨go', k * 2 + 1, none⟩ = some (.int .i64 y.2)) := fun w' hx => ⟨(BX3.out.ext hx).cell (i := 1) rfl, (hx.cell (p := ⟨go', k * 2 + 1, none⟩) (by have := hgb.2; have := hx.size; exact own_in HR3.out)).trans hq2⟩
              have HS0 : Hid (Ext W3.drew W3.drew) := Ext.refl _
              refine AnyT.start (S := fun w' => Ext W3.drew w') (T := fun j => decide (10 ≤ j)) (by kernel_rfl) ?_
              generalize W3.drew = wd at *
              refine AnyT.ld 0 46 ?_ _ rfl rfl (by kernel_rfl) (fun _ _ _ h => h) HS0.out rfl ?_ ?_
              rotate_left
              focus (intro w' hSw; have hs := HSI.out w' hSw; go_split_ands; go_simp; try (first | exact rfl | omega | go_num | (intro hbd; exfalso; omega)))
              simp only [Act.put, List.setIfInBounds_toArray, List.set_cons_zero, List.set_cons_succ]
              refine AnyT.ld 1 47 ?_ _ rfl rfl (by kernel_rfl) (fun _ _ _ h => h) HS0.out rfl ?_ ?_
              rotate_left
              focus (intro w' hSw; have hs := HSI.out w' hSw; go_split_ands; go_simp; try (first | exact rfl | omega | go_num | (intro hbd; exfalso; omega)))
              simp only [Act.put, List.setIfInBounds_toArray, List.set_cons_zero, List.set_cons_succ]
              refine AnyT.ld 2 48 ?_ _ rfl rfl (by kernel_rfl) (fun _ _ _ h => h) HS0.out rfl ?_ ?_
              rotate_left
              focus (intro w' hSw; have hs := HSI.out w' hSw; go_split_ands; go_simp; try (first | exact rfl | omega | go_num | (intro hbd; exfalso; omega)))
              simp only [Act.put, List.setIfInBounds_toArray, List.set_cons_zero, List.set_cons_succ]
              refine AnyT.ld 3 49 ?_ _ rfl rfl (by kernel_rfl) (fun _ _ _ h => h) HS0.out rfl ?_ ?_
              rotate_left
              focus (intro w' hSw; have hs := HSI.out w' hSw; go_split_ands; go_simp; try (first | exact rfl | omega | go_num | (intro hbd; exfalso; omega)))
              simp only [Act.put, List.setIfInBounds_toArray, List.set_cons_zero, List.set_cons_succ]
              refine AnyT.ld 4 50 ?_ _ rfl rfl (by kernel_rfl) (fun _ _ _ h => h) HS0.out rfl ?_ ?_
              rotate_left
              focus (intro w' hSw; have hs := HSI.out w' hSw; go_split_ands; go_simp; try (first | exact rfl | omega | go_num | (intro hbd; exfalso; omega)))
              simp only [Act.put, List.setIfInBounds_toArray, List.set_cons_zero, List.set_cons_succ]
              refine AnyT.ld 5 51 ?_ _ rfl rfl (by kernel_rfl) (fun _ _ _ h => h) HS0.out rfl ?_ ?_
              rotate_left
              focus (intro w' hSw; have hs := HSI.out w' hSw; go_split_ands; go_simp; try (first | exact rfl | omega | go_num | (intro hbd; exfalso; omega)))
              simp only [Act.put, List.setIfInBounds_toArray, List.set_cons_zero, List.set_cons_succ]
              refine AnyT.ld 6 52 ?_ _ rfl rfl (by kernel_rfl) (fun _ _ _ h => h) HS0.out rfl ?_ ?_
              rotate_left
              focus (intro w' hSw; have hs := HSI.out w' hSw; go_split_ands; go_simp; try (first | exact rfl | omega | go_num | (intro hbd; exfalso; omega)))
              simp only [Act.put, List.setIfInBounds_toArray, List.set_cons_zero, List.set_cons_succ]
              refine AnyT.ld 7 53 (.int .i64 (y.2 + xw)) _ rfl rfl (by kernel_rfl) (fun _ _ _ h => h) HS0.out rfl ?_ ?_
              focus (intro w' hSw; have hs := HSI.out w' hSw; go_split_ands; go_simp; exact HWR.out)
              simp only [Act.put, List.setIfInBounds_toArray, List.set_cons_zero, List.set_cons_succ]
              refine AnyT.ld 8 54 ?_ _ rfl rfl (by kernel_rfl) (fun _ _ _ h => h) HS0.out rfl ?_ ?_
              rotate_left
              focus (intro w' hSw; have hs := HSI.out w' hSw; go_split_ands; go_simp; try (first | exact rfl | omega | go_num | (intro hbd; exfalso; omega)))
              simp only [Act.put, List.setIfInBounds_toArray, List.set_cons_zero, List.set_cons_succ]
              refine AnyT.ld 9 55 ?_ _ rfl rfl (by kernel_rfl) (fun _ _ _ h => h) HS0.out rfl ?_ ?_
              rotate_left
              focus (intro w' hSw; have hs := HSI.out w' hSw; go_split_ands; go_simp; try (first | exact rfl | omega | go_num | (intro hbd; exfalso; omega)))
              simp only [Act.put, List.setIfInBounds_toArray, List.set_cons_zero, List.set_cons_succ]
              obtain ⟨hS9, hG9⟩ := own_setw HR3.out HC3.out rfl hkl (y.2 + xw)
              have hf9 : wd.frozen? ⟨go', k * 2 + 1, none⟩ = false := HR3.out.frozenAt _
              have HE9 := Lib.hid (grown_below HX3.out HR3.out hG9 (Nat.le_refl _))
              rw [← HY.out] at hS9
              have HS9 := Lib.hid hS9
              clear hS9 hG9 HO3 BX3 HX3 HR3 HC3
              refine AnyT.step 10 (by kernel_rfl) ?_
              intro o ho K hK
              simp only [List.getElem?_toArray, List.getElem?_cons_succ, List.getElem?_cons_zero, Option.some.injEq] at ho
              subst ho
              go_simp
              refine hK.out _ _ (fun h => by cases h) ?_
              generalize wd.setCell ⟨go', k * 2 + 1, none⟩ (.int .i64 (y.2 + xw)) = W9 at *
              refine AnyT.done (by kernel_rfl) ?_
              clear HSI HS0 hq2 hf9 hK
              go_wp2_with fail
              go_roundw
              case rel => exact ⟨i + 1, by omega, by go_num, by rw [HFN.out, HN.out]; exact HS9, HE9⟩
              case measure => simp [RowKit.intOf]; omega
            | false =>
              rw [heq] at HTX
              have HN := Lib.hid (HNN.out heq)
              clear heq HNN HNO
              go_quiet ((go_at_call 13; exact HTX.out _))
              go_upto_region 10 with fail
              clear HTX HTk2 hq1 hq2 hgk2 b0 b1 HWk HWi HF2
              have HX0 : Hid (Ext W2 (W2.drewN nq).drew) := ((Ext.refl W2).drewN nq).drew
              generalize hW3 : W2.drewN nq = W3 at *
              clear hW3
              have HO3 := Lib.hid (HO2.out.ext RwR.stab HX0.out)
              have BX3 := Lib.hid (BX2.out.ext HX0.out)
              have HX3 := Lib.hid (HX2.out.trans HX0.out)
              have HT3 := Lib.hid (TL.ext HT2.out HX0.out)
              have HR3 := Lib.hid (own_extR HR2.out HX0.out)
              have HC3 : Hid (Ch (RwR W3.drew) xs o) := Ch.mono (fun c x hc => RwR.stab _ _ _ _ (fun _ _ => Kept.of_below HX0.out) hc) HC2.out
              clear HO2 BX2 HT2 HX2 HR2 HC2 HX0
              have HSI : Hid (∀ w', Ext W3.drew w' → w'.cell? ⟨bx, 0, none⟩ = some (.slice Bi xv.length di) ∧ w'.cell? ⟨bx, 1, none⟩ = some (.int .i64 xw)) := fun w' hx => (BX3.out.ext hx).two
              have HS0 : Hid (Ext W3.drew W3.drew) := Ext.refl _
              have hzw : w.heap.size ≤ W3.drew.heap.size := HX3.out.size
              refine AnyT.start (S := fun w' => Ext W3.drew w') (T := fun j => decide (9 ≤ j)) (by kernel_rfl) ?_
              generalize W3.drew = wd at *
              have hkc : k ≤ co := by omega
              refine AnyT.ld 0 56 ?_ _ rfl rfl (by kernel_rfl) (fun _ _ _ h => h) HS0.out rfl ?_ ?_
              rotate_left
              focus (intro w' hSw; have hs := HSI.out w' hSw; go_split_ands; go_simp; try (first | exact rfl | omega | go_num | (intro hbd; exfalso; omega)))
              simp only [Act.put, List.setIfInBounds_toArray, List.set_cons_zero, List.set_cons_succ]
              refine AnyT.ld 1 57 ?_ _ rfl rfl (by kernel_rfl) (fun _ _ _ h => h) HS0.out rfl ?_ ?_
              rotate_left
              focus (intro w' hSw; have hs := HSI.out w' hSw; go_split_ands; go_simp; try (first | exact rfl | omega | go_num | (intro hbd; exfalso; omega)))
              simp only [Act.put, List.setIfInBounds_toArray, List.set_cons_zero, List.set_cons_succ]
              refine AnyT.ld 2 58 ?_ _ rfl rfl (by kernel_rfl) (fun _ _ _ h => h) HS0.out rfl ?_ ?_
              rotate_left
              focus (intro w' hSw; have hs := HSI.out w' hSw; go_split_ands; go_simp; try (first | exact rfl | omega | go_num | (intro hbd; exfalso; omega)))
              simp only [Act.put, List.setIfInBounds_toArray, List.set_cons_zero, List.set_cons_succ]
              refine AnyT.ld 3 59 ?_ _ rfl rfl (by kernel_rfl) (fun _ _ _ h => h) HS0.out rfl ?_ ?_
              rotate_left
              focus (intro w' hSw; have hs := HSI.out w' hSw; go_split_ands; go_simp; try (first | exact rfl | omega | go_num | (intro hbd; exfalso; omega)))
              simp only [Act.put, List.setIfInBounds_toArray, List.set_cons_zero, List.set_cons_succ]
              refine AnyT.ld 5 61 ?_ _ rfl rfl (by kernel_rfl) (fun _ _ _ h => h) HS0.out rfl ?_ ?_
              rotate_left
              focus (intro w' hSw; have hs := HSI.out w' hSw; go_split_ands; go_simp; try (first | exact rfl | omega | go_num | (intro hbd; exfalso; omega)))
              simp only [Act.put, List.setIfInBounds_toArray, List.set_cons_zero, List.set_cons_succ]
              refine AnyT.ld 6 62 ?_ _ rfl rfl (by kernel_rfl) (fun _ _ _ h => h) HS0.out rfl ?_ ?_
              rotate_left
              focus (intro w' hSw; have hs := HSI.out w' hSw; go_split_ands; go_simp; try (first | exact rfl | omega | go_num | (intro hbd; exfalso; omega)))
              simp only [Act.put, List.setIfInBounds_toArray, List.set_cons_zero, List.set_cons_succ]
              refine AnyT.ld 7 63 (.slice (if co = k then some ⟨go', 0, none⟩ else some ⟨go', k * 2, none⟩) (o.length - k) (co - k)) _ rfl rfl (by kernel_rfl) (fun _ _ _ h => h) HS0.out rfl ?_ ?_
              focus (intro w' hSw; go_simp)
              simp only [Act.put, List.setIfInBounds_toArray, List.set_cons_zero, List.set_cons_succ]
              have hgd := own_in HR3.out
              refine AnyT.step 4 (by kernel_rfl) ?_
              intro o ho K hK
              simp only [List.getElem?_toArray, List.getElem?_cons_succ, List.getElem?_cons_zero, Option.some.injEq] at ho
              subst ho
              go_simp
              refine hK.out _ _ (fun _ => HS0.out.alloc _) ?_
              refine box1 (P := fun W => AnyT _ _ _ _ _ _ _ _ _ W) fun WZ HXZ BZ => ?_
              have HR4 := Lib.hid (own_extR HR3.out HXZ.out)
              have HC4 := Lib.hid (HC3.out.rw_kept (.of_below HXZ.out))
              have HT4 := Lib.hid (TL.ext HT3.out HXZ.out)
              have HX4 := Lib.hid (HX3.out.trans HXZ.out)
              have HZB : Hid (WZ.ownsRow wd.heap.size tRow 2 (.slice (some ⟨wd.heap.size, 0, none⟩) 1 1) 1 [.slice Bi xv.length di, .int .i64 xw]) := own_blk BZ.out rfl (Nat.le_refl _) (by decide)
              have hzz : wd.heap.size ≤ WZ.heap.size := HXZ.out.size
              clear HR3 HC3 HT3 HX3 HO3 BX3 hK
              have hlx : xs.length = o.length * 2 := HR4.out.1
              have hld : (xs.drop (k * 2)).length = (o.length - k) * 2 := by rw [List.length_drop, hlx]; omega
              have hb8 : (1 + (o.length - k)) * 32 ≤ 140737488355328 := by omega
              have hb9 : (k + (1 + (o.length - k))) * 32 ≤ 140737488355328 := by omega
              obtain ⟨ad, had, hsl⟩ : ∃ ad, (if co = k then some (⟨go', 0, none⟩ : Addr) else some ⟨go', k * 2, none⟩) = some ad ∧ Sl WZ tRow (some ad) (xs.drop (k * 2)) := by
                by_cases hck : co = k
                · have h0 : xs.drop (k * 2) = [] := List.eq_nil_of_length_eq_zero (by rw [hld]; omega)
                  exact ⟨⟨go', 0, none⟩, if_pos hck, by rw [h0]; exact Sl.nil⟩
                · exact ⟨⟨go', k * 2, none⟩, if_neg hck, own_tailK HR4.out⟩
              rw [had]
              have HSL := Lib.hid hsl
              clear had hsl
              refine AnyT.step 8 (by kernel_rfl) ?_
              intro oo hoo K hK
              simp only [List.getElem?_toArray, List.getElem?_cons_succ, List.getElem?_cons_zero, Option.some.injEq] at hoo
              subst hoo
              refine if_go rfl ?_
              refine wp_appT _ _ tRows rfl wd.heap.size row_slice _ _ _ rfl HZB.out ad (o.length - k) (co - k) (xs.drop (k * 2)) rfl hld HSL.out (fun u hu => rw_cells HC4.out u (List.mem_of_mem_drop hu)) hb8 hzz ?_
              intro v8 w8 ho8 hg8' _
              have hg8 : WZ.grownBy w8 (some wd.heap.size) := hg8'
              clear hg8'
              obtain ⟨A8, c8, rfl, _, _, _⟩ := own_parts ho8
              obtain ⟨g8, rfl, hg8b, hg8l⟩ := own_some ho8 (by omega)
              have HO8 := Lib.hid ho8
              have HE8 := Lib.hid (grown_below HXZ.out HZB.out hg8 (Nat.le_refl _))
              have HK8 : Hid (Kept tStr WZ w8) := Kept.grown HZB.out hg8 (by decide)
              have HX8 := Lib.hid (grown_below HX4.out HZB.out hg8 hzw)
              have HR8 := Lib.hid (own_grown HR4.out hg8 (fun q hq he => by
                have e1 : wd.heap.size = q := by injection hq
                have e2 : go' = q := by simpa [Value.ownBlock] using he
                have := hgd
                omega))
              have HC8 := Lib.hid (HC4.out.rw_kept HK8.out)
              have HT8 := Lib.hid (TL.kept1 HT4.out HK8.out)
              have hw8 : w.heap.size ≤ w8.heap.size := HX8.out.size
              clear ho8 hg8 HR4 HC4 HT4 HX4 HSL HZB BZ HXZ HK8
              simp only [Act.put, List.setIfInBounds_toArray, List.set_cons_zero, List.set_cons_succ]
              refine hK.out _ _ (fun _ => HE8.out) ?_
              clear hK
              refine AnyT.step 9 (by kernel_rfl) ?_
              intro oo hoo K hK
              simp only [List.getElem?_toArray, List.getElem?_cons_succ, List.getElem?_cons_zero, Option.some.injEq] at hoo
              subst hoo
              refine if_go rfl ?_
              have hl9 : ([Value.slice Bi xv.length di, .int .i64 xw] ++ xs.drop (k * 2)).length = (1 + (o.length - k)) * 2 := by rw [List.length_append, hld]; simp; omega
              refine wp_appT _ _ tRows rfl w.heap.size row_slice _ _ _ rfl (own_takeK HR8.out hk) ⟨g8, 0, none⟩ _ _ _ rfl hl9 (Sl.of_own HO8.out) ?_ hb9 hw8 ?_
              · intro u hu
                rcases List.mem_append.1 hu with hu | hu
                · rcases List.mem_cons.1 hu with rfl | hu
                  · rfl
                  · rw [List.mem_singleton.1 hu]; rfl
                · exact rw_cells HC8.out u (List.mem_of_mem_drop hu)
              intro v9 w9 ho9 hg9' _
              have hg9 : w8.grownBy w9 (some go') := hg9'
              clear hg9'
              have HK9 : Hid (Kept tStr w8 w9) := Kept.grown (own_takeK HR8.out hk) hg9 (by decide)
              have HX9 := Lib.hid (grown_below HX8.out (own_takeK HR8.out hk) hg9 (Nat.le_refl _))
              have HC9 := Lib.hid (ch_ins (x := (xv, xw)) (k := k) (HC8.out.rw_kept HK9.out) (TL.kept1 HT8.out HK9.out))
              have HO9 : Hid (OwnL tRow 2 RwR w.heap.size w9 v9 (o.take k ++ (xv, xw) :: o.drop k)) := ⟨_, by
                have e : (o.take k ++ (xv, xw) :: o.drop k).length = k + (1 + (o.length - k)) := by
                  rw [List.length_append, List.length_take, List.length_cons, List.length_drop]; omega
                rw [e]; exact ho9, HC9.out⟩
              obtain ⟨A9, c9, rfl, _, _, _⟩ := own_parts ho9
              clear ho9 hg9 HO8 HE8 HX8 HR8 HC8 HT8 HK9 HC9
              simp only [Act.put, List.setIfInBounds_toArray, List.set_cons_zero, List.set_cons_succ]
              refine hK.out _ _ (fun h => by cases h) ?_
              clear hK
              refine AnyT.step 10 (by kernel_rfl) ?_
              intro o ho K hK
              simp only [List.getElem?_toArray, List.getElem?_cons_succ, List.getElem?_cons_zero, Option.some.injEq] at ho
              subst ho
              go_simp
              refine hK.out _ _ (fun h => by cases h) ?_
              refine AnyT.done (by kernel_rfl) ?_
              clear HSI HS0 hK
              go_wp2_with fail
              go_roundw
              case rel => exact ⟨i + 1, by omega, by go_num, by rw [HFN.out, HN.out]; exact HO9, HX9⟩
              case measure => simp [RowKit.intOf]; omega
        · have hnl : o.length ≤ k := by omega
          obtain ⟨_, _, xs, e, _, _, HR, HC⟩ := HO1.out.parts
          injection e with e1 _ e2
          subst e1 e2
          have HN : Hid (insR (xv, xw) o = o.take k ++ (xv, xw) :: o.drop k) := by
            have e : k = o.length := by omega
            rw [Hid, e]
            exact insR_end (by rw [← e]; exact HIN.out)
          have d1 : decide ((k : Int) < (o.length : Int)) = false := decide_eq_false (by omega)
          clear HIN HWi HF2
          go_wp2_with fail
          go_quiet (fail)
          go_upto_region 8 with fail
          have HX0 : Hid (Ext W (W.drewN nq)) := (Ext.refl W).drewN nq
          generalize W.drewN nq = W2 at *
          have HO2 := Lib.hid (HO1.out.ext RwR.stab HX0.out)
          have BX2 := Lib.hid (BX.out.ext HX0.out)
          have HT2 := Lib.hid (TL.ext HT1.out HX0.out)
          have HX2 := Lib.hid (HX1.out.trans HX0.out)
          have HR2 := Lib.hid (own_extR HR.out HX0.out)
          have HC2 := Lib.hid (Ch.mono (fun c x hc => RwR.stab _ _ _ _ (fun _ _ => Kept.of_below HX0.out) hc) HC.out)
          clear HO1 BX HT1 HX1 HR HC HX0 b0 b1
          go_quiet (fail)
          go_upto_region 10 with fail
          clear d1
          rcases own_cases HR2.out with ⟨rfl, h0, rfl⟩ | ⟨go', rfl, hgb⟩
          · have h0 : o = [] := List.eq_nil_of_length_eq_zero h0
            subst h0
            have hk0 : k = 0 := by simpa using hk
            subst hk0
            have HX0 : Hid (Ext W2 (W2.drewN nq).drew) := ((Ext.refl W2).drewN nq).drew
            generalize hW3 : W2.drewN nq = W3 at *
            clear hW3
            have HO3 := Lib.hid (HO2.out.ext RwR.stab HX0.out)
            have BX3 := Lib.hid (BX2.out.ext HX0.out)
            have HX3 := Lib.hid (HX2.out.trans HX0.out)
            have HT3 := Lib.hid (TL.ext HT2.out HX0.out)
            have HR3 := Lib.hid (own_extR HR2.out HX0.out)
            have HC3 : Hid (Ch (RwR W3.drew) xs []) := Ch.mono (fun c x hc => RwR.stab _ _ _ _ (fun _ _ => Kept.of_below HX0.out) hc) HC2.out
            clear HO2 BX2 HT2 HX2 HR2 HC2 HX0
            have HSI : Hid (∀ w', Ext W3.drew w' → w'.cell? ⟨bx, 0, none⟩ = some (.slice Bi xv.length di) ∧ w'.cell? ⟨bx, 1, none⟩ = some (.int .i64 xw)) := fun w' hx => (BX3.out.ext hx).two
            have HS0 : Hid (Ext W3.drew W3.drew) := Ext.refl _
            have hzw : w.heap.size ≤ W3.drew.heap.size := HX3.out.size
            refine AnyT.start (S := fun w' => Ext W3.drew w') (T := fun j => decide (9 ≤ j)) (by kernel_rfl) ?_
            generalize W3.drew = wd at *
            refine AnyT.ld 0 56 ?_ _ rfl rfl (by kernel_rfl) (fun _ _ _ h => h) HS0.out rfl ?_ ?_
            rotate_left
            focus (intro w' hSw; have hs := HSI.out w' hSw; go_split_ands; go_simp; try (first | exact rfl | omega | go_num | (intro hbd; exfalso; omega)))
            simp only [Act.put, List.setIfInBounds_toArray, List.set_cons_zero, List.set_cons_succ]
            refine AnyT.ld 1 57 ?_ _ rfl rfl (by kernel_rfl) (fun _ _ _ h => h) HS0.out rfl ?_ ?_
            rotate_left
            focus (intro w' hSw; have hs := HSI.out w' hSw; go_split_ands; go_simp; try (first | exact rfl | omega | go_num | (intro hbd; exfalso; omega)))
            simp only [Act.put, List.setIfInBounds_toArray, List.set_cons_zero, List.set_cons_succ]
            refine AnyT.ld 2 58 ?_ _ rfl rfl (by kernel_rfl) (fun _ _ _ h => h) HS0.out rfl ?_ ?_
            rotate_left
            focus (intro w' hSw; have hs := HSI.out w' hSw; go_split_ands; go_simp; try (first | exact rfl | omega | go_num | (intro hbd; exfalso; omega)))
            simp only [Act.put, List.setIfInBounds_toArray, List.set_cons_zero, List.set_cons_succ]
            refine AnyT.ld 3 59 ?_ _ rfl rfl (by kernel_rfl) (fun _ _ _ h => h) HS0.out rfl ?_ ?_
            rotate_left
            focus (intro w' hSw; have hs := HSI.out w' hSw; go_split_ands; go_simp; try (first | exact rfl | omega | go_num | (intro hbd; exfalso; omega)))
            simp only [Act.put, List.setIfInBounds_toArray, List.set_cons_zero, List.set_cons_succ]
            refine AnyT.ld 5 61 ?_ _ rfl rfl (by kernel_rfl) (fun _ _ _ h => h) HS0.out rfl ?_ ?_
            rotate_left
            focus (intro w' hSw; have hs := HSI.out w' hSw; go_split_ands; go_simp; try (first | exact rfl | omega | go_num | (intro hbd; exfalso; omega)))
            simp only [Act.put, List.setIfInBounds_toArray, List.set_cons_zero, List.set_cons_succ]
            refine AnyT.ld 6 62 ?_ _ rfl rfl (by kernel_rfl) (fun _ _ _ h => h) HS0.out rfl ?_ ?_
            rotate_left
            focus (intro w' hSw; have hs := HSI.out w' hSw; go_split_ands; go_simp; try (first | exact rfl | omega | go_num | (intro hbd; exfalso; omega)))
            simp only [Act.put, List.setIfInBounds_toArray, List.set_cons_zero, List.set_cons_succ]
            refine AnyT.ld 7 63 ?_ _ rfl rfl (by kernel_rfl) (fun _ _ _ h => h) HS0.out rfl ?_ ?_
            rotate_left
            focus (intro w' hSw; have hs := HSI.out w' hSw; go_split_ands; go_simp; try (first | exact rfl | omega | go_num | (intro hbd; exfalso; omega)))
            simp only [Act.put, List.setIfInBounds_toArray, List.set_cons_zero, List.set_cons_succ]
            refine AnyT.step 4 (by kernel_rfl) ?_
            intro o ho K hK
            simp only [List.getElem?_toArray, List.getElem?_cons_succ, List.getElem?_cons_zero, Option.some.injEq] at ho
            subst ho
            go_simp
            refine hK.out _ _ (fun _ => HS0.out.alloc _) ?_
            refine box1 (P := fun W => AnyT _ _ _ _ _ _ _ _ _ W) fun WZ HXZ BZ => ?_
            have HR4 := Lib.hid (own_extR HR3.out HXZ.out)
            have HC4 := Lib.hid (HC3.out.rw_kept (.of_below HXZ.out))
            have HT4 := Lib.hid (TL.ext HT3.out HXZ.out)
            have HX4 := Lib.hid (HX3.out.trans HXZ.out)
            have HZB : Hid (WZ.ownsRow wd.heap.size tRow 2 (.slice (some ⟨wd.heap.size, 0, none⟩) 1 1) 1 [.slice Bi xv.length di, .int .i64 xw]) := own_blk BZ.out rfl (Nat.le_refl _) (by decide)
            have hzz : wd.heap.size ≤ WZ.heap.size := HXZ.out.size
            clear HR3 HC3 HT3 HX3 HO3 BX3 hK
            refine AnyT.step 8 (by kernel_rfl) ?_
            intro oo hoo K hK
            simp only [List.getElem?_toArray, List.getElem?_cons_succ, List.getElem?_cons_zero, Option.some.injEq] at hoo
            subst hoo
            refine if_go rfl ?_
            refine wp_appN _ _ tRows rfl row_slice wd.heap.size 1 _ _ rfl HZB.out rfl ?_
            simp only [Act.put, List.setIfInBounds_toArray, List.set_cons_zero, List.set_cons_succ]
            refine hK.out _ _ (fun _ => HXZ.out) ?_
            clear hK
            refine AnyT.step 9 (by kernel_rfl) ?_
            intro oo hoo K hK
            simp only [List.getElem?_toArray, List.getElem?_cons_succ, List.getElem?_cons_zero, Option.some.injEq] at hoo
            subst hoo
            refine if_go rfl ?_
            have hw8 : w.heap.size ≤ WZ.heap.size := HX4.out.size
            refine wp_appT _ _ tRows rfl w.heap.size row_slice _ 0 [] rfl (World.ownsRow_nil _ _ _ _) ⟨wd.heap.size, 0, none⟩ 1 1 [.slice Bi xv.length di, .int .i64 xw] rfl rfl (Sl.of_own HZB.out) ?_ (by decide) hw8 ?_
            · intro u hu
              rcases List.mem_cons.1 hu with rfl | hu
              · rfl
              · rw [List.mem_singleton.1 hu]; rfl
            intro v9 w9 ho9 hg9' _
            have hg9 : Ext WZ w9 := ext_grown hg9'
            clear hg9'
            have HX9 := Lib.hid (HX4.out.trans hg9)
            have HO9 : Hid (OwnL tRow 2 RwR w.heap.size w9 v9 [(xv, xw)]) := ⟨_, ho9, ⟨_, [], rfl, ⟨Bi, di, rfl, TL.ext HT4.out hg9⟩, rfl⟩⟩
            obtain ⟨A9, c9, rfl, _, _, _⟩ := own_parts ho9
            clear ho9 hg9 HR4 HC4 HT4 HX4 HZB BZ HXZ
            simp only [Act.put, List.setIfInBounds_toArray, List.set_cons_zero, List.set_cons_succ]
            refine hK.out _ _ (fun h => by cases h) ?_
            clear hK
            refine AnyT.step 10 (by kernel_rfl) ?_
            intro o ho K hK
            simp only [List.getElem?_toArray, List.getElem?_cons_succ, List.getElem?_cons_zero, Option.some.injEq] at ho
            subst ho
            go_simp
            refine hK.out _ _ (fun h => by cases h) ?_
            refine AnyT.done (by kernel_rfl) ?_
            clear HSI HS0 hK
            go_wp2_with fail
            go_roundw
            case rel => exact ⟨i + 1, by omega, by go_num, by rw [HFN.out, HN.out]; exact HO9, HX9⟩
            case measure => simp [RowKit.intOf]; omega
          · clear hnl
            have HX0 : Hid (Ext W2 (W2.drewN nq).drew) := ((Ext.refl W2).drewN nq).drew
            generalize hW3 : W2.drewN nq = W3 at *
            clear hW3
            have HO3 := Lib.hid (HO2.out.ext RwR.stab HX0.out)
            have BX3 := Lib.hid (BX2.out.ext HX0.out)
            have HX3 := Lib.hid (HX2.out.trans HX0.out)
            have HT3 := Lib.hid (TL.ext HT2.out HX0.out)
            have HR3 := Lib.hid (own_extR HR2.out HX0.out)
            have HC3 : Hid (Ch (RwR W3.drew) xs o) := Ch.mono (fun c x hc => RwR.stab _ _ _ _ (fun _ _ => Kept.of_below HX0.out) hc) HC2.out
            clear HO2 BX2 HT2 HX2 HR2 HC2 HX0
            have HSI : Hid (∀ w', Ext W3.drew w' → w'.cell? ⟨bx, 0, none⟩ = some (.slice Bi xv.length di) ∧ w'.cell? ⟨bx, 1, none⟩ = some (.int .i64 xw)) := fun w' hx => (BX3.out.ext hx).two
            have HS0 : Hid (Ext W3.drew W3.drew) := Ext.refl _
            have hzw : w.heap.size ≤ W3.drew.heap.size := HX3.out.size
            refine AnyT.start (S := fun w' => Ext W3.drew w') (T := fun j => decide (9 ≤ j)) (by kernel_rfl) ?_
            generalize W3.drew = wd at *
            have hkc : k ≤ co := by omega
            refine AnyT.ld 0 56 ?_ _ rfl rfl (by kernel_rfl) (fun _ _ _ h => h) HS0.out rfl ?_ ?_
            rotate_left
            focus (intro w' hSw; have hs := HSI.out w' hSw; go_split_ands; go_simp; try (first | exact rfl | omega | go_num | (intro hbd; exfalso; omega)))
            simp only [Act.put, List.setIfInBounds_toArray, List.set_cons_zero, List.set_cons_succ]
            refine AnyT.ld 1 57 ?_ _ rfl rfl (by kernel_rfl) (fun _ _ _ h => h) HS0.out rfl ?_ ?_
            rotate_left
            focus (intro w' hSw; have hs := HSI.out w' hSw; go_split_ands; go_simp; try (first | exact rfl | omega | go_num | (intro hbd; exfalso; omega)))
            simp only [Act.put, List.setIfInBounds_toArray, List.set_cons_zero, List.set_cons_succ]
            refine AnyT.ld 2 58 ?_ _ rfl rfl (by kernel_rfl) (fun _ _ _ h => h) HS0.out rfl ?_ ?_
            rotate_left
            focus (intro w' hSw; have hs := HSI.out w' hSw; go_split_ands; go_simp; try (first | exact rfl | omega | go_num | (intro hbd; exfalso; omega)))
            simp only [Act.put, List.setIfInBounds_toArray, List.set_cons_zero, List.set_cons_succ]
            refine AnyT.ld 3 59 ?_ _ rfl rfl (by kernel_rfl) (fun _ _ _ h => h) HS0.out rfl ?_ ?_
            rotate_left
            focus (intro w' hSw; have hs := HSI.out w' hSw; go_split_ands; go_simp; try (first | exact rfl | omega | go_num | (intro hbd; exfalso; omega)))
            simp only [Act.put, List.setIfInBounds_toArray, List.set_cons_zero, List.set_cons_succ]
            refine AnyT.ld 5 61 ?_ _ rfl rfl (by kernel_rfl) (fun _ _ _ h => h) HS0.out rfl ?_ ?_
            rotate_left
            focus (intro w' hSw; have hs := HSI.out w' hSw; go_split_ands; go_simp; try (first | exact rfl | omega | go_num | (intro hbd; exfalso; omega)))
            simp only [Act.put, List.setIfInBounds_toArray, List.set_cons_zero, List.set_cons_succ]
            refine AnyT.ld 6 62 ?_ _ rfl rfl (by kernel_rfl) (fun _ _ _ h => h) HS0.out rfl ?_ ?_
            rotate_left
            focus (intro w' hSw; have hs := HSI.out w' hSw; go_split_ands; go_simp; try (first | exact rfl | omega | go_num | (intro hbd; exfalso; omega)))
            simp only [Act.put, List.setIfInBounds_toArray, List.set_cons_zero, List.set_cons_succ]
            refine AnyT.ld 7 63 (.slice (if co = k then some ⟨go', 0, none⟩ else some ⟨go', k * 2, none⟩) (o.length - k) (co - k)) _ rfl rfl (by kernel_rfl) (fun _ _ _ h => h) HS0.out rfl ?_ ?_
            focus (intro w' hSw; go_simp)
            simp only [Act.put, List.setIfInBounds_toArray, List.set_cons_zero, List.set_cons_succ]
            have hgd := own_in HR3.out
            refine AnyT.step 4 (by kernel_rfl) ?_
            intro o ho K hK
            simp only [List.getElem?_toArray, List.getElem?_cons_succ, List.getElem?_cons_zero, Option.some.injEq] at ho
            subst ho
            go_simp
            refine hK.out _ _ (fun _ => HS0.out.alloc _) ?_
            refine box1 (P := fun W => AnyT _ _ _ _ _ _ _ _ _ W) fun WZ HXZ BZ => ?_
            have HR4 := Lib.hid (own_extR HR3.out HXZ.out)
            have HC4 := Lib.hid (HC3.out.rw_kept (.of_below HXZ.out))
            have HT4 := Lib.hid (TL.ext HT3.out HXZ.out)
            have HX4 := Lib.hid (HX3.out.trans HXZ.out)
            have HZB : Hid (WZ.ownsRow wd.heap.size tRow 2 (.slice (some ⟨wd.heap.size, 0, none⟩) 1 1) 1 [.slice Bi xv.length di, .int .i64 xw]) := own_blk BZ.out rfl (Nat.le_refl _) (by decide)
            have hzz : wd.heap.size ≤ WZ.heap.size := HXZ.out.size
            clear HR3 HC3 HT3 HX3 HO3 BX3 hK
            have hlx : xs.length = o.length * 2 := HR4.out.1
            have hld : (xs.drop (k * 2)).length = (o.length - k) * 2 := by rw [List.length_drop, hlx]; omega
            have hb8 : (1 + (o.length - k)) * 32 ≤ 140737488355328 := by omega
            have hb9 : (k + (1 + (o.length - k))) * 32 ≤ 140737488355328 := by omega
            obtain ⟨ad, had, hsl⟩ : ∃ ad, (if co = k then some (⟨go', 0, none⟩ : Addr) else some ⟨go', k * 2, none⟩) = some ad ∧ Sl WZ tRow (some ad) (xs.drop (k * 2)) := by
              by_cases hck : co = k
              · have h0 : xs.drop (k * 2) = [] := List.eq_nil_of_length_eq_zero (by rw [hld]; omega)
                exact ⟨⟨go', 0, none⟩, if_pos hck, by rw [h0]; exact Sl.nil⟩
              · exact ⟨⟨go', k * 2, none⟩, if_neg hck, own_tailK HR4.out⟩
            rw [had]
            have HSL := Lib.hid hsl
            clear had hsl
            refine AnyT.step 8 (by kernel_rfl) ?_
            intro oo hoo K hK
            simp only [List.getElem?_toArray, List.getElem?_cons_succ, List.getElem?_cons_zero, Option.some.injEq] at hoo
            subst hoo
            refine if_go rfl ?_
            refine wp_appT _ _ tRows rfl wd.heap.size row_slice _ _ _ rfl HZB.out ad (o.length - k) (co - k) (xs.drop (k * 2)) rfl hld HSL.out (fun u hu => rw_cells HC4.out u (List.mem_of_mem_drop hu)) hb8 hzz ?_
            intro v8 w8 ho8 hg8' _
            have hg8 : WZ.grownBy w8 (some wd.heap.size) := hg8'
            clear hg8'
            obtain ⟨A8, c8, rfl, _, _, _⟩ := own_parts ho8
            obtain ⟨g8, rfl, hg8b, hg8l⟩ := own_some ho8 (by omega)
            have HO8 := Lib.hid ho8
            have HE8 := Lib.hid (grown_below HXZ.out HZB.out hg8 (Nat.le_refl _))
            have HK8 : Hid (Kept tStr WZ w8) := Kept.grown HZB.out hg8 (by decide)
            have HX8 := Lib.hid (grown_below HX4.out HZB.out hg8 hzw)
            have HR8 := Lib.hid (own_grown HR4.out hg8 (fun q hq he => by
              have e1 : wd.heap.size = q := by injection hq
              have e2 : go' = q := by simpa [Value.ownBlock] using he
              have := hgd
              omega))
            have HC8 := Lib.hid (HC4.out.rw_kept HK8.out)
            have HT8 := Lib.hid (TL.kept1 HT4.out HK8.out)
            have hw8 : w.heap.size ≤ w8.heap.size := HX8.out.size
            clear ho8 hg8 HR4 HC4 HT4 HX4 HSL HZB BZ HXZ HK8
            simp only [Act.put, List.setIfInBounds_toArray, List.set_cons_zero, List.set_cons_succ]
            refine hK.out _ _ (fun _ => HE8.out) ?_
            clear hK
            refine AnyT.step 9 (by kernel_rfl) ?_
            intro oo hoo K hK
            simp only [List.getElem?_toArray, List.getElem?_cons_succ, List.getElem?_cons_zero, Option.some.injEq] at hoo
            subst hoo
            refine if_go rfl ?_
            have hl9 : ([Value.slice Bi xv.length di, .int .i64 xw] ++ xs.drop (k * 2)).length = (1 + (o.length - k)) * 2 := by rw [List.length_append, hld]; simp; omega
            refine wp_appT _ _ tRows rfl w.heap.size row_slice _ _ _ rfl (own_takeK HR8.out hk) ⟨g8, 0, none⟩ _ _ _ rfl hl9 (Sl.of_own HO8.out) ?_ hb9 hw8 ?_
            · intro u hu
              rcases List.mem_append.1 hu with hu | hu
              · rcases List.mem_cons.1 hu with rfl | hu
                · rfl
                · rw [List.mem_singleton.1 hu]; rfl
              · exact rw_cells HC8.out u (List.mem_of_mem_drop hu)
            intro v9 w9 ho9 hg9' _
            have hg9 : w8.grownBy w9 (some go') := hg9'
            clear hg9'
            have HK9 : Hid (Kept tStr w8 w9) := Kept.grown (own_takeK HR8.out hk) hg9 (by decide)
            have HX9 := Lib.hid (grown_below HX8.out (own_takeK HR8.out hk) hg9 (Nat.le_refl _))
            have HC9 := Lib.hid (ch_ins (x := (xv, xw)) (k := k) (HC8.out.rw_kept HK9.out) (TL.kept1 HT8.out HK9.out))
            have HO9 : Hid (OwnL tRow 2 RwR w.heap.size w9 v9 (o.take k ++ (xv, xw) :: o.drop k)) := ⟨_, by
              have e : (o.take k ++ (xv, xw) :: o.drop k).length = k + (1 + (o.length - k)) := by
                rw [List.length_append, List.length_take, List.length_cons, List.length_drop]; omega
              rw [e]; exact ho9, HC9.out⟩
            obtain ⟨A9, c9, rfl, _, _, _⟩ := own_parts ho9
            clear ho9 hg9 HO8 HE8 HX8 HR8 HC8 HT8 HK9 HC9
            simp only [Act.put, List.setIfInBounds_toArray, List.set_cons_zero, List.set_cons_succ]
            refine hK.out _ _ (fun h => by cases h) ?_
            clear hK
            refine AnyT.step 10 (by kernel_rfl) ?_
            intro o ho K hK
            simp only [List.getElem?_toArray, List.getElem?_cons_succ, List.getElem?_cons_zero, Option.some.injEq] at ho
            subst ho
            go_simp
            refine hK.out _ _ (fun h => by cases h) ?_
            refine AnyT.done (by kernel_rfl) ?_
            clear HSI HS0 hK
            go_wp2_with fail
            go_roundw
            case rel => exact ⟨i + 1, by omega, by go_num, by rw [HFN.out, HN.out]; exact HO9, HX9⟩
            case measure => simp [RowKit.intOf]; omega
    · obtain rfl : i = l.length := by omega
      have hFL := (HF.out l.length (Nat.le_refl _)).1
      have HSR : Hid (sortR l = keptR (foldR l l.length) (foldR l l.length).length) := rfl
      have d1 : decide (l.length < l.length) = false := by simp
      generalize foldR l l.length = F at *
      have HFo : Hid (RwL wr u3 F) := HO.out.ls
      obtain ⟨Ao, co, xs, rfl, hoc, hcm2, _, _⟩ := HO.out.parts
      have hwr : w.heap.size ≤ wr.heap.size := HX.out.size
      clear HO HF HWt
      go_upto_region 14 with fail
      clear d1
      go_loopw [7, 9, 69] (fun v7 _ v69 w2 => ∃ j : Nat, j ≤ F.length ∧ v69 = .int .i64 j ∧ Hid (OwnL tRow 2 RwR wr.heap.size w2 v7 (keptR F j)) ∧ Hid (Ext wr w2)) (fun _ _ v69 _ => F.length - (RowKit.intOf v69).toNat)
      case atStart => exact ⟨0, Nat.zero_le _, rfl, OwnL.nil, Ext.refl _⟩
      case round =>
        generalize wr = wF at *
        obtain ⟨j, hj, rfl, HO, HE⟩ := hrel
        by_cases hjl : j < F.length
        · obtain ⟨gj, oj, Bj, dj, rfl, hgj, hp1, hp2, HTj⟩ := RwL.get (RwL.ext HFo.out HE.out) hjl
          have HKS := Lib.hid (keptR_succ hjl)
          have hkl := keptR_le F j
          generalize F[j] = x at *
          generalize keptR F j = o at *
          obtain ⟨xv, xw⟩ := x
          simp only at hp1 hp2 HTj HKS
          go_upto_region 16 with fail
          refine box1 (P := fun W => Code.wp _ _ _ _ W) fun W HXW BX => ?_
          have HO1 := Lib.hid (HO.out.ext RwR.stab HXW.out)
          have HE1 := Lib.hid (HE.out.trans HXW.out)
          have HT1 := Lib.hid (TL.ext HTj.out HXW.out)
          obtain ⟨b0, b1⟩ := BX.out.two
          have hbx := BX.out.lt
          clear HO HE HXW HTj hp1 hp2 BX
          cases hc : xw != 0 with
          | false =>
            rw [hc] at HKS
            have HU : Hid (keptR F (j + 1) = o) := HKS.out
            clear HKS
            go_wp2
            go_roundw
            case rel => exact ⟨j + 1, by omega, by go_num, by rw [HU.out]; exact HO1, HE1⟩
            case measure => simp [RowKit.intOf]; omega
          | true =>
            rw [hc] at HKS
            have HU : Hid (keptR F (j + 1) = o ++ [(xv, xw)]) := HKS.out
            clear HKS
            obtain ⟨A7, c7, xs7, rfl, _, _, HR7, HC7⟩ := HO1.out.parts
            have hw := HE1.out.size
            have hbt : (o.length + 1) * 32 ≤ 140737488355328 := by omega
            go_wp2_with (at_builtin; refine wpList_app1 rfl _ _ tRows rfl _ row_slice _ _ _ rfl HR7.out #[.slice Bj xv.length dj, .int .i64 xw] 1 1 rfl rfl rfl hbt hw ?_)
            intro v' w3 ho3 hg3 _
            have O3 := Lib.hid (OwnL.snoc (R := RwR) (x := (xv, xw)) RwR.stab (fun u hu => by rw [List.mem_singleton.1 hu]; decide) HR7.out HC7.out ⟨Bj, dj, rfl, HT1.out⟩ ho3 hg3)
            have E3 := Lib.hid (grown_below HE1.out HR7.out hg3 (Nat.le_refl _))
            clear ho3 hg3
            go_wp2
            go_roundw
            case rel => exact ⟨j + 1, by omega, by go_num, by rw [HU.out]; exact O3, E3⟩
            case measure => simp [RowKit.intOf]; omega
        · obtain rfl : j = F.length := by omega
          have d1 : decide (F.length < F.length) = false := by simp
          obtain ⟨A7, c7, xs7, rfl, _, _, HR7, HC7⟩ := HO.out.parts
          go_wp2
          go_ret
          exact ⟨_, rfl, by rw [HSR.out]; exact (OwnL.of HR7.out HC7.out).weaken hwr, HX.out.trans HE.out⟩
end Go.Proofs.YthalpbjkkfkheaaGreatDoor
