/- joinlearnref06: Table, Check at valid databases. -/
import Derived.Test.YthalpbjkkfkheaaGreatDoorTabR
namespace Go.Proofs.YthalpbjkkfkheaaGreatDoor
open Go.RowKit Go.Lib

set_option maxRecDepth 100000 in
set_option maxHeartbeats 1000000 in
theorem rtab_any (v : Value) (x : Sch) (i : Nat) (A0 : Option Addr) (n0 c0 : Nat) (l : List Rw) (r : Rl) (w : World) (h : SchV w v x) (ok : SchOk x) (hl : RwL w (.slice A0 n0 c0) l) (hr : x.rels[i]? = some r) (ht : TabOk x r.2 l) :
    Calls Tryz.prog 25 #[v, .int .i64 i, .slice A0 n0 c0] w fun e w' => e = .returned (.int .i64 0) ∧ Ext w w' := by
  have CH := Lib.hid (fun w' (hx : Ext w w') => rtable_any v x i A0 n0 c0 l r 1 60 w' (h.ext hx) ok (RwL.ext hl hx) hr ht (by decide) (by decide))
  obtain ⟨A, c, B, d, Dd, e, rfl, ha, hrl, hf⟩ := h
  clear hl ht hr ha hrl hf ok
  generalize x.atts.length = AN at *
  generalize x.rels.length = RN at *
  generalize x.feats.length = FN at *
  go_enter Tryz.func25, Tryz.ntmps25
  go_upto_region 1 with fail
  refine box1 (P := fun W => Code.wp _ _ _ _ W) fun W HX BX => ?_
  have CH1 := Lib.hid (CH.out W HX.out)
  obtain ⟨s0, s1, s2, s3⟩ := BX.out.four
  go_wp2_with fail
  refine CH1.out.mono ?_
  rintro e1 w1 ⟨rfl, hx1⟩
  go_wp2
  go_ret
  exact ⟨rfl, HX.out.trans hx1⟩
set_option maxRecDepth 100000 in
set_option maxHeartbeats 2000000 in
theorem rdb_any (v : Value) (x : Sch) (A0 : Option Addr) (n0 c0 : Nat) (D : List (List Rw)) (w : World) (h : SchV w v x) (ok : SchOk x) (hl : DbL w (.slice A0 n0 c0) D) (hD : DbOk x D) :
    Calls Tryz.prog 11 #[v, .slice A0 n0 c0] w fun e w' => e = .returned (.int .i64 0) ∧ Ext w w' := by
  have CH := Lib.hid (fun w' (hx : Ext w w') => rcheck_any v x w' (h.ext hx) ok)
  have CT := Lib.hid (fun w' (hx : Ext w w') (i : Nat) (B0 : Option Addr) (m0 d0 : Nat) (l : List Rw) (r : Rl) (hl : RwL w' (.slice B0 m0 d0) l) (hr : x.rels[i]? = some r) (ht : TabOk x r.2 l) => rtab_any v x i B0 m0 d0 l r w' (h.ext hx) ok hl hr ht)
  obtain ⟨hn0, hnc0, hcm0⟩ := cap_le hl
  subst hn0
  have HL := Lib.hid hl
  have HD := Lib.hid hD.2
  have r6 := ok.r6
  obtain ⟨A, c, B, d, Dd, e, rfl, ha, hrl, hf⟩ := h
  obtain ⟨-, hd1, hd2⟩ := cap_le hrl
  have hDl := hD.1
  have HDl := Lib.hid hDl
  rw [← hDl] at CH CT r6 hd1 ⊢
  clear hl ha hrl hf ok hD hDl
  generalize x.atts.length = AN at *
  generalize x.feats.length = FN at *
  go_enter Tryz.func11, Tryz.ntmps11
  go_upto_region 1 with fail
  refine box1 (P := fun W => Code.wp _ _ _ _ W) fun W HX BX => ?_
  have CH1 := Lib.hid (CH.out W HX.out)
  obtain ⟨s0, s1, s2, s3⟩ := BX.out.four
  go_wp2_with fail
  refine CH1.out.mono ?_
  rintro e1 w1 ⟨rfl, hx1⟩
  have BX1 := Lib.hid (BX.out.ext hx1)
  have HX1 := Lib.hid (HX.out.trans hx1)
  clear s0 s1 s2 s3 CH CH1 BX HX hx1
  obtain ⟨s0, s1, s2, s3⟩ := BX1.out.four
  go_upto_region 7 with fail
  clear s0 s1 s2 s3
  go_loopw [21] (fun v21 wr => ∃ k : Nat, k ≤ D.length ∧ v21 = .int .i64 k ∧ Hid (Ext w1 wr)) (fun v21 _ => D.length - (RowKit.intOf v21).toNat)
  case atStart => exact ⟨0, Nat.zero_le _, rfl, Ext.refl _⟩
  case round =>
    obtain ⟨k, hk, rfl, HXr⟩ := hrel
    by_cases hkl : k < D.length
    · have HE := Lib.hid (HX1.out.trans HXr.out)
      obtain ⟨g0, o0, Bk, dk, rfl, hg0, HLk, hck⟩ := DbL.get (DbL.ext HL.out HE.out) hkl
      have hkr : k < x.rels.length := by rw [← HDl.out]; exact hkl
      have HTk := Lib.hid (HD.out k _ _ (List.getElem?_eq_getElem hkl) (List.getElem?_eq_getElem hkr))
      have HRr : Hid (x.rels[k]? = some x.rels[k]) := List.getElem?_eq_getElem hkr
      have BXr := Lib.hid (BX1.out.ext HXr.out)
      generalize x.rels[k] = r at *
      generalize D[k] = t at *
      go_upto_region 9 with fail
      have HSI : Hid (∀ w', Ext wr w' → w'.cell? ⟨w.heap.size, 0, none⟩ = some (.slice A AN c) ∧ w'.cell? ⟨w.heap.size, 1, none⟩ = some (.slice B D.length d) ∧ w'.cell? ⟨w.heap.size, 2, none⟩ = some (.slice Dd FN e) ∧ w'.cell? ⟨w.heap.size, 3, none⟩ = some (.int .i64 x.label) ∧ w'.cell? ⟨g0, o0 + k, none⟩ = some (.slice Bk t.length dk)) := fun w' hx => by
        obtain ⟨h0, h1, h2, h3⟩ := (BXr.out.ext hx).four
        exact ⟨h0, h1, h2, h3, (hx.cell (p := ⟨g0, o0 + k, none⟩) hg0).trans hck⟩
      have HS0 : Hid (Ext wr wr.drew) := (Ext.refl wr).drew
      have RV := Lib.hid (fun w' (hx : Ext wr w') => CT.out w' (HE.out.trans hx) k Bk t.length dk t r (RwL.ext HLk.out hx) HRr.out HTk.out)
      clear hck BXr
      refine AnyT.start (S := fun w' => Ext wr w') (T := fun _ => false) (by kernel_rfl) ?_
      generalize wr.drew = wd at *
      refine AnyT.ld 0 24 ?_ _ rfl rfl (by kernel_rfl) (fun _ _ _ h => h) HS0.out rfl ?_ ?_
      rotate_left
      focus (intro w' hSw; have hs := HSI.out w' hSw; go_split_ands; go_simp; try (first | exact rfl | omega | go_num | (intro hbd; exfalso; omega)))
      simp only [Act.put, List.setIfInBounds_toArray, List.set_cons_zero, List.set_cons_succ]
      refine AnyT.ld 1 25 ?_ _ rfl rfl (by kernel_rfl) (fun _ _ _ h => h) HS0.out rfl ?_ ?_
      rotate_left
      focus (intro w' hSw; have hs := HSI.out w' hSw; go_split_ands; go_simp; try (first | exact rfl | omega | go_num | (intro hbd; exfalso; omega)))
      simp only [Act.put, List.setIfInBounds_toArray, List.set_cons_zero, List.set_cons_succ]
      refine AnyT.ld 2 26 ?_ _ rfl rfl (by kernel_rfl) (fun _ _ _ h => h) HS0.out rfl ?_ ?_
      rotate_left
      focus (intro w' hSw; have hs := HSI.out w' hSw; go_split_ands; go_simp; try (first | exact rfl | omega | go_num | (intro hbd; exfalso; omega)))
      simp only [Act.put, List.setIfInBounds_toArray, List.set_cons_zero, List.set_cons_succ]
      refine AnyT.ld 3 27 ?_ _ rfl rfl (by kernel_rfl) (fun _ _ _ h => h) HS0.out rfl ?_ ?_
      rotate_left
      focus (intro w' hSw; have hs := HSI.out w' hSw; go_split_ands; go_simp; try (first | exact rfl | omega | go_num | (intro hbd; exfalso; omega)))
      simp only [Act.put, List.setIfInBounds_toArray, List.set_cons_zero, List.set_cons_succ]
      refine AnyT.ld 4 28 ?_ _ rfl rfl (by kernel_rfl) (fun _ _ _ h => h) HS0.out rfl ?_ ?_
      rotate_left
      focus (intro w' hSw; have hs := HSI.out w' hSw; go_split_ands; go_simp; try (first | exact rfl | omega | go_num | (intro hbd; exfalso; omega)))
      simp only [Act.put, List.setIfInBounds_toArray, List.set_cons_zero, List.set_cons_succ]
      refine AnyT.ld 5 29 ?_ _ rfl rfl (by kernel_rfl) (fun _ _ _ h => h) HS0.out rfl ?_ ?_
      rotate_left
      focus (intro w' hSw; have hs := HSI.out w' hSw; go_split_ands; go_simp; try (first | exact rfl | omega | go_num | (intro hbd; exfalso; omega)))
      simp only [Act.put, List.setIfInBounds_toArray, List.set_cons_zero, List.set_cons_succ]
      refine AnyT.step 6 (by kernel_rfl) ?_
      intro o ho K hK
      simp only [List.getElem?_toArray, List.getElem?_cons_succ, List.getElem?_cons_zero, Option.some.injEq] at ho
      subst ho
      go_simp
      refine (RV.out wd HS0.out).mono ?_
      rintro e7 w7 ⟨rfl, hx7⟩
      have HS7 := Lib.hid (HS0.out.trans hx7)
      refine hK.out _ _ (fun _ => HS7.out) ?_
      clear hK hx7 HS0 RV
      have HS0 := HS7
      refine AnyT.ld 7 7 ?_ _ rfl rfl (by kernel_rfl) (fun _ _ _ h => h) HS0.out rfl ?_ ?_
      rotate_left
      focus (intro w' hSw; have hs := HSI.out w' hSw; go_split_ands; go_simp; try (first | exact rfl | omega | go_num | (intro hbd; exfalso; omega)))
      simp only [Act.put, List.setIfInBounds_toArray, List.set_cons_zero, List.set_cons_succ]
      refine AnyT.done (by kernel_rfl) ?_
      have HXn := Lib.hid (HXr.out.trans HS0.out)
      clear HSI HS0 HS7 HXr
      go_wp2_with fail
      go_roundw
      case rel => exact ⟨k + 1, by omega, by go_num, HXn⟩
      case measure => simp [RowKit.intOf]; omega
    · have d1 : decide ((k : Int) < (D.length : Int)) = false := decide_eq_false (by omega)
      go_wp2
      go_ret
      exact ⟨rfl, HX1.out.trans HXr.out⟩
end Go.Proofs.YthalpbjkkfkheaaGreatDoor
