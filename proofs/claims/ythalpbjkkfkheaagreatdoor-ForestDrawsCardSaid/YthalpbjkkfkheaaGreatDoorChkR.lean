/- joinlearnref05.Check at valid schemas. -/
import Derived.Test.YthalpbjkkfkheaaGreatDoorWordR
namespace Go.Proofs.YthalpbjkkfkheaaGreatDoor
open Go.RowKit Go.Lib

set_option maxRecDepth 100000 in
set_option maxHeartbeats 8000000 in
theorem rcheck_any (v : Value) (x : Sch) (w : World) (h : SchV w v x) (ok : SchOk x) :
    Calls Tryz.prog 24 #[v] w fun e w' => e = .returned (.int .i64 0) ∧ Ext w w' := by
  have HOK := Lib.hid ok
  obtain ⟨A, c, B, d, D, e, rfl, ha, hr, hf⟩ := h
  obtain ⟨-, hA1, hA2⟩ := cap_le ha
  obtain ⟨-, hd1, hd2⟩ := cap_le hr
  obtain ⟨-, he1, he2⟩ := cap_le hf
  have HA := Lib.hid ha
  have HR := Lib.hid hr
  have HF := Lib.hid hf
  have a1 := ok.a1
  have a12 := ok.a12
  have r1 := ok.r1
  have r6 := ok.r6
  have f8 := ok.f8
  have lb := ok.lb
  clear ha hr hf ok
  obtain ⟨lab, hlab⟩ : ∃ lab, x.label = lab := ⟨_, rfl⟩
  have HLB := Lib.hid hlab
  rw [hlab] at lb ⊢
  clear hlab
  obtain ⟨N, hN⟩ : ∃ N, x.atts.length = N := ⟨_, rfl⟩
  have HN := Lib.hid hN
  rw [hN] at HA a1 a12 lb hA1 ⊢
  clear hN
  obtain ⟨R, hR⟩ : ∃ R, x.rels.length = R := ⟨_, rfl⟩
  have HRN := Lib.hid hR
  rw [hR] at HR r1 r6 hd1 ⊢
  clear hR
  obtain ⟨M, hM⟩ : ∃ M, x.feats.length = M := ⟨_, rfl⟩
  have HM := Lib.hid hM
  rw [hM] at HF f8 he1 ⊢
  clear hM
  have d1 : decide ((N : Int) > 12) = false := decide_eq_false (by omega)
  have d2 : decide ((R : Int) > 6) = false := decide_eq_false (by omega)
  have d3 : decide ((M : Int) > 8) = false := decide_eq_false (by omega)
  have b1 : ((N : Int) == 0) = false := by rw [beq_eq_false_iff_ne]; omega
  have b2 : ((R : Int) == 0) = false := by rw [beq_eq_false_iff_ne]; omega
  go_enter Tryz.func24, Tryz.ntmps24
  go_upto_region 1 with fail
  refine box1 (P := fun W => Code.wp _ _ _ _ W) fun W HX BX => ?_
  obtain ⟨s0, s1, s2, s3⟩ := BX.out.four
  go_upto_region 4 with fail
  clear s0 s1 s2 s3 d1 d2 d3 b1 b2
  go_loopw [3, 4, 5, 51] (fun _ _ _ v51 wr => ∃ i : Nat, i ≤ N ∧ v51 = .int .i64 i ∧ Hid (Ext W wr)) (fun _ _ _ v51 _ => N - (RowKit.intOf v51).toNat)
  case atStart => exact ⟨0, Nat.zero_le _, rfl, Ext.refl _⟩
  case round =>
    obtain ⟨i, hi, rfl, HXr⟩ := hrel
    by_cases hiN : i < N
    · have hil : i < x.atts.length := by rw [HN.out]; exact hiN
      have HE := Lib.hid (HX.out.trans HXr.out)
      obtain ⟨g, o, rfl, hg, hp0, hp1⟩ := AL.get HA.out hil
      have HP : Hid (∀ w', Ext w w' → ∀ k (hk : k < x.atts.length), w'.cell? ⟨g, o + k * 2, none⟩ = some (.string ⟨x.atts[k].1.toArray⟩)) := fun w' hx k hk => by
        obtain ⟨g', o', e', hg', h', _⟩ := AL.get HA.out hk
        injection e' with e'
        injection e' with e1 e2
        subst e1 e2
        exact (hx.cell (p := ⟨g, o + k * 2, none⟩) hg).trans h'
      have hp0 := (HE.out.cell (p := ⟨g, o + i * 2, none⟩) hg).trans hp0
      have hp1 := (HE.out.cell (p := ⟨g, o + i * 2 + 1, none⟩) hg).trans hp1
      have WR := Lib.hid (fun w' => rword_any x.atts[i].1 w' (HOK.out.aw _ (List.getElem_mem hil)))
      have hk := HOK.out.ak _ (List.getElem_mem hil)
      have HDI : Hid (∀ k (hk : k < i), ((x.atts[k]'(by omega)).1 == x.atts[i].1) = false) := fun k hk => by
        rw [beq_eq_false_iff_ne]
        intro h
        exact List.pairwise_iff_getElem.1 HOK.out.ad k i (by omega) hil hk h
      obtain ⟨sn, hsn⟩ : ∃ sn, x.atts[i].1 = sn := ⟨_, rfl⟩
      obtain ⟨kd, hkd⟩ : ∃ kd, x.atts[i].2 = kd := ⟨_, rfl⟩
      rw [hsn] at hp0 WR HDI
      rw [hkd] at hp1 hk
      clear hsn hkd
      have k1 : decide (kd < 1) = false := decide_eq_false (by omega)
      have k3 : decide (kd > 3) = false := decide_eq_false (by omega)
      generalize wr = wo at *
      go_upto_region 6 with fail
      refine box1 (P := fun W => Code.wp _ _ _ _ W) fun W3 HX3 BA => ?_
      have hq0 := BA.out.cell (i := 0) rfl
      clear hp0 hp1
      go_wp2_with fail
      refine (WR.out _).mono ?_
      rintro e' w4 ⟨rfl, hx4⟩
      have HE4 := Lib.hid (HXr.out.trans (HX3.out.trans hx4))
      have BA4 := Lib.hid (BA.out.ext hx4)
      clear hq0 HX3 BA hx4 HE HXr
      go_upto_region 9 with fail
      go_loopw [5] (fun v5 wr => ∃ k : Nat, k ≤ i ∧ v5 = .int .i64 k ∧ Hid (Ext w4 wr)) (fun v5 _ => i - (RowKit.intOf v5).toNat)
      case atStart => exact ⟨0, Nat.zero_le _, rfl, Ext.refl _⟩
      case round =>
        obtain ⟨k, hk', rfl, HXk⟩ := hrel
        by_cases hki : k < i
        · have hkl : k < x.atts.length := by omega
          have hkN : k < N := by omega
          have hbe := HDI.out k hki
          have HPk := Lib.hid (fun w' hx => HP.out w' hx k hkl)
          generalize x.atts[k].1 = sk at *
          clear hkl
          have BXk := Lib.hid (BX.out.ext (HE4.out.trans HXk.out))
          have BAk := Lib.hid (BA4.out.ext HXk.out)
          have HEk := Lib.hid (HX.out.trans (HE4.out.trans HXk.out))
          go_upto_region 11 with fail
          have HSI : Hid (∀ w', Ext wr w' → w'.cell? ⟨w.heap.size, 0, none⟩ = some (.slice (some ⟨g, o, none⟩) N c) ∧ w'.cell? ⟨g, o + k * 2, none⟩ = some (.string ⟨sk.toArray⟩) ∧ w'.cell? ⟨wo.heap.size, 0, none⟩ = some (.string ⟨sn.toArray⟩)) := fun w' hx => ⟨(BXk.out.ext hx).cell (i := 0) rfl, HPk.out w' (HEk.out.trans hx), (BAk.out.ext hx).cell (i := 0) rfl⟩
          have HS0 : Hid (Ext wr wr.drew) := (Ext.refl wr).drew
          refine AnyT.start (S := fun w' => Ext wr w') (T := fun _ => false) (by kernel_rfl) ?_
          refine AnyT.ld 0 65 ?_ _ rfl rfl (by kernel_rfl) (fun _ _ _ h => h) HS0.out rfl ?_ ?_
          rotate_left
          focus (intro w' hSw; have hs := HSI.out w' hSw; go_split_ands; go_simp; try (first | exact rfl | omega | go_num | (intro hbd; exfalso; omega)))
          simp only [Act.put, List.setIfInBounds_toArray, List.set_cons_zero, List.set_cons_succ]
          refine AnyT.ld 1 66 ?_ _ rfl rfl (by kernel_rfl) (fun _ _ _ h => h) HS0.out rfl ?_ ?_
          rotate_left
          focus (intro w' hSw; have hs := HSI.out w' hSw; go_split_ands; go_simp; try (first | exact rfl | omega | go_num | (intro hbd; exfalso; omega)))
          simp only [Act.put, List.setIfInBounds_toArray, List.set_cons_zero, List.set_cons_succ]
          refine AnyT.ld 2 67 ?_ _ rfl rfl (by kernel_rfl) (fun _ _ _ h => h) HS0.out rfl ?_ ?_
          rotate_left
          focus (intro w' hSw; have hs := HSI.out w' hSw; go_split_ands; go_simp; try (first | exact rfl | omega | go_num | (intro hbd; exfalso; omega)))
          simp only [Act.put, List.setIfInBounds_toArray, List.set_cons_zero, List.set_cons_succ]
          refine AnyT.ld 3 68 ?_ _ rfl rfl (by kernel_rfl) (fun _ _ _ h => h) HS0.out rfl ?_ ?_
          rotate_left
          focus (intro w' hSw; have hs := HSI.out w' hSw; go_split_ands; go_simp; try (first | exact rfl | omega | go_num | (intro hbd; exfalso; omega)))
          simp only [Act.put, List.setIfInBounds_toArray, List.set_cons_zero, List.set_cons_succ]
          refine AnyT.ld 4 69 ?_ _ rfl rfl (by kernel_rfl) (fun _ _ _ h => h) HS0.out rfl ?_ ?_
          rotate_left
          focus (intro w' hSw; have hs := HSI.out w' hSw; go_split_ands; go_simp; try (first | exact rfl | omega | go_num | (intro hbd; exfalso; omega)))
          simp only [Act.put, List.setIfInBounds_toArray, List.set_cons_zero, List.set_cons_succ]
          refine AnyT.ld 5 70 ?_ _ rfl rfl (by kernel_rfl) (fun _ _ _ h => h) HS0.out rfl ?_ ?_
          rotate_left
          focus (intro w' hSw; have hs := HSI.out w' hSw; go_split_ands; go_simp; try (first | exact rfl | omega | go_num | (intro hbd; exfalso; omega)))
          simp only [Act.put, List.setIfInBounds_toArray, List.set_cons_zero, List.set_cons_succ]
          refine AnyT.ld 6 71 ?_ _ rfl rfl (by kernel_rfl) (fun _ _ _ h => h) HS0.out rfl ?_ ?_
          rotate_left
          focus (intro w' hSw; have hs := HSI.out w' hSw; go_split_ands; go_simp; try (first | exact rfl | omega | go_num | (intro hbd; exfalso; omega)))
          simp only [Act.put, List.setIfInBounds_toArray, List.set_cons_zero, List.set_cons_succ]
          refine AnyT.ld 7 72 ?_ _ rfl rfl (by kernel_rfl) (fun _ _ _ h => h) HS0.out rfl ?_ ?_
          rotate_left
          focus (intro w' hSw; have hs := HSI.out w' hSw; go_split_ands; go_simp; try (first | exact rfl | omega | go_num | (intro hbd; exfalso; omega)))
          simp only [Act.put, List.setIfInBounds_toArray, List.set_cons_zero, List.set_cons_succ]
          refine AnyT.ld 8 73 (.bool false) _ rfl rfl (by kernel_rfl) (fun _ _ _ h => h) HS0.out rfl ?_ ?_
          focus (intro w' hSw; have hs := HSI.out w' hSw; go_split_ands; go_simp; try (first | exact rfl | omega | go_num | (intro hbd; exfalso; omega)))
          simp only [Act.put, List.setIfInBounds_toArray, List.set_cons_zero, List.set_cons_succ]
          refine AnyT.done (by kernel_rfl) ?_
          have HXn := Lib.hid (HXk.out.trans HS0.out)
          clear HSI HS0
          go_wp2_with fail
          go_roundw
          case rel => exact ⟨k + 1, by omega, by go_num, HXn⟩
          case measure => simp [RowKit.intOf]; omega
        · obtain rfl : k = i := by omega
          have BAk := Lib.hid (BA4.out.ext HXk.out)
          have hq1 := BAk.out.cell (i := 1) rfl
          have HXn := Lib.hid (HE4.out.trans HXk.out)
          go_wp2_with fail
          go_roundw
          case rel => exact ⟨k + 1, by omega, by go_num, HXn⟩
          case measure => simp [RowKit.intOf]; omega
    · obtain rfl : N = i := by omega
      generalize wr = w1 at *
      have BX1 := Lib.hid (BX.out.ext HXr.out)
      have HX1 := Lib.hid (HX.out.trans HXr.out)
      clear BX HX HXr
      obtain ⟨s0, s1, s2, s3⟩ := BX1.out.four
      have hgx : w.heap.size < w1.heap.size := BX1.out.lt
      have hmk := make_bools N (by omega) w1
      go_upto_region 17 with fail
      refine box1 (P := fun W => Code.wp _ _ _ _ W) fun W2 HX2 BU => ?_
      clear hmk s0 s1 s2 s3
      have BX2 := Lib.hid (BX1.out.ext HX2.out)
      obtain ⟨s0, s1, s2, s3⟩ := BX2.out.four
      have HU0 : Hid (Us (List.replicate N false) N ([] : List Int)) := ⟨by simp, fun a h => by cases h⟩
      have BU0 : Hid (Blk W2 w1.heap.size tBool (bits_ (List.replicate N false))) := by rw [bits_, List.map_replicate]; exact BU.out
      clear BU BX2
      go_upto_region 18 with fail
      clear s0 s1 s2 s3
      go_loopw [7, 8, 9, 11, 12, 90] (fun _ _ _ _ _ v90 wr => ∃ (i : Nat) (bs : List Bool), i ≤ R ∧ v90 = .int .i64 i ∧ Hid (Us bs N ((x.rels.take i).flatMap (·.2))) ∧ Hid (Blk wr w1.heap.size tBool (bits_ bs)) ∧ Hid (Ext w1 wr)) (fun _ _ _ _ _ v90 _ => R - (RowKit.intOf v90).toNat)
      case atStart => exact ⟨0, _, Nat.zero_le _, rfl, HU0, BU0, HX2⟩
      case round =>
        clear HU0 BU0 HX2
        obtain ⟨i, bs, hi, rfl, HU, BU, HXr⟩ := hrel
        by_cases hiR : i < R
        · have hil : i < x.rels.length := by rw [HRN.out]; exact hiR
          have HE := Lib.hid (HX1.out.trans HXr.out)
          obtain ⟨g, o, Bi, mi, di, rfl, hg, hp0, hp1, hIL⟩ := RlL.get HR.out hil
          have HP : Hid (∀ w', Ext w w' → ∀ k (hk : k < x.rels.length), w'.cell? ⟨g, o + k * 2, none⟩ = some (.string ⟨x.rels[k].1.toArray⟩)) := fun w' hx k hk => by
            obtain ⟨g', o', B', m', d', e', hg', h', _, _⟩ := RlL.get HR.out hk
            injection e' with e'
            injection e' with e1 e2
            subst e1 e2
            exact (hx.cell (p := ⟨g, o + k * 2, none⟩) hg).trans h'
          have hp0 := (HE.out.cell (p := ⟨g, o + i * 2, none⟩) hg).trans hp0
          have hp1 := (HE.out.cell (p := ⟨g, o + i * 2 + 1, none⟩) hg).trans hp1
          have HIL : Hid (∀ w', Ext w w' → IL w' (.slice Bi mi di) x.rels[i].2) := fun w' hx => IL.ext hIL hx
          have hmem := List.getElem_mem hil
          have WR := Lib.hid (fun w' => rword_any x.rels[i].1 w' (HOK.out.rw' _ hmem))
          have HDI : Hid (∀ k (hk : k < i), ((x.rels[k]'(by omega)).1 == x.rels[i].1) = false) := fun k hk => by
            rw [beq_eq_false_iff_ne]
            intro h
            exact List.pairwise_iff_getElem.1 HOK.out.rd k i (by omega) hil hk h
          have hne := HOK.out.rn _ hmem
          have HRI := Lib.hid (HOK.out.ri _ hmem)
          have HRA := Lib.hid (HOK.out.ra _ hmem)
          have HFM : Hid ((x.rels.take (i + 1)).flatMap (·.2) = (x.rels.take i).flatMap (·.2) ++ x.rels[i].2) := by
            rw [Hid, take_snoc hil, List.flatMap_append, List.flatMap_singleton]
          rw [HN.out] at HRI
          obtain ⟨hml, hmd, hdm⟩ := cap_le hIL
          have hm1 : 0 < mi := by
            rw [hml]
            exact List.length_pos_iff.2 hne
          have hmb : ((mi : Int) == 0) = false := by rw [beq_eq_false_iff_ne]; omega
          have HMI := Lib.hid hml
          clear hIL hmem hml hne
          obtain ⟨sn, hsn⟩ : ∃ sn, x.rels[i].1 = sn := ⟨_, rfl⟩
          obtain ⟨ats, hats⟩ : ∃ ats, x.rels[i].2 = ats := ⟨_, rfl⟩
          rw [hsn] at hp0 WR HDI
          rw [hats] at HIL HRI HRA HFM HMI
          clear hsn hats
          generalize hLF : (x.rels.take i).flatMap (·.2) = lf at *
          clear hLF
          generalize wr = wo at *
          have hgu : w1.heap.size < wo.heap.size := BU.out.lt
          go_upto_region 20 with fail
          refine box1 (P := fun W => Code.wp _ _ _ _ W) fun W3 HX3 BA => ?_
          have hq0 := BA.out.cell (i := 0) rfl
          clear hp0 hp1
          go_wp2_with fail
          refine (WR.out _).mono ?_
          rintro e' w4 ⟨rfl, hx4⟩
          have HE4 := Lib.hid (HXr.out.trans (HX3.out.trans hx4))
          have BU4 := Lib.hid (BU.out.ext (HX3.out.trans hx4))
          have BA4 := Lib.hid (BA.out.ext hx4)
          clear hq0 HX3 BA hx4 HE HXr BU
          go_upto_region 23 with fail
          go_loopw [9] (fun v9 wr => ∃ k : Nat, k ≤ i ∧ v9 = .int .i64 k ∧ Hid (Ext w4 wr)) (fun v9 _ => i - (RowKit.intOf v9).toNat)
          case atStart => exact ⟨0, Nat.zero_le _, rfl, Ext.refl _⟩
          case round =>
            obtain ⟨k, hk', rfl, HXk⟩ := hrel
            by_cases hki : k < i
            · have hkl : k < x.rels.length := by omega
              have hkR : k < R := by omega
              have hbe := HDI.out k hki
              have HPk := Lib.hid (fun w' hx => HP.out w' hx k hkl)
              generalize x.rels[k].1 = sk at *
              clear hkl
              have BXk := Lib.hid (BX1.out.ext (HE4.out.trans HXk.out))
              have BAk := Lib.hid (BA4.out.ext HXk.out)
              have HEk := Lib.hid (HX1.out.trans (HE4.out.trans HXk.out))
              go_upto_region 25 with fail
              have HSI : Hid (∀ w', Ext wr w' → w'.cell? ⟨w.heap.size, 1, none⟩ = some (.slice (some ⟨g, o, none⟩) R d) ∧ w'.cell? ⟨g, o + k * 2, none⟩ = some (.string ⟨sk.toArray⟩) ∧ w'.cell? ⟨wo.heap.size, 0, none⟩ = some (.string ⟨sn.toArray⟩)) := fun w' hx => ⟨(BXk.out.ext hx).cell (i := 1) rfl, HPk.out w' (HEk.out.trans hx), (BAk.out.ext hx).cell (i := 0) rfl⟩
              have HS0 : Hid (Ext wr wr.drew) := (Ext.refl wr).drew
              refine AnyT.start (S := fun w' => Ext wr w') (T := fun _ => false) (by kernel_rfl) ?_
              refine AnyT.ld 0 104 ?_ _ rfl rfl (by kernel_rfl) (fun _ _ _ h => h) HS0.out rfl ?_ ?_
              rotate_left
              focus (intro w' hSw; have hs := HSI.out w' hSw; go_split_ands; go_simp; try (first | exact rfl | omega | go_num | (intro hbd; exfalso; omega)))
              simp only [Act.put, List.setIfInBounds_toArray, List.set_cons_zero, List.set_cons_succ]
              refine AnyT.ld 1 105 ?_ _ rfl rfl (by kernel_rfl) (fun _ _ _ h => h) HS0.out rfl ?_ ?_
              rotate_left
              focus (intro w' hSw; have hs := HSI.out w' hSw; go_split_ands; go_simp; try (first | exact rfl | omega | go_num | (intro hbd; exfalso; omega)))
              simp only [Act.put, List.setIfInBounds_toArray, List.set_cons_zero, List.set_cons_succ]
              refine AnyT.ld 2 106 ?_ _ rfl rfl (by kernel_rfl) (fun _ _ _ h => h) HS0.out rfl ?_ ?_
              rotate_left
              focus (intro w' hSw; have hs := HSI.out w' hSw; go_split_ands; go_simp; try (first | exact rfl | omega | go_num | (intro hbd; exfalso; omega)))
              simp only [Act.put, List.setIfInBounds_toArray, List.set_cons_zero, List.set_cons_succ]
              refine AnyT.ld 3 107 ?_ _ rfl rfl (by kernel_rfl) (fun _ _ _ h => h) HS0.out rfl ?_ ?_
              rotate_left
              focus (intro w' hSw; have hs := HSI.out w' hSw; go_split_ands; go_simp; try (first | exact rfl | omega | go_num | (intro hbd; exfalso; omega)))
              simp only [Act.put, List.setIfInBounds_toArray, List.set_cons_zero, List.set_cons_succ]
              refine AnyT.ld 4 108 ?_ _ rfl rfl (by kernel_rfl) (fun _ _ _ h => h) HS0.out rfl ?_ ?_
              rotate_left
              focus (intro w' hSw; have hs := HSI.out w' hSw; go_split_ands; go_simp; try (first | exact rfl | omega | go_num | (intro hbd; exfalso; omega)))
              simp only [Act.put, List.setIfInBounds_toArray, List.set_cons_zero, List.set_cons_succ]
              refine AnyT.ld 5 109 ?_ _ rfl rfl (by kernel_rfl) (fun _ _ _ h => h) HS0.out rfl ?_ ?_
              rotate_left
              focus (intro w' hSw; have hs := HSI.out w' hSw; go_split_ands; go_simp; try (first | exact rfl | omega | go_num | (intro hbd; exfalso; omega)))
              simp only [Act.put, List.setIfInBounds_toArray, List.set_cons_zero, List.set_cons_succ]
              refine AnyT.ld 6 110 ?_ _ rfl rfl (by kernel_rfl) (fun _ _ _ h => h) HS0.out rfl ?_ ?_
              rotate_left
              focus (intro w' hSw; have hs := HSI.out w' hSw; go_split_ands; go_simp; try (first | exact rfl | omega | go_num | (intro hbd; exfalso; omega)))
              simp only [Act.put, List.setIfInBounds_toArray, List.set_cons_zero, List.set_cons_succ]
              refine AnyT.ld 7 111 ?_ _ rfl rfl (by kernel_rfl) (fun _ _ _ h => h) HS0.out rfl ?_ ?_
              rotate_left
              focus (intro w' hSw; have hs := HSI.out w' hSw; go_split_ands; go_simp; try (first | exact rfl | omega | go_num | (intro hbd; exfalso; omega)))
              simp only [Act.put, List.setIfInBounds_toArray, List.set_cons_zero, List.set_cons_succ]
              refine AnyT.ld 8 112 (.bool false) _ rfl rfl (by kernel_rfl) (fun _ _ _ h => h) HS0.out rfl ?_ ?_
              focus (intro w' hSw; have hs := HSI.out w' hSw; go_split_ands; go_simp; try (first | exact rfl | omega | go_num | (intro hbd; exfalso; omega)))
              simp only [Act.put, List.setIfInBounds_toArray, List.set_cons_zero, List.set_cons_succ]
              refine AnyT.done (by kernel_rfl) ?_
              have HXn := Lib.hid (HXk.out.trans HS0.out)
              clear HSI HS0
              go_wp2_with fail
              go_roundw
              case rel => exact ⟨k + 1, by omega, by go_num, HXn⟩
              case measure => simp [RowKit.intOf]; omega
            · obtain rfl : i = k := by omega
              have BA5 := Lib.hid (BA4.out.ext HXk.out)
              have BU5 := Lib.hid (BU4.out.ext HXk.out)
              have HE5 := Lib.hid (HE4.out.trans HXk.out)
              clear BA4 BU4 HE4 HXk WR HDI HP
              generalize wr = w5 at *
              have hq1 := BA5.out.cell (i := 1) rfl
              go_upto_region 30 with fail
              clear hq1
              have HU5 : Hid (Us bs N (lf ++ ats.take 0)) := by rw [List.take_zero, List.append_nil]; exact HU
              go_loopw [11, 120] (fun _ v120 wr => ∃ (j : Nat) (bs : List Bool), j ≤ mi ∧ v120 = .int .i64 j ∧ Hid (Us bs N (lf ++ ats.take j)) ∧ Hid (Blk wr w1.heap.size tBool (bits_ bs)) ∧ Hid (Blk wr wo.heap.size tRel [.string ⟨sn.toArray⟩, .slice Bi mi di]) ∧ Hid (Ext w1 wr)) (fun _ v120 _ => mi - (RowKit.intOf v120).toNat)
              case atStart => exact ⟨0, bs, Nat.zero_le _, rfl, HU5, BU5, BA5, HE5⟩
              case round =>
                clear HU5 BU5 HU bs BA5 HE5
                obtain ⟨j, bs, hj, rfl, HU, BU, BA, HXj⟩ := hrel
                by_cases hjm : j < mi
                · have hjl : j < ats.length := by rw [← HMI.out]; exact hjm
                  obtain ⟨gi, oi, rfl, _, hci⟩ := IL.get (HIL.out _ (HX1.out.trans HXj.out)) hjl
                  have hra := HRI.out _ (List.getElem_mem hjl)
                  have HTJ := Lib.hid (take_snoc hjl)
                  generalize ats[j] = y at *
                  clear hjl
                  obtain ⟨q, rfl⟩ : ∃ q : Nat, y = (q : Int) := ⟨y.toNat, by omega⟩
                  have hqN : q < N := by omega
                  have hq0 : decide ((q : Int) < 0) = false := decide_eq_false (by omega)
                  have hqd : decide (N ≤ q) = false := decide_eq_false (by omega)
                  have hqd2 : decide ((q : Int) ≥ (N : Int)) = false := decide_eq_false (by omega)
                  have hfz := BU.out.frozen q
                  have hcq : ∃ u, wr.cell? ⟨w1.heap.size, q, none⟩ = some u := by
                    have h1 := HU.out.1
                    exact ⟨_, BU.out.cell (i := q) (by rw [bits_, List.getElem?_map, List.getElem?_eq_getElem (by omega)]; rfl)⟩
                  obtain ⟨uq, hcq⟩ := hcq
                  obtain ⟨W7, hW7, B7, K7, N7⟩ := put1 (i := q) BU.out (.bool true)
                  rw [bits_set] at B7
                  have HUn := Lib.hid (HU.out.set hqN)
                  rw [List.append_assoc, ← HTJ.out] at HUn
                  have BA7 := Lib.hid (BA.out.only N7.out (by omega))
                  have HX7 := Lib.hid (HXj.out.only N7.out (Nat.le_refl _))
                  clear hra K7 N7 BA HXj BU
                  go_wp2_with fail
                  go_roundw
                  case rel => exact ⟨j + 1, _, by omega, by go_num, HUn, B7, BA7, HX7⟩
                  case measure => simp [RowKit.intOf]; omega
                · obtain rfl : j = mi := by omega
                  rw [List.take_of_length_le (by rw [← HMI.out]; exact Nat.le_refl _), ← HFM.out] at HU
                  generalize wr = w6 at *
                  have hq1 := BA.out.cell (i := 1) rfl
                  go_upto_region 37 with fail
                  clear hq1
                  go_loopw [12] (fun v12 wr => ∃ k : Nat, 1 ≤ k ∧ k ≤ j ∧ v12 = .int .i64 k ∧ Hid (Ext w6 wr)) (fun v12 _ => j - (RowKit.intOf v12).toNat)
                  case atStart => exact ⟨1, Nat.le_refl _, hm1, rfl, Ext.refl _⟩
                  case round =>
                    obtain ⟨k, hk1, hkj, rfl, HXk⟩ := hrel
                    have BAk := Lib.hid (BA.out.ext HXk.out)
                    have hq1 := BAk.out.cell (i := 1) rfl
                    by_cases hkm : k < j
                    · obtain ⟨z, hz⟩ : ∃ z, k = z + 1 := ⟨k - 1, by omega⟩
                      have hz1 : k < ats.length := by rw [← HMI.out]; exact hkm
                      have hz0 : z < ats.length := by omega
                      have hlt : ats[z] < ats[k] := List.pairwise_iff_getElem.1 HRA.out z k hz0 hz1 (by omega)
                      obtain ⟨gi, oi, rfl, -, -⟩ := IL.get (HIL.out _ (HX1.out.trans HXj.out)) hz1
                      have HCC : Hid (∀ w', Ext w w' → w'.cell? ⟨gi, oi + k, none⟩ = some (.int .i64 ats[k]) ∧ w'.cell? ⟨gi, oi + z, none⟩ = some (.int .i64 ats[z])) := fun w' hx => by
                        refine ⟨?_, ?_⟩
                        · obtain ⟨g', o', e', _, h⟩ := IL.get (HIL.out _ hx) hz1
                          injection e' with e'
                          injection e' with e1 e2
                          subst e1 e2
                          exact h
                        · obtain ⟨g', o', e', _, h⟩ := IL.get (HIL.out _ hx) hz0
                          injection e' with e'
                          injection e' with e1 e2
                          subst e1 e2
                          exact h
                      have HEk := Lib.hid (HX1.out.trans (HXj.out.trans HXk.out))
                      generalize ats[k] = y1 at *
                      generalize ats[z] = y0 at *
                      clear hz0 hz1
                      have hwz : IntKind.i64.wrap ((k : Int) - 1) = (z : Int) := by rw [IntKind.wrap_i64]; omega
                      have hzj : z < j := by omega
                      clear hz
                      go_upto_region 39 with fail
                      clear hq1
                      have HSI : Hid (∀ w', Ext wr w' → w'.cell? ⟨wo.heap.size, 1, none⟩ = some (.slice (some ⟨gi, oi, none⟩) j di) ∧ w'.cell? ⟨gi, oi + k, none⟩ = some (.int .i64 y1) ∧ w'.cell? ⟨gi, oi + z, none⟩ = some (.int .i64 y0)) := fun w' hx => ⟨(BAk.out.ext hx).cell (i := 1) rfl, HCC.out w' (HEk.out.trans hx)⟩
                      have HS0 : Hid (Ext wr wr.drew) := (Ext.refl wr).drew
                      refine AnyT.start (S := fun w' => Ext wr w') (T := fun _ => false) (by kernel_rfl) ?_
                      refine AnyT.ld 0 143 ?_ _ rfl rfl (by kernel_rfl) (fun _ _ _ h => h) HS0.out rfl ?_ ?_
                      rotate_left
                      focus (intro w' hSw; have hs := HSI.out w' hSw; go_split_ands; go_simp; try (first | exact rfl | omega | go_num | (intro hbd; exfalso; omega)))
                      simp only [Act.put, List.setIfInBounds_toArray, List.set_cons_zero, List.set_cons_succ]
                      refine AnyT.ld 1 144 ?_ _ rfl rfl (by kernel_rfl) (fun _ _ _ h => h) HS0.out rfl ?_ ?_
                      rotate_left
                      focus (intro w' hSw; have hs := HSI.out w' hSw; go_split_ands; go_simp; try (first | exact rfl | omega | go_num | (intro hbd; exfalso; omega)))
                      simp only [Act.put, List.setIfInBounds_toArray, List.set_cons_zero, List.set_cons_succ]
                      refine AnyT.ld 2 145 ?_ _ rfl rfl (by kernel_rfl) (fun _ _ _ h => h) HS0.out rfl ?_ ?_
                      rotate_left
                      focus (intro w' hSw; have hs := HSI.out w' hSw; go_split_ands; go_simp; try (first | exact rfl | omega | go_num | (intro hbd; exfalso; omega)))
                      simp only [Act.put, List.setIfInBounds_toArray, List.set_cons_zero, List.set_cons_succ]
                      refine AnyT.ld 3 146 ?_ _ rfl rfl (by kernel_rfl) (fun _ _ _ h => h) HS0.out rfl ?_ ?_
                      rotate_left
                      focus (intro w' hSw; have hs := HSI.out w' hSw; go_split_ands; go_simp; try (first | exact rfl | omega | go_num | (intro hbd; exfalso; omega)))
                      simp only [Act.put, List.setIfInBounds_toArray, List.set_cons_zero, List.set_cons_succ]
                      refine AnyT.ld 4 147 ?_ _ rfl rfl (by kernel_rfl) (fun _ _ _ h => h) HS0.out rfl ?_ ?_
                      rotate_left
                      focus (intro w' hSw; have hs := HSI.out w' hSw; go_split_ands; go_simp; try (first | exact rfl | omega | go_num | (intro hbd; exfalso; omega)))
                      simp only [Act.put, List.setIfInBounds_toArray, List.set_cons_zero, List.set_cons_succ]
                      refine AnyT.ld 5 148 ?_ _ rfl rfl (by kernel_rfl) (fun _ _ _ h => h) HS0.out rfl ?_ ?_
                      rotate_left
                      focus (intro w' hSw; have hs := HSI.out w' hSw; go_split_ands; go_simp; try (first | exact rfl | omega | go_num | (intro hbd; exfalso; omega)))
                      simp only [Act.put, List.setIfInBounds_toArray, List.set_cons_zero, List.set_cons_succ]
                      refine AnyT.ld 6 149 ?_ _ rfl rfl (by kernel_rfl) (fun _ _ _ h => h) HS0.out rfl ?_ ?_
                      rotate_left
                      focus (intro w' hSw; have hs := HSI.out w' hSw; go_split_ands; go_simp; try (first | exact rfl | omega | go_num | (intro hbd; exfalso; omega)))
                      simp only [Act.put, List.setIfInBounds_toArray, List.set_cons_zero, List.set_cons_succ]
                      refine AnyT.ld 7 150 ?_ _ rfl rfl (by kernel_rfl) (fun _ _ _ h => h) HS0.out rfl ?_ ?_
                      rotate_left
                      focus (intro w' hSw; have hs := HSI.out w' hSw; go_split_ands; go_simp; try (first | exact rfl | omega | go_num | (intro hbd; exfalso; omega)))
                      simp only [Act.put, List.setIfInBounds_toArray, List.set_cons_zero, List.set_cons_succ]
                      refine AnyT.ld 8 151 (.int .i64 z) _ rfl rfl (by kernel_rfl) (fun _ _ _ h => h) HS0.out rfl ?_ ?_
                      focus (intro w' hSw; have hs := HSI.out w' hSw; go_split_ands; go_simp; try (first | exact rfl | omega | go_num | (intro hbd; exfalso; omega)))
                      simp only [Act.put, List.setIfInBounds_toArray, List.set_cons_zero, List.set_cons_succ]
                      refine AnyT.ld 9 152 ?_ _ rfl rfl (by kernel_rfl) (fun _ _ _ h => h) HS0.out rfl ?_ ?_
                      rotate_left
                      focus (intro w' hSw; have hs := HSI.out w' hSw; go_split_ands; go_simp; try (first | exact rfl | omega | go_num | (intro hbd; exfalso; omega)))
                      simp only [Act.put, List.setIfInBounds_toArray, List.set_cons_zero, List.set_cons_succ]
                      refine AnyT.ld 10 153 ?_ _ rfl rfl (by kernel_rfl) (fun _ _ _ h => h) HS0.out rfl ?_ ?_
                      rotate_left
                      focus (intro w' hSw; have hs := HSI.out w' hSw; go_split_ands; go_simp; try (first | exact rfl | omega | go_num | (intro hbd; exfalso; omega)))
                      simp only [Act.put, List.setIfInBounds_toArray, List.set_cons_zero, List.set_cons_succ]
                      refine AnyT.ld 11 154 (.bool false) _ rfl rfl (by kernel_rfl) (fun _ _ _ h => h) HS0.out rfl ?_ ?_
                      focus (intro w' hSw; have hs := HSI.out w' hSw; go_split_ands; go_simp; try (first | exact rfl | omega | go_num | (intro hbd; exfalso; omega)))
                      simp only [Act.put, List.setIfInBounds_toArray, List.set_cons_zero, List.set_cons_succ]
                      refine AnyT.done (by kernel_rfl) ?_
                      have HXn := Lib.hid (HXk.out.trans HS0.out)
                      clear HSI HS0 HCC
                      go_wp2_with fail
                      go_roundw
                      case rel => exact ⟨k + 1, by omega, by omega, by go_num, HXn⟩
                      case measure => simp [RowKit.intOf]; omega
                    · have hkd : decide (k < j) = false := decide_eq_false hkm
                      have BU7 := Lib.hid (BU.out.ext HXk.out)
                      have HX7 := Lib.hid (HXj.out.trans HXk.out)
                      go_wp2_with fail
                      go_roundw
                      case rel => exact ⟨i + 1, bs, by omega, by go_num, HU, BU7, HX7⟩
                      case measure => simp [RowKit.intOf]; omega
        · obtain rfl : R = i := by omega
          rw [List.take_of_length_le (by rw [HRN.out]; exact Nat.le_refl _)] at HU
          have hall : ∀ a, a < N → bs[a]? = some true := fun a ha => by
            obtain ⟨r, hr, hm⟩ := HOK.out.used a (by rw [HN.out]; exact ha)
            have h := HU.out.2 (a : Int) (List.mem_flatMap.2 ⟨r, hr, hm⟩)
            rw [Int.toNat_natCast] at h
            exact h
          rw [bits_all HU.out.1 hall] at BU
          clear hall HU bs
          generalize wr = w3 at *
          go_upto_region 43 with fail
          go_loopw [14, 158] (fun _ v158 wr => ∃ j : Nat, j ≤ N ∧ v158 = .int .i64 j ∧ Hid (Ext w3 wr)) (fun _ v158 _ => N - (RowKit.intOf v158).toNat)
          case atStart => exact ⟨0, Nat.zero_le _, rfl, Ext.refl _⟩
          case round =>
            obtain ⟨j, hj, rfl, HXj⟩ := hrel
            by_cases hjN : j < N
            · have hcj := (BU.out.ext HXj.out).cell (i := j) (u := .bool true) (by rw [List.getElem?_replicate, if_pos hjN])
              go_wp2_with fail
              go_roundw
              case rel => exact ⟨j + 1, by omega, by go_num, HXj⟩
              case measure => simp [RowKit.intOf]; omega
            · obtain rfl : N = j := by omega
              have HX4 := Lib.hid (HXr.out.trans HXj.out)
              clear BU HXr HXj
              generalize wr = w4 at *
              have BX4 := Lib.hid (BX1.out.ext HX4.out)
              obtain ⟨s0, s1, s2, s3⟩ := BX4.out.four
              go_upto_region 49 with fail
              clear s0 s1 s2 s3
              go_loopw [15, 16, 17, 18, 19, 168] (fun _ _ _ _ _ v168 wr => ∃ i : Nat, i ≤ M ∧ v168 = .int .i64 i ∧ Hid (Ext w4 wr)) (fun _ _ _ _ _ v168 _ => M - (RowKit.intOf v168).toNat)
              case atStart => exact ⟨0, Nat.zero_le _, rfl, Ext.refl _⟩
              case round =>
                obtain ⟨i, hi, rfl, HXf⟩ := hrel
                by_cases hiM : i < M
                · have hil : i < x.feats.length := by rw [HM.out]; exact hiM
                  have HE := Lib.hid (HX1.out.trans (HX4.out.trans HXf.out))
                  obtain ⟨g, o, rfl, hg, hp0, hp1, hp2⟩ := FeL.get HF.out hil
                  have HP : Hid (∀ w', Ext w w' → ∀ k (hk : k < x.feats.length), w'.cell? ⟨g, o + k * 3, none⟩ = some (.int .i64 x.feats[k].1)) := fun w' hx k hk => by
                    obtain ⟨g', o', e', hg', h', _⟩ := FeL.get HF.out hk
                    injection e' with e'
                    injection e' with e1 e2
                    subst e1 e2
                    exact (hx.cell (p := ⟨g, o + k * 3, none⟩) hg).trans h'
                  have hp0 := (HE.out.cell (p := ⟨g, o + i * 3, none⟩) hg).trans hp0
                  have hp1 := (HE.out.cell (p := ⟨g, o + i * 3 + 1, none⟩) hg).trans hp1
                  have hp2 := (HE.out.cell (p := ⟨g, o + i * 3 + 2, none⟩) hg).trans hp2
                  have hmem := List.getElem_mem hil
                  have hfo := HOK.out.fo _ hmem
                  have hfl := HOK.out.fl _ hmem
                  rw [HLB.out] at hfl
                  have HDI : Hid (∀ k (hk : k < i), ((x.feats[k]'(by omega)).1 == x.feats[i].1) = false) := fun k hk => by
                    rw [beq_eq_false_iff_ne]
                    exact List.pairwise_iff_getElem.1 HOK.out.fd k i (by omega) hil hk
                  clear hmem
                  generalize x.feats[i] = fe at *
                  obtain ⟨fa, fk, fm⟩ := fe
                  simp only at hp0 hp1 hp2 hfl HDI
                  obtain ⟨hf0, y, hy, hfo⟩ := hfo
                  simp only at hf0 hy hfo
                  obtain ⟨q, rfl⟩ := Int.eq_ofNat_of_zero_le hf0
                  rw [Int.toNat_natCast] at hy
                  obtain ⟨hqN, hye⟩ := List.getElem?_eq_some_iff.1 hy
                  obtain ⟨ga, oa, rfl, hga, -, hca⟩ := AL.get HA.out hqN
                  rw [hye] at hca
                  have hqN : q < N := by rw [← HN.out]; exact hqN
                  have hlq : ((q : Int) == lab) = false := by rw [beq_eq_false_iff_ne]; exact hfl
                  have hq0 : decide ((q : Int) < 0) = false := decide_eq_false (by omega)
                  have hqd : decide (N ≤ q) = false := decide_eq_false (by omega)
                  clear hy hye hfl hf0
                  generalize wr = wo at *
                  go_upto_region 51 with fail
                  refine box1 (P := fun W => Code.wp _ _ _ _ W) fun w6 HX6 BA => ?_
                  have HXf := Lib.hid (HXf.out.trans HX6.out)
                  have HE6 := Lib.hid (HE.out.trans HX6.out)
                  have BX6 := Lib.hid (BX4.out.ext HXf.out)
                  obtain ⟨s0, s1, s2, s3⟩ := BX6.out.four
                  have q0 := BA.out.cell (i := 0) rfl
                  have q1 := BA.out.cell (i := 1) rfl
                  have q2 := BA.out.cell (i := 2) rfl
                  have hca := (HE6.out.cell (p := ⟨ga, oa + q * 2 + 1, none⟩) hga).trans hca
                  clear hp0 hp1 hp2 HE HX6
                  rcases hfo with ⟨rfl, hy2, rfl | rfl⟩ | ⟨rfl, hy2, rfl⟩
                  · rw [hy2] at hca
                    go_upto_region 58 with fail
                    go_loopw [19] (fun v19 wr => ∃ k : Nat, k ≤ i ∧ v19 = .int .i64 k ∧ Hid (Ext w6 wr)) (fun v19 _ => i - (RowKit.intOf v19).toNat)
                    case atStart => exact ⟨0, Nat.zero_le _, rfl, Ext.refl _⟩
                    case round =>
                      obtain ⟨k, hk', rfl, HXk⟩ := hrel
                      by_cases hki : k < i
                      · have hkl : k < x.feats.length := by omega
                        have hkM : k < M := by omega
                        have hbe := HDI.out k hki
                        have HPk := Lib.hid (fun w' hx => HP.out w' hx k hkl)
                        generalize x.feats[k].1 = ak at *
                        clear hkl
                        have BXk := Lib.hid (BX6.out.ext HXk.out)
                        have BAk := Lib.hid (BA.out.ext HXk.out)
                        have HEk := Lib.hid (HE6.out.trans HXk.out)
                        clear s0 s1 s2 s3 q0 q1 q2 hca
                        go_upto_region 60 with fail
                        have HSI : Hid (∀ w', Ext wr w' → w'.cell? ⟨w.heap.size, 2, none⟩ = some (.slice (some ⟨g, o, none⟩) M e) ∧ w'.cell? ⟨g, o + k * 3, none⟩ = some (.int .i64 ak) ∧ w'.cell? ⟨wo.heap.size, 0, none⟩ = some (.int .i64 q)) := fun w' hx => ⟨(BXk.out.ext hx).cell (i := 2) rfl, HPk.out w' (HEk.out.trans hx), (BAk.out.ext hx).cell (i := 0) rfl⟩
                        have HS0 : Hid (Ext wr wr.drew) := (Ext.refl wr).drew
                        refine AnyT.start (S := fun w' => Ext wr w') (T := fun _ => false) (by kernel_rfl) ?_
                        refine AnyT.ld 0 235 ?_ _ rfl rfl (by kernel_rfl) (fun _ _ _ h => h) HS0.out rfl ?_ ?_
                        rotate_left
                        focus (intro w' hSw; have hs := HSI.out w' hSw; go_split_ands; go_simp; try (first | exact rfl | omega | go_num | (intro hbd; exfalso; omega)))
                        simp only [Act.put, List.setIfInBounds_toArray, List.set_cons_zero, List.set_cons_succ]
                        refine AnyT.ld 1 236 ?_ _ rfl rfl (by kernel_rfl) (fun _ _ _ h => h) HS0.out rfl ?_ ?_
                        rotate_left
                        focus (intro w' hSw; have hs := HSI.out w' hSw; go_split_ands; go_simp; try (first | exact rfl | omega | go_num | (intro hbd; exfalso; omega)))
                        simp only [Act.put, List.setIfInBounds_toArray, List.set_cons_zero, List.set_cons_succ]
                        refine AnyT.ld 2 237 ?_ _ rfl rfl (by kernel_rfl) (fun _ _ _ h => h) HS0.out rfl ?_ ?_
                        rotate_left
                        focus (intro w' hSw; have hs := HSI.out w' hSw; go_split_ands; go_simp; try (first | exact rfl | omega | go_num | (intro hbd; exfalso; omega)))
                        simp only [Act.put, List.setIfInBounds_toArray, List.set_cons_zero, List.set_cons_succ]
                        refine AnyT.ld 3 238 ?_ _ rfl rfl (by kernel_rfl) (fun _ _ _ h => h) HS0.out rfl ?_ ?_
                        rotate_left
                        focus (intro w' hSw; have hs := HSI.out w' hSw; go_split_ands; go_simp; try (first | exact rfl | omega | go_num | (intro hbd; exfalso; omega)))
                        simp only [Act.put, List.setIfInBounds_toArray, List.set_cons_zero, List.set_cons_succ]
                        refine AnyT.ld 4 239 ?_ _ rfl rfl (by kernel_rfl) (fun _ _ _ h => h) HS0.out rfl ?_ ?_
                        rotate_left
                        focus (intro w' hSw; have hs := HSI.out w' hSw; go_split_ands; go_simp; try (first | exact rfl | omega | go_num | (intro hbd; exfalso; omega)))
                        simp only [Act.put, List.setIfInBounds_toArray, List.set_cons_zero, List.set_cons_succ]
                        refine AnyT.ld 5 240 ?_ _ rfl rfl (by kernel_rfl) (fun _ _ _ h => h) HS0.out rfl ?_ ?_
                        rotate_left
                        focus (intro w' hSw; have hs := HSI.out w' hSw; go_split_ands; go_simp; try (first | exact rfl | omega | go_num | (intro hbd; exfalso; omega)))
                        simp only [Act.put, List.setIfInBounds_toArray, List.set_cons_zero, List.set_cons_succ]
                        refine AnyT.ld 6 241 ?_ _ rfl rfl (by kernel_rfl) (fun _ _ _ h => h) HS0.out rfl ?_ ?_
                        rotate_left
                        focus (intro w' hSw; have hs := HSI.out w' hSw; go_split_ands; go_simp; try (first | exact rfl | omega | go_num | (intro hbd; exfalso; omega)))
                        simp only [Act.put, List.setIfInBounds_toArray, List.set_cons_zero, List.set_cons_succ]
                        refine AnyT.ld 7 242 ?_ _ rfl rfl (by kernel_rfl) (fun _ _ _ h => h) HS0.out rfl ?_ ?_
                        rotate_left
                        focus (intro w' hSw; have hs := HSI.out w' hSw; go_split_ands; go_simp; try (first | exact rfl | omega | go_num | (intro hbd; exfalso; omega)))
                        simp only [Act.put, List.setIfInBounds_toArray, List.set_cons_zero, List.set_cons_succ]
                        refine AnyT.ld 8 243 (.bool false) _ rfl rfl (by kernel_rfl) (fun _ _ _ h => h) HS0.out rfl ?_ ?_
                        focus (intro w' hSw; have hs := HSI.out w' hSw; go_split_ands; go_simp; try (first | exact rfl | omega | go_num | (intro hbd; exfalso; omega)))
                        simp only [Act.put, List.setIfInBounds_toArray, List.set_cons_zero, List.set_cons_succ]
                        refine AnyT.done (by kernel_rfl) ?_
                        have HXn := Lib.hid (HXk.out.trans HS0.out)
                        clear HSI HS0
                        go_wp2_with fail
                        go_roundw
                        case rel => exact ⟨k + 1, by omega, by go_num, HXn⟩
                        case measure => simp [RowKit.intOf]; omega
                      · obtain rfl : i = k := by omega
                        have BAk := Lib.hid (BA.out.ext HXk.out)
                        have BXk := Lib.hid (BX6.out.ext HXk.out)
                        have HXn := Lib.hid (HXf.out.trans HXk.out)
                        clear s0 s1 s2 s3 q0 q1 q2 hca
                        obtain ⟨s0, s1, s2, s3⟩ := BXk.out.four
                        have q0 := BAk.out.cell (i := 0) rfl
                        go_wp2_with fail
                        go_roundw
                        case rel => exact ⟨i + 1, by omega, by go_num, HXn⟩
                        case measure => simp [RowKit.intOf]; omega
                  · rw [hy2] at hca
                    go_upto_region 58 with fail
                    go_loopw [19] (fun v19 wr => ∃ k : Nat, k ≤ i ∧ v19 = .int .i64 k ∧ Hid (Ext w6 wr)) (fun v19 _ => i - (RowKit.intOf v19).toNat)
                    case atStart => exact ⟨0, Nat.zero_le _, rfl, Ext.refl _⟩
                    case round =>
                      obtain ⟨k, hk', rfl, HXk⟩ := hrel
                      by_cases hki : k < i
                      · have hkl : k < x.feats.length := by omega
                        have hkM : k < M := by omega
                        have hbe := HDI.out k hki
                        have HPk := Lib.hid (fun w' hx => HP.out w' hx k hkl)
                        generalize x.feats[k].1 = ak at *
                        clear hkl
                        have BXk := Lib.hid (BX6.out.ext HXk.out)
                        have BAk := Lib.hid (BA.out.ext HXk.out)
                        have HEk := Lib.hid (HE6.out.trans HXk.out)
                        clear s0 s1 s2 s3 q0 q1 q2 hca
                        go_upto_region 60 with fail
                        have HSI : Hid (∀ w', Ext wr w' → w'.cell? ⟨w.heap.size, 2, none⟩ = some (.slice (some ⟨g, o, none⟩) M e) ∧ w'.cell? ⟨g, o + k * 3, none⟩ = some (.int .i64 ak) ∧ w'.cell? ⟨wo.heap.size, 0, none⟩ = some (.int .i64 q)) := fun w' hx => ⟨(BXk.out.ext hx).cell (i := 2) rfl, HPk.out w' (HEk.out.trans hx), (BAk.out.ext hx).cell (i := 0) rfl⟩
                        have HS0 : Hid (Ext wr wr.drew) := (Ext.refl wr).drew
                        refine AnyT.start (S := fun w' => Ext wr w') (T := fun _ => false) (by kernel_rfl) ?_
                        refine AnyT.ld 0 235 ?_ _ rfl rfl (by kernel_rfl) (fun _ _ _ h => h) HS0.out rfl ?_ ?_
                        rotate_left
                        focus (intro w' hSw; have hs := HSI.out w' hSw; go_split_ands; go_simp; try (first | exact rfl | omega | go_num | (intro hbd; exfalso; omega)))
                        simp only [Act.put, List.setIfInBounds_toArray, List.set_cons_zero, List.set_cons_succ]
                        refine AnyT.ld 1 236 ?_ _ rfl rfl (by kernel_rfl) (fun _ _ _ h => h) HS0.out rfl ?_ ?_
                        rotate_left
                        focus (intro w' hSw; have hs := HSI.out w' hSw; go_split_ands; go_simp; try (first | exact rfl | omega | go_num | (intro hbd; exfalso; omega)))
                        simp only [Act.put, List.setIfInBounds_toArray, List.set_cons_zero, List.set_cons_succ]
                        refine AnyT.ld 2 237 ?_ _ rfl rfl (by kernel_rfl) (fun _ _ _ h => h) HS0.out rfl ?_ ?_
                        rotate_left
                        focus (intro w' hSw; have hs := HSI.out w' hSw; go_split_ands; go_simp; try (first | exact rfl | omega | go_num | (intro hbd; exfalso; omega)))
                        simp only [Act.put, List.setIfInBounds_toArray, List.set_cons_zero, List.set_cons_succ]
                        refine AnyT.ld 3 238 ?_ _ rfl rfl (by kernel_rfl) (fun _ _ _ h => h) HS0.out rfl ?_ ?_
                        rotate_left
                        focus (intro w' hSw; have hs := HSI.out w' hSw; go_split_ands; go_simp; try (first | exact rfl | omega | go_num | (intro hbd; exfalso; omega)))
                        simp only [Act.put, List.setIfInBounds_toArray, List.set_cons_zero, List.set_cons_succ]
                        refine AnyT.ld 4 239 ?_ _ rfl rfl (by kernel_rfl) (fun _ _ _ h => h) HS0.out rfl ?_ ?_
                        rotate_left
                        focus (intro w' hSw; have hs := HSI.out w' hSw; go_split_ands; go_simp; try (first | exact rfl | omega | go_num | (intro hbd; exfalso; omega)))
                        simp only [Act.put, List.setIfInBounds_toArray, List.set_cons_zero, List.set_cons_succ]
                        refine AnyT.ld 5 240 ?_ _ rfl rfl (by kernel_rfl) (fun _ _ _ h => h) HS0.out rfl ?_ ?_
                        rotate_left
                        focus (intro w' hSw; have hs := HSI.out w' hSw; go_split_ands; go_simp; try (first | exact rfl | omega | go_num | (intro hbd; exfalso; omega)))
                        simp only [Act.put, List.setIfInBounds_toArray, List.set_cons_zero, List.set_cons_succ]
                        refine AnyT.ld 6 241 ?_ _ rfl rfl (by kernel_rfl) (fun _ _ _ h => h) HS0.out rfl ?_ ?_
                        rotate_left
                        focus (intro w' hSw; have hs := HSI.out w' hSw; go_split_ands; go_simp; try (first | exact rfl | omega | go_num | (intro hbd; exfalso; omega)))
                        simp only [Act.put, List.setIfInBounds_toArray, List.set_cons_zero, List.set_cons_succ]
                        refine AnyT.ld 7 242 ?_ _ rfl rfl (by kernel_rfl) (fun _ _ _ h => h) HS0.out rfl ?_ ?_
                        rotate_left
                        focus (intro w' hSw; have hs := HSI.out w' hSw; go_split_ands; go_simp; try (first | exact rfl | omega | go_num | (intro hbd; exfalso; omega)))
                        simp only [Act.put, List.setIfInBounds_toArray, List.set_cons_zero, List.set_cons_succ]
                        refine AnyT.ld 8 243 (.bool false) _ rfl rfl (by kernel_rfl) (fun _ _ _ h => h) HS0.out rfl ?_ ?_
                        focus (intro w' hSw; have hs := HSI.out w' hSw; go_split_ands; go_simp; try (first | exact rfl | omega | go_num | (intro hbd; exfalso; omega)))
                        simp only [Act.put, List.setIfInBounds_toArray, List.set_cons_zero, List.set_cons_succ]
                        refine AnyT.done (by kernel_rfl) ?_
                        have HXn := Lib.hid (HXk.out.trans HS0.out)
                        clear HSI HS0
                        go_wp2_with fail
                        go_roundw
                        case rel => exact ⟨k + 1, by omega, by go_num, HXn⟩
                        case measure => simp [RowKit.intOf]; omega
                      · obtain rfl : i = k := by omega
                        have BAk := Lib.hid (BA.out.ext HXk.out)
                        have BXk := Lib.hid (BX6.out.ext HXk.out)
                        have HXn := Lib.hid (HXf.out.trans HXk.out)
                        clear s0 s1 s2 s3 q0 q1 q2 hca
                        obtain ⟨s0, s1, s2, s3⟩ := BXk.out.four
                        have q0 := BAk.out.cell (i := 0) rfl
                        go_wp2_with fail
                        go_roundw
                        case rel => exact ⟨i + 1, by omega, by go_num, HXn⟩
                        case measure => simp [RowKit.intOf]; omega
                  · rw [hy2] at hca
                    go_upto_region 58 with fail
                    go_loopw [19] (fun v19 wr => ∃ k : Nat, k ≤ i ∧ v19 = .int .i64 k ∧ Hid (Ext w6 wr)) (fun v19 _ => i - (RowKit.intOf v19).toNat)
                    case atStart => exact ⟨0, Nat.zero_le _, rfl, Ext.refl _⟩
                    case round =>
                      obtain ⟨k, hk', rfl, HXk⟩ := hrel
                      by_cases hki : k < i
                      · have hkl : k < x.feats.length := by omega
                        have hkM : k < M := by omega
                        have hbe := HDI.out k hki
                        have HPk := Lib.hid (fun w' hx => HP.out w' hx k hkl)
                        generalize x.feats[k].1 = ak at *
                        clear hkl
                        have BXk := Lib.hid (BX6.out.ext HXk.out)
                        have BAk := Lib.hid (BA.out.ext HXk.out)
                        have HEk := Lib.hid (HE6.out.trans HXk.out)
                        clear s0 s1 s2 s3 q0 q1 q2 hca
                        go_upto_region 60 with fail
                        have HSI : Hid (∀ w', Ext wr w' → w'.cell? ⟨w.heap.size, 2, none⟩ = some (.slice (some ⟨g, o, none⟩) M e) ∧ w'.cell? ⟨g, o + k * 3, none⟩ = some (.int .i64 ak) ∧ w'.cell? ⟨wo.heap.size, 0, none⟩ = some (.int .i64 q)) := fun w' hx => ⟨(BXk.out.ext hx).cell (i := 2) rfl, HPk.out w' (HEk.out.trans hx), (BAk.out.ext hx).cell (i := 0) rfl⟩
                        have HS0 : Hid (Ext wr wr.drew) := (Ext.refl wr).drew
                        refine AnyT.start (S := fun w' => Ext wr w') (T := fun _ => false) (by kernel_rfl) ?_
                        refine AnyT.ld 0 235 ?_ _ rfl rfl (by kernel_rfl) (fun _ _ _ h => h) HS0.out rfl ?_ ?_
                        rotate_left
                        focus (intro w' hSw; have hs := HSI.out w' hSw; go_split_ands; go_simp; try (first | exact rfl | omega | go_num | (intro hbd; exfalso; omega)))
                        simp only [Act.put, List.setIfInBounds_toArray, List.set_cons_zero, List.set_cons_succ]
                        refine AnyT.ld 1 236 ?_ _ rfl rfl (by kernel_rfl) (fun _ _ _ h => h) HS0.out rfl ?_ ?_
                        rotate_left
                        focus (intro w' hSw; have hs := HSI.out w' hSw; go_split_ands; go_simp; try (first | exact rfl | omega | go_num | (intro hbd; exfalso; omega)))
                        simp only [Act.put, List.setIfInBounds_toArray, List.set_cons_zero, List.set_cons_succ]
                        refine AnyT.ld 2 237 ?_ _ rfl rfl (by kernel_rfl) (fun _ _ _ h => h) HS0.out rfl ?_ ?_
                        rotate_left
                        focus (intro w' hSw; have hs := HSI.out w' hSw; go_split_ands; go_simp; try (first | exact rfl | omega | go_num | (intro hbd; exfalso; omega)))
                        simp only [Act.put, List.setIfInBounds_toArray, List.set_cons_zero, List.set_cons_succ]
                        refine AnyT.ld 3 238 ?_ _ rfl rfl (by kernel_rfl) (fun _ _ _ h => h) HS0.out rfl ?_ ?_
                        rotate_left
                        focus (intro w' hSw; have hs := HSI.out w' hSw; go_split_ands; go_simp; try (first | exact rfl | omega | go_num | (intro hbd; exfalso; omega)))
                        simp only [Act.put, List.setIfInBounds_toArray, List.set_cons_zero, List.set_cons_succ]
                        refine AnyT.ld 4 239 ?_ _ rfl rfl (by kernel_rfl) (fun _ _ _ h => h) HS0.out rfl ?_ ?_
                        rotate_left
                        focus (intro w' hSw; have hs := HSI.out w' hSw; go_split_ands; go_simp; try (first | exact rfl | omega | go_num | (intro hbd; exfalso; omega)))
                        simp only [Act.put, List.setIfInBounds_toArray, List.set_cons_zero, List.set_cons_succ]
                        refine AnyT.ld 5 240 ?_ _ rfl rfl (by kernel_rfl) (fun _ _ _ h => h) HS0.out rfl ?_ ?_
                        rotate_left
                        focus (intro w' hSw; have hs := HSI.out w' hSw; go_split_ands; go_simp; try (first | exact rfl | omega | go_num | (intro hbd; exfalso; omega)))
                        simp only [Act.put, List.setIfInBounds_toArray, List.set_cons_zero, List.set_cons_succ]
                        refine AnyT.ld 6 241 ?_ _ rfl rfl (by kernel_rfl) (fun _ _ _ h => h) HS0.out rfl ?_ ?_
                        rotate_left
                        focus (intro w' hSw; have hs := HSI.out w' hSw; go_split_ands; go_simp; try (first | exact rfl | omega | go_num | (intro hbd; exfalso; omega)))
                        simp only [Act.put, List.setIfInBounds_toArray, List.set_cons_zero, List.set_cons_succ]
                        refine AnyT.ld 7 242 ?_ _ rfl rfl (by kernel_rfl) (fun _ _ _ h => h) HS0.out rfl ?_ ?_
                        rotate_left
                        focus (intro w' hSw; have hs := HSI.out w' hSw; go_split_ands; go_simp; try (first | exact rfl | omega | go_num | (intro hbd; exfalso; omega)))
                        simp only [Act.put, List.setIfInBounds_toArray, List.set_cons_zero, List.set_cons_succ]
                        refine AnyT.ld 8 243 (.bool false) _ rfl rfl (by kernel_rfl) (fun _ _ _ h => h) HS0.out rfl ?_ ?_
                        focus (intro w' hSw; have hs := HSI.out w' hSw; go_split_ands; go_simp; try (first | exact rfl | omega | go_num | (intro hbd; exfalso; omega)))
                        simp only [Act.put, List.setIfInBounds_toArray, List.set_cons_zero, List.set_cons_succ]
                        refine AnyT.done (by kernel_rfl) ?_
                        have HXn := Lib.hid (HXk.out.trans HS0.out)
                        clear HSI HS0
                        go_wp2_with fail
                        go_roundw
                        case rel => exact ⟨k + 1, by omega, by go_num, HXn⟩
                        case measure => simp [RowKit.intOf]; omega
                      · obtain rfl : i = k := by omega
                        have BAk := Lib.hid (BA.out.ext HXk.out)
                        have BXk := Lib.hid (BX6.out.ext HXk.out)
                        have HXn := Lib.hid (HXf.out.trans HXk.out)
                        clear s0 s1 s2 s3 q0 q1 q2 hca
                        obtain ⟨s0, s1, s2, s3⟩ := BXk.out.four
                        have q0 := BAk.out.cell (i := 0) rfl
                        go_wp2_with fail
                        go_roundw
                        case rel => exact ⟨i + 1, by omega, by go_num, HXn⟩
                        case measure => simp [RowKit.intOf]; omega
                · obtain rfl : M = i := by omega
                  have HX9 := Lib.hid (HX1.out.trans (HX4.out.trans HXf.out))
                  have BX9 := Lib.hid (BX4.out.ext HXf.out)
                  obtain ⟨s0, s1, s2, s3⟩ := BX9.out.four
                  have l1 : decide (lab < -1) = false := decide_eq_false (by omega)
                  by_cases hl0 : 0 ≤ lab
                  · obtain ⟨a, ha, hk⟩ := HOK.out.lk (by rw [HLB.out]; exact hl0)
                    rw [HLB.out] at ha
                    obtain ⟨q, rfl⟩ : ∃ q : Nat, lab = (q : Int) := ⟨lab.toNat, by omega⟩
                    rw [Int.toNat_natCast] at ha
                    obtain ⟨hqN, hqe⟩ := List.getElem?_eq_some_iff.1 ha
                    obtain ⟨g, o, rfl, -, -, hp⟩ := AL.get (Ls.ext AttR.stab HA.out HX9.out) hqN
                    rw [hqe, hk] at hp
                    have hqN' : q < N := by rw [← HN.out]; exact hqN
                    have l2 : decide ((q : Int) ≥ (N : Int)) = false := decide_eq_false (by omega)
                    have l2' : decide (N ≤ q) = false := decide_eq_false (by omega)
                    have l3 : decide ((q : Int) ≥ 0) = true := decide_eq_true (by omega)
                    clear ha hqe hl0
                    go_wp2
                    go_ret
                    exact ⟨rfl, HX9.out⟩
                  · have l2 : decide (lab ≥ (N : Int)) = false := decide_eq_false (by omega)
                    have l2' : decide ((N : Int) ≤ lab) = false := decide_eq_false (by omega)
                    have l3 : decide (lab ≥ 0) = false := decide_eq_false (by omega)
                    have l3' : decide (0 ≤ lab) = false := decide_eq_false (by omega)
                    go_wp2
                    go_ret
                    exact ⟨rfl, HX9.out⟩
end Go.Proofs.YthalpbjkkfkheaaGreatDoor
