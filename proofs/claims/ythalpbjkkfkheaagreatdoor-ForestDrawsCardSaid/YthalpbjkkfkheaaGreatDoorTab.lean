/- join.value, join.rows, join.Table, join.Check at valid databases. -/
import Derived.Test.YthalpbjkkfkheaaGreatDoorJoin
import Derived.Test.YthalpbjkkfkheaaGreatDoorDbR
namespace Go.Proofs.YthalpbjkkfkheaaGreatDoor
open Go.RowKit Go.Lib

set_option maxRecDepth 100000 in
set_option maxHeartbeats 2000000 in
theorem jvalue_any (v : Value) (x : Sch) (rn : List UInt8) (Bi : Option Addr) (mi di : Nat) (cs : List Int) (Bk : Option Addr) (nk dk : Nat) (yv : List Txt) (yw : Int) (w : World) (h : SchV w v x) (ok : SchOk x) (hi : IL w (.slice Bi mi di) cs) (hy : TL w (.slice Bk nk dk) yv) (hr : ∀ a ∈ cs, 0 ≤ a ∧ a < x.atts.length) (hv : RowVal x cs yv) :
    Calls Tryz.prog 44 #[v, .agg #[.string ⟨rn.toArray⟩, .slice Bi mi di], .agg #[.slice Bk nk dk, .int .i64 yw]] w fun e w' => e = .returned (.bool true) ∧ Ext w w' := by
  obtain ⟨A, c, B, d, Dd, e, rfl, ha, hrl, hf⟩ := h
  obtain ⟨hmi, hmi1, hmi2⟩ := cap_le hi
  obtain ⟨hnk, hnk1, hnk2⟩ := cap_le hy
  subst hmi hnk
  have HA := Lib.hid ha
  have HOK := Lib.hid ok
  have HIL := Lib.hid hi
  have HTk := Lib.hid hy
  have HRI := Lib.hid hr
  have HVk := Lib.hid hv
  have hvl : yv.length = cs.length := hv.1
  have HVL := Lib.hid hvl
  obtain ⟨AN, hAN⟩ : ∃ AN, x.atts.length = AN := ⟨_, rfl⟩
  have HAN := Lib.hid hAN
  rw [hAN] at HA HRI ⊢
  rw [hvl] at HTk ⊢
  obtain ⟨-, ha1, ha2⟩ := cap_le ha
  rw [hAN] at ha1
  generalize x.rels.length = RN at *
  generalize x.feats.length = FN at *
  rw [hvl] at hnk1
  clear ha hrl hf ok hi hy hr hv hvl hAN
  go_enter Tryz.func44, Tryz.ntmps44
  go_upto_region 1 with fail
  refine box3 (P := fun W => Code.wp _ _ _ _ W) fun W HX BX BR BY => ?_
  obtain ⟨r0, r1⟩ := BR.out.two
  go_upto_region 2 with fail
  clear r0 r1
  go_loopw [12] (fun v12 wr => ∃ j : Nat, j ≤ cs.length ∧ v12 = .int .i64 j ∧ Hid (Ext W wr)) (fun v12 _ => cs.length - (RowKit.intOf v12).toNat)
  case atStart => exact ⟨0, Nat.zero_le _, rfl, Ext.refl _⟩
  case round =>
    obtain ⟨j, hj, rfl, HXj⟩ := hrel
    by_cases hjc : j < cs.length
    · have hjv : j < yv.length := by rw [HVL.out]; exact hjc
      have HEj := Lib.hid (HX.out.trans HXj.out)
      obtain ⟨gv, ov, rfl, hgv, hcv⟩ := TL.get (TL.ext HTk.out HEj.out) hjv
      obtain ⟨gi, oi, rfl, hgi, hci⟩ := IL.get (IL.ext HIL.out HEj.out) hjc
      have hain := HRI.out _ (List.getElem_mem hjc)
      have HVT : Hid (ValT (kd x cs[j]) yv[j]) := HVk.out.2 j _ _ (List.getElem?_eq_getElem hjc) (List.getElem?_eq_getElem hjv)
      generalize cs[j] = a at *
      generalize yv[j] = t at *
      obtain ⟨an, rfl⟩ : ∃ an : Nat, a = an := ⟨a.toNat, by omega⟩
      have hanN : an < AN := by omega
      have hanl : an < x.atts.length := by rw [HAN.out]; exact hanN
      obtain ⟨ga, oa, rfl, hga, hc0, hc1⟩ := AL.get (Ls.ext AttR.stab HA.out HEj.out) hanl
      have hkk := HOK.out.ak _ (List.getElem_mem hanl)
      have HKD : Hid (kd x an = x.atts[an].2) := by unfold kd; simp [Hid, hanl]
      rw [HKD.out] at HVT
      generalize x.atts[an] = att at *
      obtain ⟨nm, ak⟩ := att
      simp only at hc0 hc1 hkk HVT
      have RV := Lib.hid (fun w' => sval_any nm t ak w' hkk HVT.out)
      have BYj := Lib.hid (BY.out.ext HXj.out)
      have BXj := Lib.hid (BX.out.ext HXj.out)
      clear HVT HKD hkk
      go_upto_region 4 with fail
      have HSI : Hid (∀ w', Ext wr w' → w'.cell? ⟨w.heap.size, 0, none⟩ = some (.slice (some ⟨ga, oa, none⟩) AN c) ∧ w'.cell? ⟨w.heap.size + 1 + 1, 0, none⟩ = some (.slice (some ⟨gv, ov, none⟩) cs.length dk) ∧ w'.cell? ⟨gv, ov + j, none⟩ = some (.string ⟨t.toArray⟩) ∧ w'.cell? ⟨ga, oa + an * 2, none⟩ = some (.string ⟨nm.toArray⟩) ∧ w'.cell? ⟨ga, oa + an * 2 + 1, none⟩ = some (.int .i64 ak)) := fun w' hx => ⟨(BXj.out.ext hx).cell (i := 0) rfl, (BYj.out.ext hx).cell (i := 0) rfl, (hx.cell (p := ⟨gv, ov + j, none⟩) hgv).trans hcv, (hx.cell (p := ⟨ga, oa + an * 2, none⟩) hga).trans hc0, (hx.cell (p := ⟨ga, oa + an * 2 + 1, none⟩) hga).trans hc1⟩
      have HS0 : Hid (Ext wr wr.drew) := (Ext.refl wr).drew
      clear hcv hci hc0 hc1 BYj BXj
      refine AnyT.start (S := fun w' => Ext wr w') (T := fun _ => false) (by kernel_rfl) ?_
      generalize wr.drew = wd at *
      refine AnyT.ld 0 17 ?_ _ rfl rfl (by kernel_rfl) (fun _ _ _ h => h) HS0.out rfl ?_ ?_
      rotate_left
      focus (intro w' hSw; have hs := HSI.out w' hSw; go_split_ands; go_simp; try (first | exact rfl | omega | go_num | (intro hbd; exfalso; omega)))
      simp only [Act.put, List.setIfInBounds_toArray, List.set_cons_zero, List.set_cons_succ]
      refine AnyT.ld 1 18 ?_ _ rfl rfl (by kernel_rfl) (fun _ _ _ h => h) HS0.out rfl ?_ ?_
      rotate_left
      focus (intro w' hSw; have hs := HSI.out w' hSw; go_split_ands; go_simp; try (first | exact rfl | omega | go_num | (intro hbd; exfalso; omega)))
      simp only [Act.put, List.setIfInBounds_toArray, List.set_cons_zero, List.set_cons_succ]
      refine AnyT.ld 2 19 ?_ _ rfl rfl (by kernel_rfl) (fun _ _ _ h => h) HS0.out rfl ?_ ?_
      rotate_left
      focus (intro w' hSw; have hs := HSI.out w' hSw; go_split_ands; go_simp; try (first | exact rfl | omega | go_num | (intro hbd; exfalso; omega)))
      simp only [Act.put, List.setIfInBounds_toArray, List.set_cons_zero, List.set_cons_succ]
      refine AnyT.ld 3 20 ?_ _ rfl rfl (by kernel_rfl) (fun _ _ _ h => h) HS0.out rfl ?_ ?_
      rotate_left
      focus (intro w' hSw; have hs := HSI.out w' hSw; go_split_ands; go_simp; try (first | exact rfl | omega | go_num | (intro hbd; exfalso; omega)))
      simp only [Act.put, List.setIfInBounds_toArray, List.set_cons_zero, List.set_cons_succ]
      refine AnyT.ld 4 21 ?_ _ rfl rfl (by kernel_rfl) (fun _ _ _ h => h) HS0.out rfl ?_ ?_
      rotate_left
      focus (intro w' hSw; have hs := HSI.out w' hSw; go_split_ands; go_simp; try (first | exact rfl | omega | go_num | (intro hbd; exfalso; omega)))
      simp only [Act.put, List.setIfInBounds_toArray, List.set_cons_zero, List.set_cons_succ]
      refine AnyT.ld 5 22 ?_ _ rfl rfl (by kernel_rfl) (fun _ _ _ h => h) HS0.out rfl ?_ ?_
      rotate_left
      focus (intro w' hSw; have hs := HSI.out w' hSw; go_split_ands; go_simp; try (first | exact rfl | omega | go_num | (intro hbd; exfalso; omega)))
      simp only [Act.put, List.setIfInBounds_toArray, List.set_cons_zero, List.set_cons_succ]
      refine AnyT.ld 6 23 ?_ _ rfl rfl (by kernel_rfl) (fun _ _ _ h => h) HS0.out rfl ?_ ?_
      rotate_left
      focus (intro w' hSw; have hs := HSI.out w' hSw; go_split_ands; go_simp; try (first | exact rfl | omega | go_num | (intro hbd; exfalso; omega)))
      simp only [Act.put, List.setIfInBounds_toArray, List.set_cons_zero, List.set_cons_succ]
      refine AnyT.ld 7 24 ?_ _ rfl rfl (by kernel_rfl) (fun _ _ _ h => h) HS0.out rfl ?_ ?_
      rotate_left
      focus (intro w' hSw; have hs := HSI.out w' hSw; go_split_ands; go_simp; try (first | exact rfl | omega | go_num | (intro hbd; exfalso; omega)))
      simp only [Act.put, List.setIfInBounds_toArray, List.set_cons_zero, List.set_cons_succ]
      refine AnyT.ld 8 25 ?_ _ rfl rfl (by kernel_rfl) (fun _ _ _ h => h) HS0.out rfl ?_ ?_
      rotate_left
      focus (intro w' hSw; have hs := HSI.out w' hSw; go_split_ands; go_simp; try (first | exact rfl | omega | go_num | (intro hbd; exfalso; omega)))
      simp only [Act.put, List.setIfInBounds_toArray, List.set_cons_zero, List.set_cons_succ]
      refine AnyT.ld 9 26 ?_ _ rfl rfl (by kernel_rfl) (fun _ _ _ h => h) HS0.out rfl ?_ ?_
      rotate_left
      focus (intro w' hSw; have hs := HSI.out w' hSw; go_split_ands; go_simp; try (first | exact rfl | omega | go_num | (intro hbd; exfalso; omega)))
      simp only [Act.put, List.setIfInBounds_toArray, List.set_cons_zero, List.set_cons_succ]
      refine AnyT.step 10 (by kernel_rfl) ?_
      intro o ho K hK
      simp only [List.getElem?_toArray, List.getElem?_cons_succ, List.getElem?_cons_zero, Option.some.injEq] at ho
      subst ho
      go_simp
      refine (RV.out wd).mono ?_
      rintro e7 w7 ⟨rfl, hx7⟩
      have HS7 := Lib.hid (HS0.out.trans hx7)
      refine hK.out _ _ (fun _ => HS7.out) ?_
      clear hK hx7 HS0 RV
      have HS0 := HS7
      refine AnyT.ld 11 28 ?_ _ rfl rfl (by kernel_rfl) (fun _ _ _ h => h) HS0.out rfl ?_ ?_
      rotate_left
      focus (intro w' hSw; have hs := HSI.out w' hSw; go_split_ands; go_simp; try (first | exact rfl | omega | go_num | (intro hbd; exfalso; omega)))
      simp only [Act.put, List.setIfInBounds_toArray, List.set_cons_zero, List.set_cons_succ]
      refine AnyT.done (by kernel_rfl) ?_
      have HXn := Lib.hid (HXj.out.trans HS0.out)
      clear HSI HS0 HS7 HXj
      go_wp2_with fail
      go_roundw
      case rel => exact ⟨j + 1, by omega, by go_num, HXn⟩
      case measure => simp [RowKit.intOf]; omega
    · have d1 : decide ((j : Int) < (cs.length : Int)) = false := decide_eq_false (by omega)
      go_wp2
      go_ret
      exact ⟨rfl, HX.out.trans HXj.out⟩
set_option maxRecDepth 100000 in
set_option maxHeartbeats 4000000 in
theorem jrows_any (v : Value) (x : Sch) (i : Nat) (A0 : Option Addr) (n0 c0 : Nat) (l : List Rw) (r : Rl) (low : Int) (most : Nat) (w : World) (h : SchV w v x) (ok : SchOk x) (hl : RwL w (.slice A0 n0 c0) l) (hr : x.rels[i]? = some r) (ht : TabOk x r.2 l) (hlow : low ≤ 1) (hmost : 60 ≤ most) :
    Calls Tryz.prog 37 #[v, .int .i64 i, .slice A0 n0 c0, .int .i64 most, .int .i64 low] w fun e w' => e = .returned (.int .i64 0) ∧ Ext w w' := by
  have CH := Lib.hid (fun w' (hx : Ext w w') => check_any v x w' (h.ext hx) ok)
  have HV := Lib.hid h
  have HOKS := Lib.hid ok
  obtain ⟨A, c, B, d, Dd, e, rfl, ha, hrl, hf⟩ := h
  obtain ⟨-, ha1, ha2⟩ := cap_le ha
  obtain ⟨-, hd1, hd2⟩ := cap_le hrl
  obtain ⟨hn0, hnc0, hcm0⟩ := cap_le hl
  subst hn0
  have HA := Lib.hid ha
  have HR := Lib.hid hrl
  have HL := Lib.hid hl
  have HT := Lib.hid ht
  have HOK := Lib.hid ok
  have hil : i < x.rels.length := by
    rcases Nat.lt_or_ge i x.rels.length with h | h
    · exact h
    · rw [List.getElem?_eq_none h] at hr; cases hr
  have hre : x.rels[i] = r := by rw [List.getElem?_eq_getElem hil] at hr; injection hr
  have HRE := Lib.hid hre
  obtain ⟨rn, cs⟩ := r
  have hcl : cs.length ≤ 12 := by
    have hm := List.getElem_mem hil
    rw [hre] at hm
    rcases asc_len (k := 0) (n := x.atts.length) (ok.ra _ hm) (ok.ri _ hm) with h1 | h1
    · simp only at h1; rw [h1]; simp
    · have := ok.a12; simp only at h1; omega
  have HRI : Hid (∀ a ∈ cs, 0 ≤ a ∧ a < x.atts.length) := by
    have hm := List.getElem_mem hil
    rw [hre] at hm
    exact ok.ri _ hm
  simp only at HT
  have hlen := ht.len
  have r6 := ok.r6
  obtain ⟨RN, hRN⟩ : ∃ RN, x.rels.length = RN := ⟨_, rfl⟩
  have HRN := Lib.hid hRN
  have hiN : i < RN := by omega
  rw [hRN] at hd1 HR r6 CH HV ⊢
  obtain ⟨AN, hAN⟩ : ∃ AN, x.atts.length = AN := ⟨_, rfl⟩
  have HAN := Lib.hid hAN
  rw [hAN] at ha1 HA CH HV HRI ⊢
  clear hRN ha hrl hf ok hAN hl ht hre hr
  obtain ⟨gr, orr, Bi, mi, di, hB, hgr, hp1, hp2, hIL⟩ := RlL.get HR.out hil
  rw [HRE.out] at hp1 hIL
  subst hB
  obtain ⟨hmi, hmi1, hmi2⟩ := cap_le hIL
  have HIL := Lib.hid hIL
  simp only at hp1 hp2 hmi HIL
  subst hmi
  clear hIL
  go_enter Tryz.func37, Tryz.ntmps37
  go_upto_region 1 with fail
  refine box1 (P := fun W => Code.wp _ _ _ _ W) fun W HX BX => ?_
  have CH1 := Lib.hid (CH.out W HX.out)
  obtain ⟨s0, s1, s2, s3⟩ := BX.out.four
  go_wp2_with fail
  refine CH1.out.mono ?_
  rintro e1 w1 ⟨rfl, hx1⟩
  have BX1 := Lib.hid (BX.out.ext hx1)
  have HX1 := Lib.hid (HX.out.trans hx1)
  have hp1 := (HX1.out.cell (p := ⟨gr, orr + i * 2, none⟩) hgr).trans hp1
  have hp2 := (HX1.out.cell (p := ⟨gr, orr + i * 2 + 1, none⟩) hgr).trans hp2
  have hgr1 := Nat.lt_of_lt_of_le hgr HX1.out.size
  clear s0 s1 s2 s3 CH CH1 BX HX hx1 hgr
  obtain ⟨s0, s1, s2, s3⟩ := BX1.out.four
  have hbx := BX1.out.lt
  have d1 : decide ((i : Int) < 0) = false := decide_eq_false (by omega)
  have d2 : decide (RN ≤ i) = false := decide_eq_false (by omega)
  have d3 : decide (most < l.length) = false := decide_eq_false (by omega)
  generalize hbs : w.heap.size = bs at *
  go_upto_region 8 with fail
  refine box1 (P := fun W => Code.wp _ _ _ _ W) fun W2 HX2 BR => ?_
  have BX2 := Lib.hid (BX1.out.ext HX2.out)
  have HX3 := Lib.hid (HX1.out.trans HX2.out)
  have hrx := BR.out.lt
  clear s0 s1 s2 s3 d1 d2 d3 HX1 HX2 BX1 hp1 hp2
  generalize w1.heap.size = br at *
  go_upto_region 9 with fail
  go_loopw [42] (fun v42 wr => ∃ k : Nat, k ≤ l.length ∧ v42 = .int .i64 k ∧ Hid (Ext W2 wr)) (fun v42 _ => l.length - (RowKit.intOf v42).toNat)
  case atStart => exact ⟨0, Nat.zero_le _, rfl, Ext.refl _⟩
  case round =>
    obtain ⟨k, hk, rfl, HXr⟩ := hrel
    by_cases hkl : k < l.length
    · have HE := Lib.hid (HX3.out.trans HXr.out)
      obtain ⟨gl, ol, Bk, dk, hA0, hgl, hp1, hp2, HTk⟩ := RwL.get (RwL.ext HL.out HE.out) hkl
      have HPL : Hid (∀ w', Ext w w' → ∀ q (hq : q < l.length), ∃ Bq dq, gl < w'.heap.size ∧ w'.cell? ⟨gl, ol + q * 2, none⟩ = some (.slice Bq l[q].1.length dq) ∧ Hid (TL w' (.slice Bq l[q].1.length dq) l[q].1)) := fun w' hx q hq => by
        obtain ⟨g', o', Bq, dq, e', hg', h1, _, h2⟩ := RwL.get (RwL.ext HL.out hx) hq
        rw [hA0] at e'
        injection e' with e'
        injection e' with e1 e2
        subst e1 e2
        exact ⟨Bq, dq, hg', h1, h2⟩
      subst hA0
      have HVk := Lib.hid (HT.out.val _ (List.getElem_mem hkl))
      obtain ⟨hw1, hw2⟩ := HT.out.wt _ (List.getElem_mem hkl)
      have HLT : Hid (∀ q (hq : q + 1 < l.length), ltT l[q].1 l[q + 1].1 = true) := fun q hq => HT.out.lt hq
      obtain ⟨y, hy⟩ : ∃ y, y = l[k] := ⟨_, rfl⟩
      have HY := Lib.hid hy
      rw [← hy] at hp1 hp2 HTk HVk hw1 hw2
      clear hy
      obtain ⟨yv, yw⟩ := y
      simp only at hp1 hp2 HTk HVk hw1 hw2
      have hvl : yv.length = cs.length := HVk.out.1
      have HVL := Lib.hid hvl
      rw [hvl] at hp1 HTk
      clear hvl
      go_upto_region 11 with fail
      refine box1 (P := fun W => Code.wp _ _ _ _ W) fun W4 HX4 BY => ?_
      have HE4 := Lib.hid (HE.out.trans HX4.out)
      have HXr4 := Lib.hid (HXr.out.trans HX4.out)
      have HTk4 := Lib.hid (TL.ext HTk.out HX4.out)
      have hwr : W2.heap.size ≤ wr.heap.size := HXr.out.size
      have hyx := BY.out.lt
      have BR4 := Lib.hid (BR.out.ext HXr4.out)
      have BX4 := Lib.hid (BX2.out.ext HXr4.out)
      obtain ⟨y0, y1⟩ := BY.out.two
      obtain ⟨r0, r1⟩ := BR4.out.two
      obtain ⟨s0, s1, s2, s3⟩ := BX4.out.four
      have JV := Lib.hid (jvalue_any _ x rn Bi cs.length di cs Bk cs.length dk yv yw W4 (HV.out.ext HE4.out) HOKS.out (IL.ext HIL.out HE4.out) HTk4.out (by rw [HAN.out]; exact HRI.out) HVk.out)
      clear hp1 hp2 HTk HX4 HXr hgl
      go_wp2_with fail
      refine JV.out.mono ?_
      rintro e7 w7 ⟨rfl, hx7⟩
      have HXn := Lib.hid (HXr4.out.trans hx7)
      have HEn := Lib.hid (HE4.out.trans hx7)
      have HTn := Lib.hid (TL.ext HTk4.out hx7)
      have BYj := Lib.hid (BY.out.ext hx7)
      clear y0 y1 r0 r1 s0 s1 s2 s3 JV BY BR4 BX4 HTk4 HE4 HXr4
      obtain ⟨y0, y1⟩ := BYj.out.two
      have w1 : decide (yw < low) = false := decide_eq_false (by omega)
      have w2 : decide (yw > 100) = false := decide_eq_false (by omega)
      have w3 : (yw == 0) = false := by rw [beq_eq_false_iff_ne]; omega
      cases k with
      | zero =>
        go_wp2_with fail
        go_quiet (fail)
        go_wp2
        go_roundw
        case rel => exact ⟨1, by omega, by go_num, HXn.out.drewN _⟩
        case measure => simp [RowKit.intOf]; omega
      | succ q =>
        obtain ⟨Bq, dq, hgq, hcq, HTq⟩ := HPL.out w7 HEn.out q (by omega)
        have HLq := Lib.hid (HLT.out q (by omega))
        rw [← HY.out] at HLq
        simp only at HLq
        generalize l[q] = z at *
        have HLS : Hid (∀ n, Calls Tryz.prog 45 #[.slice Bq z.1.length dq, .slice Bk cs.length dk] (w7.drewN n) fun e w' => e = .returned (.bool true) ∧ ∃ m, w' = w7.drewN m) := fun n => by
          refine (jless_any _ _ _ _ _ _ z.1 yv _ (TL.ext HTq.out ((Ext.refl w7).drewN n)) (TL.ext HTn.out ((Ext.refl w7).drewN n))).mono ?_
          rintro e w' ⟨h1, rfl⟩
          rw [HLq.out] at h1
          exact ⟨h1, _, rfl⟩
        have k1 : decide (((q + 1 : Nat) : Int) > 0) = true := decide_eq_true (by omega)
        go_upto_region 17 with fail
        go_quiet ((go_at_call 45; exact HLS.out _))
        go_wp2
        go_roundw
        case rel => exact ⟨q + 2, by omega, by go_num, HXn.out.drewN _⟩
        case measure => simp [RowKit.intOf]; omega
    · have hke : k = l.length := by omega
      have d1 : decide ((k : Int) < (l.length : Int)) = false := decide_eq_false (by omega)
      clear hke
      go_wp2
      go_ret
      exact ⟨rfl, HX3.out.trans HXr.out⟩
set_option maxRecDepth 100000 in
set_option maxHeartbeats 1000000 in
theorem jtab_any (v : Value) (x : Sch) (i : Nat) (A0 : Option Addr) (n0 c0 : Nat) (l : List Rw) (r : Rl) (w : World) (h : SchV w v x) (ok : SchOk x) (hl : RwL w (.slice A0 n0 c0) l) (hr : x.rels[i]? = some r) (ht : TabOk x r.2 l) :
    Calls Tryz.prog 30 #[v, .int .i64 i, .slice A0 n0 c0] w fun e w' => e = .returned (.int .i64 0) ∧ Ext w w' := by
  have CH := Lib.hid (fun w' (hx : Ext w w') => jrows_any v x i A0 n0 c0 l r 1 60 w' (h.ext hx) ok (RwL.ext hl hx) hr ht (by decide) (by decide))
  obtain ⟨A, c, B, d, Dd, e, rfl, ha, hrl, hf⟩ := h
  clear hl ht hr ha hrl hf ok
  generalize x.atts.length = AN at *
  generalize x.rels.length = RN at *
  generalize x.feats.length = FN at *
  go_enter Tryz.func30, Tryz.ntmps30
  go_upto_region 1 with fail
  refine box1 (P := fun W => Code.wp _ _ _ _ W) fun W HX BX => ?_
  have CH1 := Lib.hid (CH.out W HX.out)
  obtain ⟨s0, s1, s2, s3⟩ := BX.out.four
  go_wp2_with fail
  refine CH1.out.mono ?_
  rintro e1 w1 ⟨rfl, hx1⟩
  go_wp2
  go_ret
  exact ⟨rfl, HX.out.trans hx1⟩
set_option maxRecDepth 100000 in
set_option maxHeartbeats 2000000 in
theorem jdb_any (v : Value) (x : Sch) (A0 : Option Addr) (n0 c0 : Nat) (D : List (List Rw)) (w : World) (h : SchV w v x) (ok : SchOk x) (hl : DbL w (.slice A0 n0 c0) D) (hD : DbOk x D) :
    Calls Tryz.prog 22 #[v, .slice A0 n0 c0] w fun e w' => e = .returned (.int .i64 0) ∧ Ext w w' := by
  have CH := Lib.hid (fun w' (hx : Ext w w') => check_any v x w' (h.ext hx) ok)
  have CT := Lib.hid (fun w' (hx : Ext w w') (i : Nat) (B0 : Option Addr) (m0 d0 : Nat) (l : List Rw) (r : Rl) (hl : RwL w' (.slice B0 m0 d0) l) (hr : x.rels[i]? = some r) (ht : TabOk x r.2 l) => jtab_any v x i B0 m0 d0 l r w' (h.ext hx) ok hl hr ht)
  obtain ⟨hn0, hnc0, hcm0⟩ := cap_le hl
  subst hn0
  have HL := Lib.hid hl
  have HD := Lib.hid hD.2
  have r6 := ok.r6
  obtain ⟨A, c, B, d, Dd, e, rfl, ha, hrl, hf⟩ := h
  obtain ⟨-, hd1, hd2⟩ := cap_le hrl
  have hDl := hD.1
  have HDl := Lib.hid hDl
  rw [← hDl] at CH CT r6 hd1 ⊢
  clear hl ha hrl hf ok hD hDl
  generalize x.atts.length = AN at *
  generalize x.feats.length = FN at *
  go_enter Tryz.func22, Tryz.ntmps22
  go_upto_region 1 with fail
  refine box1 (P := fun W => Code.wp _ _ _ _ W) fun W HX BX => ?_
  have CH1 := Lib.hid (CH.out W HX.out)
  obtain ⟨s0, s1, s2, s3⟩ := BX.out.four
  go_wp2_with fail
  refine CH1.out.mono ?_
  rintro e1 w1 ⟨rfl, hx1⟩
  have BX1 := Lib.hid (BX.out.ext hx1)
  have HX1 := Lib.hid (HX.out.trans hx1)
  clear s0 s1 s2 s3 CH CH1 BX HX hx1
  obtain ⟨s0, s1, s2, s3⟩ := BX1.out.four
  go_upto_region 7 with fail
  clear s0 s1 s2 s3
  go_loopw [22] (fun v22 wr => ∃ k : Nat, k ≤ D.length ∧ v22 = .int .i64 k ∧ Hid (Ext w1 wr)) (fun v22 _ => D.length - (RowKit.intOf v22).toNat)
  case atStart => exact ⟨0, Nat.zero_le _, rfl, Ext.refl _⟩
  case round =>
    obtain ⟨k, hk, rfl, HXr⟩ := hrel
    by_cases hkl : k < D.length
    · have HE := Lib.hid (HX1.out.trans HXr.out)
      obtain ⟨g0, o0, Bk, dk, rfl, hg0, HLk, hck⟩ := DbL.get (DbL.ext HL.out HE.out) hkl
      have hkr : k < x.rels.length := by rw [← HDl.out]; exact hkl
      have HTk := Lib.hid (HD.out k _ _ (List.getElem?_eq_getElem hkl) (List.getElem?_eq_getElem hkr))
      have HRr : Hid (x.rels[k]? = some x.rels[k]) := List.getElem?_eq_getElem hkr
      have BXr := Lib.hid (BX1.out.ext HXr.out)
      generalize x.rels[k] = r at *
      generalize D[k] = t at *
      have RV := Lib.hid (CT.out wr HE.out k Bk t.length dk t r HLk.out HRr.out HTk.out)
      obtain ⟨s0, s1, s2, s3⟩ := BXr.out.four
      go_wp2_with fail
      refine RV.out.mono ?_
      rintro e7 w7 ⟨rfl, hx7⟩
      have HXn := Lib.hid (HXr.out.trans hx7)
      clear s0 s1 s2 s3 BXr HXr RV hck
      go_wp2_with fail
      go_roundw
      case rel => exact ⟨k + 1, by omega, by go_num, HXn⟩
      case measure => simp [RowKit.intOf]; omega
    · have d1 : decide ((k : Int) < (D.length : Int)) = false := decide_eq_false (by omega)
      go_wp2
      go_ret
      exact ⟨rfl, HX1.out.trans HXr.out⟩
end Go.Proofs.YthalpbjkkfkheaaGreatDoor
