/- joinlearnref06: table, Table, Check at valid databases. -/
import Derived.Test.YthalpbjkkfkheaaGreatDoorDbLaw
namespace Go.Proofs.YthalpbjkkfkheaaGreatDoor
open Go.RowKit Go.Lib

theorem TabOk.lt {x : Sch} {cs : List Int} {l : List Rw} (h : TabOk x cs l) {i : Nat} (hi : i + 1 < l.length) : ltT l[i].1 l[i + 1].1 = true := (List.pairwise_iff_getElem.1 h.ord) i (i + 1) (by omega) hi (by omega)
set_option maxRecDepth 100000 in
set_option maxHeartbeats 4000000 in
theorem rtable_any (v : Value) (x : Sch) (i : Nat) (A0 : Option Addr) (n0 c0 : Nat) (l : List Rw) (r : Rl) (low : Int) (most : Nat) (w : World) (h : SchV w v x) (ok : SchOk x) (hl : RwL w (.slice A0 n0 c0) l) (hr : x.rels[i]? = some r) (ht : TabOk x r.2 l) (hlow : low ≤ 1) (hmost : 60 ≤ most) :
    Calls Tryz.prog 32 #[v, .int .i64 i, .slice A0 n0 c0, .int .i64 low, .int .i64 most] w fun e w' => e = .returned (.int .i64 0) ∧ Ext w w' := by
  have CH := Lib.hid (fun w' (hx : Ext w w') => rcheck_any v x w' (h.ext hx) ok)
  have HV := Lib.hid h
  obtain ⟨A, c, B, d, Dd, e, rfl, ha, hrl, hf⟩ := h
  obtain ⟨-, ha1, ha2⟩ := cap_le ha
  obtain ⟨-, hd1, hd2⟩ := cap_le hrl
  obtain ⟨hn0, hnc0, hcm0⟩ := cap_le hl
  subst hn0
  have HA := Lib.hid ha
  have HR := Lib.hid hrl
  have HL := Lib.hid hl
  have HT := Lib.hid ht
  have HOK := Lib.hid ok
  have hil : i < x.rels.length := by
    rcases Nat.lt_or_ge i x.rels.length with h | h
    · exact h
    · rw [List.getElem?_eq_none h] at hr; cases hr
  have hre : x.rels[i] = r := by rw [List.getElem?_eq_getElem hil] at hr; injection hr
  have HRE := Lib.hid hre
  obtain ⟨rn, cs⟩ := r
  have hcl : cs.length ≤ 12 := by
    have hm := List.getElem_mem hil
    rw [hre] at hm
    rcases asc_len (k := 0) (n := x.atts.length) (ok.ra _ hm) (ok.ri _ hm) with h1 | h1
    · simp only at h1; rw [h1]; simp
    · have := ok.a12; simp only at h1; omega
  have HRI : Hid (∀ a ∈ cs, 0 ≤ a ∧ a < x.atts.length) := by
    have hm := List.getElem_mem hil
    rw [hre] at hm
    exact ok.ri _ hm
  simp only at HT
  have hlen := ht.len
  have r6 := ok.r6
  obtain ⟨RN, hRN⟩ : ∃ RN, x.rels.length = RN := ⟨_, rfl⟩
  have HRN := Lib.hid hRN
  have hiN : i < RN := by omega
  rw [hRN] at hd1 HR r6 CH HV ⊢
  obtain ⟨AN, hAN⟩ : ∃ AN, x.atts.length = AN := ⟨_, rfl⟩
  have HAN := Lib.hid hAN
  rw [hAN] at ha1 HA CH HV HRI ⊢
  clear hRN ha hrl hf ok hAN hl ht hre hr
  obtain ⟨gr, orr, Bi, mi, di, hB, hgr, hp1, hp2, hIL⟩ := RlL.get HR.out hil
  rw [HRE.out] at hp1 hIL
  subst hB
  obtain ⟨hmi, hmi1, hmi2⟩ := cap_le hIL
  have HIL := Lib.hid hIL
  simp only at hp1 hp2 hmi HIL
  subst hmi
  clear hIL
  go_enter Tryz.func32, Tryz.ntmps32
  go_upto_region 1 with fail
  refine box1 (P := fun W => Code.wp _ _ _ _ W) fun W HX BX => ?_
  have CH1 := Lib.hid (CH.out W HX.out)
  obtain ⟨s0, s1, s2, s3⟩ := BX.out.four
  go_wp2_with fail
  refine CH1.out.mono ?_
  rintro e1 w1 ⟨rfl, hx1⟩
  have BX1 := Lib.hid (BX.out.ext hx1)
  have HX1 := Lib.hid (HX.out.trans hx1)
  have hp1 := (HX1.out.cell (p := ⟨gr, orr + i * 2, none⟩) hgr).trans hp1
  have hp2 := (HX1.out.cell (p := ⟨gr, orr + i * 2 + 1, none⟩) hgr).trans hp2
  have hgr1 := Nat.lt_of_lt_of_le hgr HX1.out.size
  clear s0 s1 s2 s3 CH CH1 BX HX hx1 hgr
  obtain ⟨s0, s1, s2, s3⟩ := BX1.out.four
  have hbx := BX1.out.lt
  have d1 : decide ((i : Int) < 0) = false := decide_eq_false (by omega)
  have d2 : decide (RN ≤ i) = false := decide_eq_false (by omega)
  have d3 : decide (most < l.length) = false := decide_eq_false (by omega)
  generalize hbs : w.heap.size = bs at *
  go_upto_region 9 with fail
  refine box1 (P := fun W => Code.wp _ _ _ _ W) fun W2 HX2 BR => ?_
  have BX2 := Lib.hid (BX1.out.ext HX2.out)
  have HX3 := Lib.hid (HX1.out.trans HX2.out)
  have hrx := BR.out.lt
  clear s0 s1 s2 s3 d1 d2 d3 HX1 HX2 BX1 hp1 hp2
  generalize w1.heap.size = br at *
  go_upto_region 10 with fail
  go_loopw [42] (fun v42 wr => ∃ k : Nat, k ≤ l.length ∧ v42 = .int .i64 k ∧ Hid (Ext W2 wr)) (fun v42 _ => l.length - (RowKit.intOf v42).toNat)
  case atStart => exact ⟨0, Nat.zero_le _, rfl, Ext.refl _⟩
  case round =>
    obtain ⟨k, hk, rfl, HXr⟩ := hrel
    by_cases hkl : k < l.length
    · have HE := Lib.hid (HX3.out.trans HXr.out)
      obtain ⟨gl, ol, Bk, dk, hA0, hgl, hp1, hp2, HTk⟩ := RwL.get (RwL.ext HL.out HE.out) hkl
      have HPL : Hid (∀ w', Ext w w' → ∀ q (hq : q < l.length), ∃ Bq dq, gl < w'.heap.size ∧ w'.cell? ⟨gl, ol + q * 2, none⟩ = some (.slice Bq l[q].1.length dq) ∧ Hid (TL w' (.slice Bq l[q].1.length dq) l[q].1)) := fun w' hx q hq => by
        obtain ⟨g', o', Bq, dq, e', hg', h1, _, h2⟩ := RwL.get (RwL.ext HL.out hx) hq
        rw [hA0] at e'
        injection e' with e'
        injection e' with e1 e2
        subst e1 e2
        exact ⟨Bq, dq, hg', h1, h2⟩
      subst hA0
      have HVk := Lib.hid (HT.out.val _ (List.getElem_mem hkl))
      obtain ⟨hw1, hw2⟩ := HT.out.wt _ (List.getElem_mem hkl)
      have HLT : Hid (∀ q (hq : q + 1 < l.length), ltT l[q].1 l[q + 1].1 = true) := fun q hq => HT.out.lt hq
      obtain ⟨y, hy⟩ : ∃ y, y = l[k] := ⟨_, rfl⟩
      have HY := Lib.hid hy
      rw [← hy] at hp1 hp2 HTk HVk hw1 hw2
      clear hy
      obtain ⟨yv, yw⟩ := y
      simp only at hp1 hp2 HTk HVk hw1 hw2
      have hvl : yv.length = cs.length := HVk.out.1
      have HVL := Lib.hid hvl
      rw [hvl] at hp1 HTk
      clear hvl
      go_upto_region 12 with fail
      refine box1 (P := fun W => Code.wp _ _ _ _ W) fun W4 HX4 BY => ?_
      have HE4 := Lib.hid (HE.out.trans HX4.out)
      have HXr4 := Lib.hid (HXr.out.trans HX4.out)
      have HTk4 := Lib.hid (TL.ext HTk.out HX4.out)
      have hwr : W2.heap.size ≤ wr.heap.size := HXr.out.size
      have hyx := BY.out.lt
      generalize hby : wr.heap.size = by' at *
      have BR4 := Lib.hid (BR.out.ext HXr4.out)
      have BX4 := Lib.hid (BX2.out.ext HXr4.out)
      obtain ⟨y0, y1⟩ := BY.out.two
      obtain ⟨r0, r1⟩ := BR4.out.two
      clear hp1 hp2 HTk HX4 HXr hgl
      go_upto_region 15 with fail
      clear y0 y1 r0 r1
      go_loopw [15, 16, 57] (fun _ _ v57 wr => ∃ j : Nat, j ≤ cs.length ∧ v57 = .int .i64 j ∧ Hid (Ext W4 wr)) (fun _ _ v57 _ => cs.length - (RowKit.intOf v57).toNat)
      case atStart => exact ⟨0, Nat.zero_le _, rfl, Ext.refl _⟩
      case round =>
        obtain ⟨j, hj, rfl, HXj⟩ := hrel
        by_cases hjc : j < cs.length
        · have hjv : j < yv.length := by rw [HVL.out]; exact hjc
          have HEj := Lib.hid (HE4.out.trans HXj.out)
          obtain ⟨gv, ov, rfl, hgv, hcv⟩ := TL.get (TL.ext HTk4.out HXj.out) hjv
          obtain ⟨gi, oi, hBi, hgi, hci⟩ := IL.get (IL.ext HIL.out HEj.out) hjc
          have hain := HRI.out _ (List.getElem_mem hjc)
          have HVT : Hid (ValT (kd x cs[j]) yv[j]) := HVk.out.2 j _ _ (List.getElem?_eq_getElem hjc) (List.getElem?_eq_getElem hjv)
          generalize cs[j] = a at *
          generalize yv[j] = t at *
          obtain ⟨an, rfl⟩ : ∃ an : Nat, a = an := ⟨a.toNat, by omega⟩
          have hanN : an < AN := by omega
          have hanl : an < x.atts.length := by rw [HAN.out]; exact hanN
          obtain ⟨ga, oa, hAA, hga, hc0, hc1⟩ := AL.get (Ls.ext AttR.stab HA.out HEj.out) hanl
          have hkk := HOK.out.ak _ (List.getElem_mem hanl)
          have HKD : Hid (kd x an = x.atts[an].2) := by unfold kd; simp [Hid, hanl]
          rw [HKD.out] at HVT
          generalize x.atts[an] = att at *
          obtain ⟨nm, ak⟩ := att
          simp only at hc0 hc1 hkk HVT
          subst hBi hAA
          have RV := Lib.hid (fun w' => rval_any nm t ak w' hkk HVT.out)
          have BRj := Lib.hid (BR4.out.ext HXj.out)
          have BXj := Lib.hid (BX4.out.ext HXj.out)
          clear HVT HKD hkk
          go_upto_region 17 with fail
          have HSI : Hid (∀ w', Ext wr w' → w'.cell? ⟨bs, 0, none⟩ = some (.slice (some ⟨ga, oa, none⟩) AN c) ∧ w'.cell? ⟨br, 1, none⟩ = some (.slice (some ⟨gi, oi, none⟩) cs.length di) ∧ w'.cell? ⟨gi, oi + j, none⟩ = some (.int .i64 an) ∧ w'.cell? ⟨ga, oa + an * 2, none⟩ = some (.string ⟨nm.toArray⟩) ∧ w'.cell? ⟨ga, oa + an * 2 + 1, none⟩ = some (.int .i64 ak)) := fun w' hx => ⟨(BXj.out.ext hx).cell (i := 0) rfl, (BRj.out.ext hx).cell (i := 1) rfl, (hx.cell (p := ⟨gi, oi + j, none⟩) hgi).trans hci, (hx.cell (p := ⟨ga, oa + an * 2, none⟩) hga).trans hc0, (hx.cell (p := ⟨ga, oa + an * 2 + 1, none⟩) hga).trans hc1⟩
          have HS0 : Hid (Ext wr wr.drew) := (Ext.refl wr).drew
          clear hcv hci hc0 hc1 BRj BXj
          refine AnyT.start (S := fun w' => Ext wr w') (T := fun _ => false) (by kernel_rfl) ?_
          generalize wr.drew = wd at *
          refine AnyT.ld 0 62 ?_ _ rfl rfl (by kernel_rfl) (fun _ _ _ h => h) HS0.out rfl ?_ ?_
          rotate_left
          focus (intro w' hSw; have hs := HSI.out w' hSw; go_split_ands; go_simp; try (first | exact rfl | omega | go_num | (intro hbd; exfalso; omega)))
          simp only [Act.put, List.setIfInBounds_toArray, List.set_cons_zero, List.set_cons_succ]
          refine AnyT.ld 1 63 ?_ _ rfl rfl (by kernel_rfl) (fun _ _ _ h => h) HS0.out rfl ?_ ?_
          rotate_left
          focus (intro w' hSw; have hs := HSI.out w' hSw; go_split_ands; go_simp; try (first | exact rfl | omega | go_num | (intro hbd; exfalso; omega)))
          simp only [Act.put, List.setIfInBounds_toArray, List.set_cons_zero, List.set_cons_succ]
          refine AnyT.ld 2 64 ?_ _ rfl rfl (by kernel_rfl) (fun _ _ _ h => h) HS0.out rfl ?_ ?_
          rotate_left
          focus (intro w' hSw; have hs := HSI.out w' hSw; go_split_ands; go_simp; try (first | exact rfl | omega | go_num | (intro hbd; exfalso; omega)))
          simp only [Act.put, List.setIfInBounds_toArray, List.set_cons_zero, List.set_cons_succ]
          refine AnyT.ld 3 65 ?_ _ rfl rfl (by kernel_rfl) (fun _ _ _ h => h) HS0.out rfl ?_ ?_
          rotate_left
          focus (intro w' hSw; have hs := HSI.out w' hSw; go_split_ands; go_simp; try (first | exact rfl | omega | go_num | (intro hbd; exfalso; omega)))
          simp only [Act.put, List.setIfInBounds_toArray, List.set_cons_zero, List.set_cons_succ]
          refine AnyT.ld 4 66 ?_ _ rfl rfl (by kernel_rfl) (fun _ _ _ h => h) HS0.out rfl ?_ ?_
          rotate_left
          focus (intro w' hSw; have hs := HSI.out w' hSw; go_split_ands; go_simp; try (first | exact rfl | omega | go_num | (intro hbd; exfalso; omega)))
          simp only [Act.put, List.setIfInBounds_toArray, List.set_cons_zero, List.set_cons_succ]
          refine AnyT.ld 5 67 ?_ _ rfl rfl (by kernel_rfl) (fun _ _ _ h => h) HS0.out rfl ?_ ?_
          rotate_left
          focus (intro w' hSw; have hs := HSI.out w' hSw; go_split_ands; go_simp; try (first | exact rfl | omega | go_num | (intro hbd; exfalso; omega)))
          simp only [Act.put, List.setIfInBounds_toArray, List.set_cons_zero, List.set_cons_succ]
          refine AnyT.ld 6 68 ?_ _ rfl rfl (by kernel_rfl) (fun _ _ _ h => h) HS0.out rfl ?_ ?_
          rotate_left
          focus (intro w' hSw; have hs := HSI.out w' hSw; go_split_ands; go_simp; try (first | exact rfl | omega | go_num | (intro hbd; exfalso; omega)))
          simp only [Act.put, List.setIfInBounds_toArray, List.set_cons_zero, List.set_cons_succ]
          refine AnyT.ld 7 69 ?_ _ rfl rfl (by kernel_rfl) (fun _ _ _ h => h) HS0.out rfl ?_ ?_
          rotate_left
          focus (intro w' hSw; have hs := HSI.out w' hSw; go_split_ands; go_simp; try (first | exact rfl | omega | go_num | (intro hbd; exfalso; omega)))
          simp only [Act.put, List.setIfInBounds_toArray, List.set_cons_zero, List.set_cons_succ]
          refine AnyT.ld 8 70 ?_ _ rfl rfl (by kernel_rfl) (fun _ _ _ h => h) HS0.out rfl ?_ ?_
          rotate_left
          focus (intro w' hSw; have hs := HSI.out w' hSw; go_split_ands; go_simp; try (first | exact rfl | omega | go_num | (intro hbd; exfalso; omega)))
          simp only [Act.put, List.setIfInBounds_toArray, List.set_cons_zero, List.set_cons_succ]
          refine AnyT.ld 9 71 ?_ _ rfl rfl (by kernel_rfl) (fun _ _ _ h => h) HS0.out rfl ?_ ?_
          rotate_left
          focus (intro w' hSw; have hs := HSI.out w' hSw; go_split_ands; go_simp; try (first | exact rfl | omega | go_num | (intro hbd; exfalso; omega)))
          simp only [Act.put, List.setIfInBounds_toArray, List.set_cons_zero, List.set_cons_succ]
          refine AnyT.step 10 (by kernel_rfl) ?_
          intro o ho K hK
          simp only [List.getElem?_toArray, List.getElem?_cons_succ, List.getElem?_cons_zero, Option.some.injEq] at ho
          subst ho
          go_simp
          refine (RV.out wd).mono ?_
          rintro e7 w7 ⟨rfl, hx7⟩
          have HS7 := Lib.hid (HS0.out.trans hx7)
          refine hK.out _ _ (fun _ => HS7.out) ?_
          clear hK hx7 HS0 RV
          have HS0 := HS7
          refine AnyT.ld 11 73 ?_ _ rfl rfl (by kernel_rfl) (fun _ _ _ h => h) HS0.out rfl ?_ ?_
          rotate_left
          focus (intro w' hSw; have hs := HSI.out w' hSw; go_split_ands; go_simp; try (first | exact rfl | omega | go_num | (intro hbd; exfalso; omega)))
          simp only [Act.put, List.setIfInBounds_toArray, List.set_cons_zero, List.set_cons_succ]
          refine AnyT.done (by kernel_rfl) ?_
          have HXn := Lib.hid (HXj.out.trans HS0.out)
          clear HSI HS0 HS7 HXj
          go_wp2_with fail
          go_roundw
          case rel => exact ⟨j + 1, by omega, by go_num, HXn⟩
          case measure => simp [RowKit.intOf]; omega
        · have d5 : decide ((j : Int) < (cs.length : Int)) = false := decide_eq_false (by omega)
          have BYj := Lib.hid (BY.out.ext HXj.out)
          obtain ⟨y0, y1⟩ := BYj.out.two
          have w1 : decide (yw < low) = false := decide_eq_false (by omega)
          have w2 : decide (yw > 100) = false := decide_eq_false (by omega)
          have w3 : (yw == 0) = false := by rw [beq_eq_false_iff_ne]; omega
          have HXn := Lib.hid (HXr4.out.trans HXj.out)
          have HEn := Lib.hid (HE4.out.trans HXj.out)
          have HTn := Lib.hid (TL.ext HTk4.out HXj.out)
          cases k with
          | zero =>
            go_wp2_with fail
            go_quiet (fail)
            go_wp2
            go_roundw
            case rel => exact ⟨1, by omega, by go_num, HXn.out.drewN _⟩
            case measure => simp [RowKit.intOf]; omega
          | succ q =>
            obtain ⟨Bq, dq, hgq, hcq, HTq⟩ := HPL.out wr HEn.out q (by omega)
            have HLq := Lib.hid (HLT.out q (by omega))
            rw [← HY.out] at HLq
            simp only at HLq
            generalize l[q] = z at *
            have HLS : Hid (∀ n, Calls Tryz.prog 28 #[.slice Bq z.1.length dq, .slice Bk cs.length dk] (wr.drewN n) fun e w' => e = .returned (.bool true) ∧ ∃ m, w' = wr.drewN m) := fun n => by
              refine (rless_any _ _ _ _ _ _ z.1 yv _ (TL.ext HTq.out ((Ext.refl wr).drewN n)) (TL.ext HTn.out ((Ext.refl wr).drewN n))).mono ?_
              rintro e w' ⟨h1, m, rfl⟩
              rw [HLq.out] at h1
              exact ⟨h1, _, drewN_add _ _ _⟩
            have k1 : decide (((q + 1 : Nat) : Int) > 0) = true := decide_eq_true (by omega)
            go_upto_region 22 with fail
            go_quiet ((go_at_call 28; exact HLS.out _))
            go_wp2
            go_roundw
            case rel => exact ⟨q + 2, by omega, by go_num, HXn.out.drewN _⟩
            case measure => simp [RowKit.intOf]; omega
    · have hke : k = l.length := by omega
      have d1 : decide ((k : Int) < (l.length : Int)) = false := decide_eq_false (by omega)
      clear hke
      go_wp2
      go_ret
      exact ⟨rfl, HX3.out.trans HXr.out⟩
end Go.Proofs.YthalpbjkkfkheaaGreatDoor
