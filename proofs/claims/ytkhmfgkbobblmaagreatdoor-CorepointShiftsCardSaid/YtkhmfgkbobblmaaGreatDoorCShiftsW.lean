/- joinlearnlaw27.CorepointShifts, walked: it returns true. -/
import Derived.Test.YtkhmfgkbobblmaaGreatDoorLineN
import Derived.Test.YtkhmfgkbobblmaaGreatDoorLShf
import Derived.Test.YtkhmfgkbobblmaaGreatDoorTwo
namespace Go.Proofs.YtkhmfgkbobblmaaGreatDoor
open Go.RowKit Go.Lib

theorem shf_next {l : List Ms} {q : Rat} {i : Nat} (h : i < l.length) : shf q (l.take (i + 1)) = shf q (l.take i) ++ [(l[i].1 + q, l[i].2)] := by
  unfold shf
  rw [List.take_succ_eq_append_getElem h, List.map_append]
  rfl
theorem hvy_next {l : List Ms} {q : Rat} {i : Nat} (h : i < l.length) : hvy q (l.take (i + 1)) = hvy q (l.take i) ++ [(l[i].1, l[i].2 * q)] := by
  unfold hvy
  rw [List.take_succ_eq_append_getElem h, List.map_append]
  rfl
set_option maxRecDepth 100000 in
set_option maxHeartbeats 1000000 in
theorem cshifts_walk (t : TypeId) (A : Option Addr) (zs : List Int) (c : Nat) (w : World) (hc : zs.length ≤ c) (hm : c ≤ 9223372036854775807) (hs : Sl w t A (zcells zs)) (hz : ∀ z ∈ zs, -9223372036854775808 ≤ z ∧ z ≤ 9223372036854775807) (ht : Tab w) :
    Calls Tryz.prog 3 #[.slice A zs.length c] w fun e w' => e = .returned (.bool true) ∧ Ext w w' := by
  have HS := Lib.hid hs
  have HZ := Lib.hid hz
  have HT := Lib.hid ht
  clear hs hz ht
  go_enter Tryz.func3, Tryz.ntmps3
  go_wp2_with fail
  refine (light_any A zs.length c w (by omega)).mono ?_
  rintro e w0 ⟨rfl, rfl⟩
  by_cases hl : zs.length ≤ 600
  · have hd : decide (zs.length ≤ 600) = true := decide_eq_true hl
    rw [hd]
    go_wp2_with fail
    refine (mnew_any t A zs c w hc hm hl HS.out HZ.out).mono ?_
    rintro e w1 ⟨rfl, hsrc1, hx1⟩
    clear hd
    go_wp2_with fail
    refine (mmassesT_any w.heap.size 6 w1 hsrc1 (by decide)).mono ?_
    rintro e w2 ⟨Al, cl, l, hl6, hok, hasc, rfl, hml, hs2, ho2⟩
    have HX2 := Lib.hid (hx1.only ho2 (Nat.le_refl _))
    have HMT := Lib.hid hok
    have HAS := Lib.hid hasc
    clear hx1 ho2 hsrc1 hl hok hasc
    go_wp2_with fail
    refine (range_any w.heap.size 1 4 w2 hs2 (by decide) (by decide)).mono ?_
    rintro e w3 ⟨k, hk1, hk4, rfl, hs3, ho3⟩
    have HX3 := Lib.hid (HX2.out.only ho3 (Nat.le_refl _))
    have HML3 : Hid (ML w3 (.slice Al l.length cl) l) := Ls.kept MaR.stab hml (Src.keptA hs2 ho3) (by decide)
    clear ho3 hs2 hml HX2
    go_wp2_with fail
    refine (mratT_any w.heap.size w3 hs3).mono ?_
    rintro e w4 ⟨q, fq, hq12, rfl, hs4, ho4⟩
    have HX4 := Lib.hid (HX3.out.only ho4 (Nat.le_refl _))
    have HML4 : Hid (ML w4 (.slice Al l.length cl) l) := Ls.kept MaR.stab HML3.out (Src.keptA hs3 ho4) (by decide)
    have HQ12 := Lib.hid hq12
    have FQ := Lib.hid fq
    clear ho4 hs3 HML3 HX3 hq12 fq
    generalize htq : ratText q = tq at *
    have HTQ := Lib.hid htq
    clear htq
    go_wp2_with fail
    refine (range_any w.heap.size 1 7 w4 hs4 (by decide) (by decide)).mono ?_
    rintro e w5 ⟨b, hb1, hb7, rfl, hs5, ho5⟩
    have HX5 := Lib.hid (HX4.out.only ho5 (Nat.le_refl _))
    have HML5 : Hid (ML w5 (.slice Al l.length cl) l) := Ls.kept MaR.stab HML4.out (Src.keptA hs4 ho5) (by decide)
    clear ho5 hs4 HML4 HX4
    go_wp2_with fail
    refine (rwhole_any (b : Int) w5 (by omega) (by omega)).mono ?_
    rintro e w6 ⟨rfl, hx6⟩
    have HX6 := Lib.hid (HX5.out.trans hx6)
    have HML := Lib.hid (ML.ext HML5.out hx6)
    obtain ⟨-, -, hcm⟩ := cap_le HML.out
    have OKS := Lib.hid (shf_ok (by omega) HMT.out HQ12.out)
    have OKH := Lib.hid (hvy_ok (k := (b : Int)) (by omega) HMT.out (by omega) (by omega))
    have OK0 : Hid (MsOk l) := ⟨by omega, fun x hx => (HMT.out x hx).g⟩
    have ACS := Lib.hid (shf_asc q HAS.out)
    have ACH := Lib.hid (hvy_asc ((b : Int) : Rat) HAS.out)
    have FB : Hid (FitQ 1 ((b : Int) : Rat)) := ⟨by rw [int_rat_num]; omega, by rw [int_rat_den]; decide⟩
    have HB0 : Hid (0 < ((b : Int) : Rat)) := ratN_pos (by rw [int_rat_num]; omega)
    obtain ⟨bq, hbq⟩ : ∃ bq : Rat, ((b : Int) : Rat) = bq := ⟨_, rfl⟩
    rw [hbq] at OKH ACH FB HB0 ⊢
    obtain ⟨tb, htb⟩ : ∃ tb, ratText bq = tb := ⟨_, rfl⟩
    have HTB := Lib.hid htb
    rw [htb]
    clear htb hbq hx6 HML5 hs5 HX5
    go_wp2_with fail
    go_loopw [8, 9, 11, 12, 13, 14, 15, 47] (fun v8 v9 _ _ _ _ _ v47 wr => ∃ i : Nat, i ≤ l.length ∧ v47 = .int .i64 i ∧ Hid (Two tMass 2 MaR w6 (shf q (l.take i)) (hvy bq (l.take i)) v8 v9 wr)) (fun _ _ _ _ _ _ _ v47 _ => l.length - (RowKit.intOf v47).toNat)
    case atStart => exact ⟨0, Nat.zero_le _, rfl, Two.start w6⟩
    case round =>
      obtain ⟨i, hi, rfl, HTW⟩ := hrel
      have PA : Hid ((shf q (l.take i)).length = i) := by rw [Hid, shf_length, List.length_take, Nat.min_eq_left hi]
      have PB : Hid ((hvy bq (l.take i)).length = i) := by rw [Hid, hvy_length, List.length_take, Nat.min_eq_left hi]
      obtain ⟨A8, c8, xs8, rfl, _, _, _, _⟩ := HTW.out.oA.parts
      obtain ⟨A9, c9, xs9, rfl, _, _, _, _⟩ := HTW.out.oB.parts
      rw [PA.out, PB.out] at HTW ⊢
      by_cases hil : i < l.length
      · obtain ⟨g1, o1, rfl, hg1, hp1, hp2⟩ := ML.get (ML.ext HML.out HTW.out.hx) hil
        have HN1 := Lib.hid (shf_next (q := q) hil)
        have HN2 := Lib.hid (hvy_next (q := bq) hil)
        have hmt := HMT.out _ (List.getElem_mem hil)
        have FV : FitQ 4 l[i].1 := hmt.g.val.1.fit (by decide) (by decide) (by decide)
        have FW : FitQ 4 l[i].2 := hmt.g.val.2.fit (by decide) (by decide) (by decide)
        have RA : Hid (∀ w', Calls Tryz.prog 14 #[.string ⟨(ratText l[i].1).toArray⟩, .string ⟨tq.toArray⟩] w' fun e w'' => e = .returned (.tuple #[.string ⟨(ratText (l[i].1 + q)).toArray⟩, .int .i64 0]) ∧ Ext w' w'') := fun w' => by
          have h := r2add_any l[i].1 q w' (FV.mono (by decide)) (FQ.out.mono (by decide)) ((FV.add FQ.out).mono (by decide))
          rw [HTQ.out] at h
          exact h
        have RM : Hid (∀ w', Calls Tryz.prog 15 #[.string ⟨(ratText l[i].2).toArray⟩, .string ⟨tb.toArray⟩] w' fun e w'' => e = .returned (.tuple #[.string ⟨(ratText (l[i].2 * bq)).toArray⟩, .int .i64 0]) ∧ Ext w' w'') := fun w' => by
          have h := r2mul_any l[i].2 bq w' (FW.mono (by decide)) (FB.out.mono (by decide)) ((FW.mul FB.out).mono (by decide))
          rw [HTB.out] at h
          exact h
        clear hmt FV FW
        generalize l[i] = x at *
        obtain ⟨xv, xw⟩ := x
        simp only at HN1 HN2 RA RM hp1 hp2
        generalize htv : ratText xv = tv at *
        generalize htw : ratText xw = tw at *
        generalize hta : ratText (xv + q) = ta at *
        generalize htm : ratText (xw * bq) = tm at *
        have HTV := Lib.hid htv
        have HTWt := Lib.hid htw
        have HTA := Lib.hid hta
        have HTM := Lib.hid htm
        clear htv htw hta htm
        go_upto_region 10 with fail
        refine box1 (P := fun W => Code.wp _ _ _ _ W) fun W2 HX2 BX => ?_
        obtain ⟨j0, j1⟩ := BX.out.two
        have BXO := Lib.hid (HTW.out.new BX.out)
        have HTW := Lib.hid (HTW.out.ext MaR.stab HX2.out)
        clear hp1 hp2
        go_wp2_with fail
        refine (RA.out W2).mono ?_
        rintro e w7 ⟨rfl, hx7⟩
        have BX7 := Lib.hid (BX.out.ext hx7)
        have BXO := Lib.hid (BXO.out.ext hx7)
        have HTW := Lib.hid (HTW.out.ext MaR.stab hx7)
        clear j0 j1 hx7
        obtain ⟨j0, j1⟩ := BX7.out.two
        go_wp2_with fail
        refine (RM.out w7).mono ?_
        rintro e w8 ⟨rfl, hx8⟩
        have BX8 := Lib.hid (BX7.out.ext hx8)
        have BXO := Lib.hid (BXO.out.ext hx8)
        have HTW := Lib.hid (HTW.out.ext MaR.stab hx8)
        clear j0 j1 hx8
        go_upto_region 12 with fail
        obtain ⟨S, hSd⟩ : ∃ S : World → Prop, S = fun w' => (w'.cell? ⟨wr.heap.size, 0, none⟩ = some (.string ⟨tv.toArray⟩) ∧ w'.cell? ⟨wr.heap.size, 1, none⟩ = some (.string ⟨tw.toArray⟩)) := ⟨_, rfl⟩
        have HSI : Hid (∀ w', S w' → (w'.cell? ⟨wr.heap.size, 0, none⟩ = some (.string ⟨tv.toArray⟩) ∧ w'.cell? ⟨wr.heap.size, 1, none⟩ = some (.string ⟨tw.toArray⟩))) := by rw [Hid, hSd]; exact fun _ h => h
        have HSE : Hid (∀ w', Blk w' wr.heap.size tMass [.string ⟨tv.toArray⟩, .string ⟨tw.toArray⟩] → S w') := by rw [Hid, hSd]; exact fun w' h => h.two
        have HS0 : Hid (S w8.drew) := HSE.out _ BX8.out
        have BXO := Lib.hid (BXO.out.ext (Ext.refl w8).drew)
        have HTW := Lib.hid (HTW.out.ext MaR.stab (Ext.refl w8).drew)
        have hbt : (i + 1) * 32 ≤ 140737488355328 := by omega
        clear hSd BX BX7 BX8
        refine AnyT.start (S := S) (T := fun _ => false) (by kernel_rfl) ?_
        generalize w8.drew = wd at *
        refine AnyT.loadD 0 65 ?_ rfl (by kernel_rfl) (by kernel_rfl) (by kernel_rfl) (by kernel_rfl) (by kernel_rfl) (fun _ _ _ h => h) HS0.out ?_ ?_
        rotate_left
        · intro o ho
          simp only [List.getElem?_toArray, List.getElem?_cons_zero, Option.some.injEq] at ho
          subst ho
          refine ⟨rfl, rfl, fun w' hSw => ?_⟩
          have hs := HSI.out w' hSw
          go_split_ands
          go_simp
          try (first | exact rfl | omega | go_num | (intro hbd; exfalso; omega))
        simp only [Act.put, List.setIfInBounds_toArray, List.set_cons_zero, List.set_cons_succ]
        refine AnyT.loadD 1 66 ?_ rfl (by kernel_rfl) (by kernel_rfl) (by kernel_rfl) (by kernel_rfl) (by kernel_rfl) (fun _ _ _ h => h) HS0.out ?_ ?_
        rotate_left
        · intro o ho
          simp only [List.getElem?_toArray, List.getElem?_cons_succ, List.getElem?_cons_zero, Option.some.injEq] at ho
          subst ho
          refine ⟨rfl, rfl, fun w' hSw => ?_⟩
          have hs := HSI.out w' hSw
          go_split_ands
          go_simp
          try (first | exact rfl | omega | go_num | (intro hbd; exfalso; omega))
        simp only [Act.put, List.setIfInBounds_toArray, List.set_cons_zero, List.set_cons_succ]
        refine AnyT.loadD 2 67 ?_ rfl (by kernel_rfl) (by kernel_rfl) (by kernel_rfl) (by kernel_rfl) (by kernel_rfl) (fun _ _ _ h => h) HS0.out ?_ ?_
        rotate_left
        · intro o ho
          simp only [List.getElem?_toArray, List.getElem?_cons_succ, List.getElem?_cons_zero, Option.some.injEq] at ho
          subst ho
          refine ⟨rfl, rfl, fun w' hSw => ?_⟩
          have hs := HSI.out w' hSw
          go_split_ands
          go_simp
          try (first | exact rfl | omega | go_num | (intro hbd; exfalso; omega))
        simp only [Act.put, List.setIfInBounds_toArray, List.set_cons_zero, List.set_cons_succ]
        refine AnyT.loadD 3 68 ?_ rfl (by kernel_rfl) (by kernel_rfl) (by kernel_rfl) (by kernel_rfl) (by kernel_rfl) (fun _ _ _ h => h) HS0.out ?_ ?_
        rotate_left
        · intro o ho
          simp only [List.getElem?_toArray, List.getElem?_cons_succ, List.getElem?_cons_zero, Option.some.injEq] at ho
          subst ho
          refine ⟨rfl, rfl, fun w' hSw => ?_⟩
          have hs := HSI.out w' hSw
          go_split_ands
          go_simp
          try (first | exact rfl | omega | go_num | (intro hbd; exfalso; omega))
        simp only [Act.put, List.setIfInBounds_toArray, List.set_cons_zero, List.set_cons_succ]
        refine AnyT.loadD 4 69 ?_ rfl (by kernel_rfl) (by kernel_rfl) (by kernel_rfl) (by kernel_rfl) (by kernel_rfl) (fun _ _ _ h => h) HS0.out ?_ ?_
        rotate_left
        · intro o ho
          simp only [List.getElem?_toArray, List.getElem?_cons_succ, List.getElem?_cons_zero, Option.some.injEq] at ho
          subst ho
          refine ⟨rfl, rfl, fun w' hSw => ?_⟩
          have hs := HSI.out w' hSw
          go_split_ands
          go_simp
          try (first | exact rfl | omega | go_num | (intro hbd; exfalso; omega))
        simp only [Act.put, List.setIfInBounds_toArray, List.set_cons_zero, List.set_cons_succ]
        refine AnyT.loadD 7 72 ?_ rfl (by kernel_rfl) (by kernel_rfl) (by kernel_rfl) (by kernel_rfl) (by kernel_rfl) (fun _ _ _ h => h) HS0.out ?_ ?_
        rotate_left
        · intro o ho
          simp only [List.getElem?_toArray, List.getElem?_cons_succ, List.getElem?_cons_zero, Option.some.injEq] at ho
          subst ho
          refine ⟨rfl, rfl, fun w' hSw => ?_⟩
          have hs := HSI.out w' hSw
          go_split_ands
          go_simp
          try (first | exact rfl | omega | go_num | (intro hbd; exfalso; omega))
        simp only [Act.put, List.setIfInBounds_toArray, List.set_cons_zero, List.set_cons_succ]
        refine AnyT.loadD 8 73 ?_ rfl (by kernel_rfl) (by kernel_rfl) (by kernel_rfl) (by kernel_rfl) (by kernel_rfl) (fun _ _ _ h => h) HS0.out ?_ ?_
        rotate_left
        · intro o ho
          simp only [List.getElem?_toArray, List.getElem?_cons_succ, List.getElem?_cons_zero, Option.some.injEq] at ho
          subst ho
          refine ⟨rfl, rfl, fun w' hSw => ?_⟩
          have hs := HSI.out w' hSw
          go_split_ands
          go_simp
          try (first | exact rfl | omega | go_num | (intro hbd; exfalso; omega))
        simp only [Act.put, List.setIfInBounds_toArray, List.set_cons_zero, List.set_cons_succ]
        refine AnyT.loadD 9 74 ?_ rfl (by kernel_rfl) (by kernel_rfl) (by kernel_rfl) (by kernel_rfl) (by kernel_rfl) (fun _ _ _ h => h) HS0.out ?_ ?_
        rotate_left
        · intro o ho
          simp only [List.getElem?_toArray, List.getElem?_cons_succ, List.getElem?_cons_zero, Option.some.injEq] at ho
          subst ho
          refine ⟨rfl, rfl, fun w' hSw => ?_⟩
          have hs := HSI.out w' hSw
          go_split_ands
          go_simp
          try (first | exact rfl | omega | go_num | (intro hbd; exfalso; omega))
        simp only [Act.put, List.setIfInBounds_toArray, List.set_cons_zero, List.set_cons_succ]
        refine AnyT.loadD 10 75 ?_ rfl (by kernel_rfl) (by kernel_rfl) (by kernel_rfl) (by kernel_rfl) (by kernel_rfl) (fun _ _ _ h => h) HS0.out ?_ ?_
        rotate_left
        · intro o ho
          simp only [List.getElem?_toArray, List.getElem?_cons_succ, List.getElem?_cons_zero, Option.some.injEq] at ho
          subst ho
          refine ⟨rfl, rfl, fun w' hSw => ?_⟩
          have hs := HSI.out w' hSw
          go_split_ands
          go_simp
          try (first | exact rfl | omega | go_num | (intro hbd; exfalso; omega))
        simp only [Act.put, List.setIfInBounds_toArray, List.set_cons_zero, List.set_cons_succ]
        refine AnyT.loadD 11 76 ?_ rfl (by kernel_rfl) (by kernel_rfl) (by kernel_rfl) (by kernel_rfl) (by kernel_rfl) (fun _ _ _ h => h) HS0.out ?_ ?_
        rotate_left
        · intro o ho
          simp only [List.getElem?_toArray, List.getElem?_cons_succ, List.getElem?_cons_zero, Option.some.injEq] at ho
          subst ho
          refine ⟨rfl, rfl, fun w' hSw => ?_⟩
          have hs := HSI.out w' hSw
          go_split_ands
          go_simp
          try (first | exact rfl | omega | go_num | (intro hbd; exfalso; omega))
        simp only [Act.put, List.setIfInBounds_toArray, List.set_cons_zero, List.set_cons_succ]
        refine AnyT.two 5 12 (by kernel_rfl) ?_ ?_
        · skip
          intro o ho K hK
          simp only [List.getElem?_toArray, List.getElem?_cons_succ, List.getElem?_cons_zero, Option.some.injEq] at ho
          subst ho
          go_simp
          refine hK.out _ _ (fun _ => HSE.out _ (BXO.out.ext ((Ext.refl _).alloc _)).1) ?_
          refine box1 (P := fun W => AnyT _ _ _ _ _ _ _ _ _ W) fun WZ HXZ BQ => ?_
          have BZ1 := Lib.hid (HTW.out.new BQ.out)
          have BXO := Lib.hid (BXO.out.ext HXZ.out)
          have HTW := Lib.hid (HTW.out.ext MaR.stab HXZ.out)
          clear HXZ BQ
          refine AnyT.two 6 12 (by kernel_rfl) ?_ ?_
          · skip
            intro o ho K hK
            simp only [List.getElem?_toArray, List.getElem?_cons_succ, List.getElem?_cons_zero, Option.some.injEq] at ho
            subst ho
            refine if_go rfl ?_
            obtain ⟨xq, RQ, CQ⟩ := HTW.out.oA
            rw [PA.out] at RQ
            refine wp_appB _ _ 27 rfl w6.heap.size mass_slice _ _ _ rfl RQ _ [.string ⟨ta.toArray⟩, .string ⟨tw.toArray⟩] BZ1.out.1 1 1 rfl rfl rfl hbt HTW.out.hx.size ?_
            intro v' wq ho hg hb
            obtain ⟨Aq, cq', rfl, _, _, _⟩ := own_parts ho
            have BXO := Lib.hid (BXO.out.appA hg hb)
            have BZ1 := Lib.hid (BZ1.out.appA hg hb)
            have HTW := Lib.hid (HTW.out.appA MaR.stab PA.out RQ CQ (x := (xv + q, xw)) (show MaR _ [.string ⟨ta.toArray⟩, .string ⟨tw.toArray⟩] (xv + q, xw) by unfold MaR; rw [HTA.out, HTWt.out]) ho hg hb)
            clear RQ CQ ho hg hb
            simp only [Act.put, List.setIfInBounds_toArray, List.set_cons_zero, List.set_cons_succ]
            refine hK.out _ _ (fun _ => HSE.out _ BXO.out.1) ?_
            refine AnyT.step 12 (by kernel_rfl) ?_
            intro o ho K hK
            simp only [List.getElem?_toArray, List.getElem?_cons_succ, List.getElem?_cons_zero, Option.some.injEq] at ho
            subst ho
            go_simp
            refine hK.out _ _ (fun _ => HSE.out _ (BXO.out.ext ((Ext.refl _).alloc _)).1) ?_
            refine box1 (P := fun W => AnyT _ _ _ _ _ _ _ _ _ W) fun WZ HXZ BQ => ?_
            have BZ1 := Lib.hid (BZ1.out.ext (HXZ.out))
            have BZ2 := Lib.hid (HTW.out.new BQ.out)
            have BXO := Lib.hid (BXO.out.ext HXZ.out)
            have HTW := Lib.hid (HTW.out.ext MaR.stab HXZ.out)
            clear HXZ BQ
            refine AnyT.step 13 (by kernel_rfl) ?_
            intro o ho K hK
            simp only [List.getElem?_toArray, List.getElem?_cons_succ, List.getElem?_cons_zero, Option.some.injEq] at ho
            subst ho
            refine if_go rfl ?_
            obtain ⟨xq, RQ, CQ⟩ := HTW.out.oB
            rw [PB.out] at RQ
            refine wp_appB _ _ 27 rfl w6.heap.size mass_slice _ _ _ rfl RQ _ [.string ⟨tv.toArray⟩, .string ⟨tm.toArray⟩] BZ2.out.1 1 1 rfl rfl rfl hbt HTW.out.hx.size ?_
            intro v' wq ho hg hb
            obtain ⟨Aq, cq', rfl, _, _, _⟩ := own_parts ho
            have BXO := Lib.hid (BXO.out.appB hg hb)
            have HTW := Lib.hid (HTW.out.appB MaR.stab PB.out RQ CQ (x := (xv, xw * bq)) (show MaR _ [.string ⟨tv.toArray⟩, .string ⟨tm.toArray⟩] (xv, xw * bq) by unfold MaR; rw [HTV.out, HTM.out]) ho hg hb)
            clear RQ CQ ho hg hb
            simp only [Act.put, List.setIfInBounds_toArray, List.set_cons_zero, List.set_cons_succ]
            refine hK.out _ _ (fun _ => HSE.out _ BXO.out.1) ?_
            clear HS0
            have HS0 := Lib.hid (HSE.out _ BXO.out.1)
            refine AnyT.loadD 14 8 ?_ rfl (by kernel_rfl) (by kernel_rfl) (by kernel_rfl) (by kernel_rfl) (by kernel_rfl) (fun _ _ _ h => h) HS0.out ?_ ?_
            rotate_left
            · intro o ho
              simp only [List.getElem?_toArray, List.getElem?_cons_succ, List.getElem?_cons_zero, Option.some.injEq] at ho
              subst ho
              refine ⟨rfl, rfl, fun w' hSw => ?_⟩
              have hs := HSI.out w' hSw
              go_split_ands
              go_simp
              try (first | exact rfl | omega | go_num | (intro hbd; exfalso; omega))
            simp only [Act.put, List.setIfInBounds_toArray, List.set_cons_zero, List.set_cons_succ]
            refine AnyT.loadD 15 9 ?_ rfl (by kernel_rfl) (by kernel_rfl) (by kernel_rfl) (by kernel_rfl) (by kernel_rfl) (fun _ _ _ h => h) HS0.out ?_ ?_
            rotate_left
            · intro o ho
              simp only [List.getElem?_toArray, List.getElem?_cons_succ, List.getElem?_cons_zero, Option.some.injEq] at ho
              subst ho
              refine ⟨rfl, rfl, fun w' hSw => ?_⟩
              have hs := HSI.out w' hSw
              go_split_ands
              go_simp
              try (first | exact rfl | omega | go_num | (intro hbd; exfalso; omega))
            simp only [Act.put, List.setIfInBounds_toArray, List.set_cons_zero, List.set_cons_succ]
            refine AnyT.done (by kernel_rfl) ?_
            rw [← HN1.out, ← HN2.out] at HTW
            clear HSI HSE HS0 BXO BZ1 BZ2 RA RM
            go_wp2_with fail
            go_roundw
            case rel => exact ⟨i + 1, by omega, by go_num, HTW⟩
            case measure => simp [RowKit.intOf]; omega
          · skip
            intro o ho K hK
            simp only [List.getElem?_toArray, List.getElem?_cons_succ, List.getElem?_cons_zero, Option.some.injEq] at ho
            subst ho
            go_simp
            refine hK.out _ _ (fun _ => HSE.out _ (BXO.out.ext ((Ext.refl _).alloc _)).1) ?_
            refine box1 (P := fun W => AnyT _ _ _ _ _ _ _ _ _ W) fun WZ HXZ BQ => ?_
            have BZ1 := Lib.hid (BZ1.out.ext (HXZ.out))
            have BZ2 := Lib.hid (HTW.out.new BQ.out)
            have BXO := Lib.hid (BXO.out.ext HXZ.out)
            have HTW := Lib.hid (HTW.out.ext MaR.stab HXZ.out)
            clear HXZ BQ
            refine AnyT.step 6 (by kernel_rfl) ?_
            intro o ho K hK
            simp only [List.getElem?_toArray, List.getElem?_cons_succ, List.getElem?_cons_zero, Option.some.injEq] at ho
            subst ho
            refine if_go rfl ?_
            obtain ⟨xq, RQ, CQ⟩ := HTW.out.oA
            rw [PA.out] at RQ
            refine wp_appB _ _ 27 rfl w6.heap.size mass_slice _ _ _ rfl RQ _ [.string ⟨ta.toArray⟩, .string ⟨tw.toArray⟩] BZ1.out.1 1 1 rfl rfl rfl hbt HTW.out.hx.size ?_
            intro v' wq ho hg hb
            obtain ⟨Aq, cq', rfl, _, _, _⟩ := own_parts ho
            have BXO := Lib.hid (BXO.out.appA hg hb)
            have BZ1 := Lib.hid (BZ1.out.appA hg hb)
            have BZ2 := Lib.hid (BZ2.out.appA hg hb)
            have HTW := Lib.hid (HTW.out.appA MaR.stab PA.out RQ CQ (x := (xv + q, xw)) (show MaR _ [.string ⟨ta.toArray⟩, .string ⟨tw.toArray⟩] (xv + q, xw) by unfold MaR; rw [HTA.out, HTWt.out]) ho hg hb)
            clear RQ CQ ho hg hb
            simp only [Act.put, List.setIfInBounds_toArray, List.set_cons_zero, List.set_cons_succ]
            refine hK.out _ _ (fun _ => HSE.out _ BXO.out.1) ?_
            refine AnyT.step 13 (by kernel_rfl) ?_
            intro o ho K hK
            simp only [List.getElem?_toArray, List.getElem?_cons_succ, List.getElem?_cons_zero, Option.some.injEq] at ho
            subst ho
            refine if_go rfl ?_
            obtain ⟨xq, RQ, CQ⟩ := HTW.out.oB
            rw [PB.out] at RQ
            refine wp_appB _ _ 27 rfl w6.heap.size mass_slice _ _ _ rfl RQ _ [.string ⟨tv.toArray⟩, .string ⟨tm.toArray⟩] BZ2.out.1 1 1 rfl rfl rfl hbt HTW.out.hx.size ?_
            intro v' wq ho hg hb
            obtain ⟨Aq, cq', rfl, _, _, _⟩ := own_parts ho
            have BXO := Lib.hid (BXO.out.appB hg hb)
            have HTW := Lib.hid (HTW.out.appB MaR.stab PB.out RQ CQ (x := (xv, xw * bq)) (show MaR _ [.string ⟨tv.toArray⟩, .string ⟨tm.toArray⟩] (xv, xw * bq) by unfold MaR; rw [HTV.out, HTM.out]) ho hg hb)
            clear RQ CQ ho hg hb
            simp only [Act.put, List.setIfInBounds_toArray, List.set_cons_zero, List.set_cons_succ]
            refine hK.out _ _ (fun _ => HSE.out _ BXO.out.1) ?_
            clear HS0
            have HS0 := Lib.hid (HSE.out _ BXO.out.1)
            refine AnyT.loadD 14 8 ?_ rfl (by kernel_rfl) (by kernel_rfl) (by kernel_rfl) (by kernel_rfl) (by kernel_rfl) (fun _ _ _ h => h) HS0.out ?_ ?_
            rotate_left
            · intro o ho
              simp only [List.getElem?_toArray, List.getElem?_cons_succ, List.getElem?_cons_zero, Option.some.injEq] at ho
              subst ho
              refine ⟨rfl, rfl, fun w' hSw => ?_⟩
              have hs := HSI.out w' hSw
              go_split_ands
              go_simp
              try (first | exact rfl | omega | go_num | (intro hbd; exfalso; omega))
            simp only [Act.put, List.setIfInBounds_toArray, List.set_cons_zero, List.set_cons_succ]
            refine AnyT.loadD 15 9 ?_ rfl (by kernel_rfl) (by kernel_rfl) (by kernel_rfl) (by kernel_rfl) (by kernel_rfl) (fun _ _ _ h => h) HS0.out ?_ ?_
            rotate_left
            · intro o ho
              simp only [List.getElem?_toArray, List.getElem?_cons_succ, List.getElem?_cons_zero, Option.some.injEq] at ho
              subst ho
              refine ⟨rfl, rfl, fun w' hSw => ?_⟩
              have hs := HSI.out w' hSw
              go_split_ands
              go_simp
              try (first | exact rfl | omega | go_num | (intro hbd; exfalso; omega))
            simp only [Act.put, List.setIfInBounds_toArray, List.set_cons_zero, List.set_cons_succ]
            refine AnyT.done (by kernel_rfl) ?_
            rw [← HN1.out, ← HN2.out] at HTW
            clear HSI HSE HS0 BXO BZ1 BZ2 RA RM
            go_wp2_with fail
            go_roundw
            case rel => exact ⟨i + 1, by omega, by go_num, HTW⟩
            case measure => simp [RowKit.intOf]; omega
        · skip
          intro o ho K hK
          simp only [List.getElem?_toArray, List.getElem?_cons_succ, List.getElem?_cons_zero, Option.some.injEq] at ho
          subst ho
          go_simp
          refine hK.out _ _ (fun _ => HSE.out _ (BXO.out.ext ((Ext.refl _).alloc _)).1) ?_
          refine box1 (P := fun W => AnyT _ _ _ _ _ _ _ _ _ W) fun WZ HXZ BQ => ?_
          have BZ2 := Lib.hid (HTW.out.new BQ.out)
          have BXO := Lib.hid (BXO.out.ext HXZ.out)
          have HTW := Lib.hid (HTW.out.ext MaR.stab HXZ.out)
          clear HXZ BQ
          refine AnyT.step 5 (by kernel_rfl) ?_
          intro o ho K hK
          simp only [List.getElem?_toArray, List.getElem?_cons_succ, List.getElem?_cons_zero, Option.some.injEq] at ho
          subst ho
          go_simp
          refine hK.out _ _ (fun _ => HSE.out _ (BXO.out.ext ((Ext.refl _).alloc _)).1) ?_
          refine box1 (P := fun W => AnyT _ _ _ _ _ _ _ _ _ W) fun WZ HXZ BQ => ?_
          have BZ2 := Lib.hid (BZ2.out.ext (HXZ.out))
          have BZ1 := Lib.hid (HTW.out.new BQ.out)
          have BXO := Lib.hid (BXO.out.ext HXZ.out)
          have HTW := Lib.hid (HTW.out.ext MaR.stab HXZ.out)
          clear HXZ BQ
          refine AnyT.step 6 (by kernel_rfl) ?_
          intro o ho K hK
          simp only [List.getElem?_toArray, List.getElem?_cons_succ, List.getElem?_cons_zero, Option.some.injEq] at ho
          subst ho
          refine if_go rfl ?_
          obtain ⟨xq, RQ, CQ⟩ := HTW.out.oA
          rw [PA.out] at RQ
          refine wp_appB _ _ 27 rfl w6.heap.size mass_slice _ _ _ rfl RQ _ [.string ⟨ta.toArray⟩, .string ⟨tw.toArray⟩] BZ1.out.1 1 1 rfl rfl rfl hbt HTW.out.hx.size ?_
          intro v' wq ho hg hb
          obtain ⟨Aq, cq', rfl, _, _, _⟩ := own_parts ho
          have BXO := Lib.hid (BXO.out.appA hg hb)
          have BZ2 := Lib.hid (BZ2.out.appA hg hb)
          have BZ1 := Lib.hid (BZ1.out.appA hg hb)
          have HTW := Lib.hid (HTW.out.appA MaR.stab PA.out RQ CQ (x := (xv + q, xw)) (show MaR _ [.string ⟨ta.toArray⟩, .string ⟨tw.toArray⟩] (xv + q, xw) by unfold MaR; rw [HTA.out, HTWt.out]) ho hg hb)
          clear RQ CQ ho hg hb
          simp only [Act.put, List.setIfInBounds_toArray, List.set_cons_zero, List.set_cons_succ]
          refine hK.out _ _ (fun _ => HSE.out _ BXO.out.1) ?_
          refine AnyT.step 13 (by kernel_rfl) ?_
          intro o ho K hK
          simp only [List.getElem?_toArray, List.getElem?_cons_succ, List.getElem?_cons_zero, Option.some.injEq] at ho
          subst ho
          refine if_go rfl ?_
          obtain ⟨xq, RQ, CQ⟩ := HTW.out.oB
          rw [PB.out] at RQ
          refine wp_appB _ _ 27 rfl w6.heap.size mass_slice _ _ _ rfl RQ _ [.string ⟨tv.toArray⟩, .string ⟨tm.toArray⟩] BZ2.out.1 1 1 rfl rfl rfl hbt HTW.out.hx.size ?_
          intro v' wq ho hg hb
          obtain ⟨Aq, cq', rfl, _, _, _⟩ := own_parts ho
          have BXO := Lib.hid (BXO.out.appB hg hb)
          have HTW := Lib.hid (HTW.out.appB MaR.stab PB.out RQ CQ (x := (xv, xw * bq)) (show MaR _ [.string ⟨tv.toArray⟩, .string ⟨tm.toArray⟩] (xv, xw * bq) by unfold MaR; rw [HTV.out, HTM.out]) ho hg hb)
          clear RQ CQ ho hg hb
          simp only [Act.put, List.setIfInBounds_toArray, List.set_cons_zero, List.set_cons_succ]
          refine hK.out _ _ (fun _ => HSE.out _ BXO.out.1) ?_
          clear HS0
          have HS0 := Lib.hid (HSE.out _ BXO.out.1)
          refine AnyT.loadD 14 8 ?_ rfl (by kernel_rfl) (by kernel_rfl) (by kernel_rfl) (by kernel_rfl) (by kernel_rfl) (fun _ _ _ h => h) HS0.out ?_ ?_
          rotate_left
          · intro o ho
            simp only [List.getElem?_toArray, List.getElem?_cons_succ, List.getElem?_cons_zero, Option.some.injEq] at ho
            subst ho
            refine ⟨rfl, rfl, fun w' hSw => ?_⟩
            have hs := HSI.out w' hSw
            go_split_ands
            go_simp
            try (first | exact rfl | omega | go_num | (intro hbd; exfalso; omega))
          simp only [Act.put, List.setIfInBounds_toArray, List.set_cons_zero, List.set_cons_succ]
          refine AnyT.loadD 15 9 ?_ rfl (by kernel_rfl) (by kernel_rfl) (by kernel_rfl) (by kernel_rfl) (by kernel_rfl) (fun _ _ _ h => h) HS0.out ?_ ?_
          rotate_left
          · intro o ho
            simp only [List.getElem?_toArray, List.getElem?_cons_succ, List.getElem?_cons_zero, Option.some.injEq] at ho
            subst ho
            refine ⟨rfl, rfl, fun w' hSw => ?_⟩
            have hs := HSI.out w' hSw
            go_split_ands
            go_simp
            try (first | exact rfl | omega | go_num | (intro hbd; exfalso; omega))
          simp only [Act.put, List.setIfInBounds_toArray, List.set_cons_zero, List.set_cons_succ]
          refine AnyT.done (by kernel_rfl) ?_
          rw [← HN1.out, ← HN2.out] at HTW
          clear HSI HSE HS0 BXO BZ1 BZ2 RA RM
          go_wp2_with fail
          go_roundw
          case rel => exact ⟨i + 1, by omega, by go_num, HTW⟩
          case measure => simp [RowKit.intOf]; omega
      · obtain rfl : i = l.length := by omega
        rw [List.take_of_length_le (Nat.le_refl _)] at HTW PA PB
        have hsA := HTW.out.oA.ls
        have hsB := HTW.out.oB.ls
        have HXr := Lib.hid (HX6.out.trans HTW.out.hx)
        have HLr := Lib.hid (ML.ext HML.out HTW.out.hx)
        by_cases hn0 : l = []
        · subst hn0
          have L0 := Lib.hid (fun w' hx => line_nil _ k w' (ML.ext HLr.out hx) hk1 hk4)
          have L1 := Lib.hid (fun w' hx => line_nil _ k w' (ML.ext hsA hx) hk1 hk4)
          have L2 := Lib.hid (fun w' hx => line_nil _ k w' (ML.ext hsB hx) hk1 hk4)
          clear hsA hsB
          go_wp2_with fail
          refine (L0.out wr (Ext.refl wr)).mono ?_
          rintro e w7 ⟨rfl, hx7⟩
          go_wp2_with fail
          refine (L1.out w7 hx7).mono ?_
          rintro e w8 ⟨rfl, hx8⟩
          have hy8 := hx7.trans hx8
          go_wp2_with fail
          refine (L2.out w8 hy8).mono ?_
          rintro e w9 ⟨rfl, hx9⟩
          have hy9 := HXr.out.trans (hy8.trans hx9)
          go_wp2_with fail
          refine (lsane_any w9 (HT.out.ext hy9)).mono ?_
          rintro e wa ⟨rfl, hxa⟩
          go_wp2
          go_ret
          exact ⟨rfl, hy9.trans hxa⟩
        · have h0 : 0 < l.length := by
            rcases l with _ | ⟨x, l⟩
            · exact absurd rfl hn0
            · simp
          have hp := OK0.out.pos
          have hne1 : shf q l ≠ [] := len_ne (by rw [shf_length]; exact h0)
          have hne2 : hvy bq l ≠ [] := len_ne (by rw [hvy_length]; exact h0)
          have HTr := Lib.hid (HT.out.ext HXr.out)
          have L0 := Lib.hid (fun w' hx => line_any _ l k w' (ML.ext HLr.out hx) OK0.out HAS.out hn0 hk1 hk4 (HTr.out.ext hx))
          have L1 := Lib.hid (fun w' hx => line_any _ (shf q l) k w' (ML.ext hsA hx) OKS.out ACS.out hne1 hk1 hk4 (HTr.out.ext hx))
          have L2 := Lib.hid (fun w' hx => line_any _ (hvy bq l) k w' (ML.ext hsB hx) OKH.out ACH.out hne2 hk1 hk4 (HTr.out.ext hx))
          obtain ⟨e1, e2⟩ := shf_line (l := l) (k := k) q hp h0 hk1
          obtain ⟨e3, e4⟩ := hvy_line (l := l) (k := k) HB0.out hp h0 hk1
          rw [e1, e2, List.length_map] at L1
          rw [e3, e4] at L2
          have hpl := lp_lt h0 hk1
          have CF := Lib.hid (cen_fit (lp l k) l OK0.out (by omega))
          have HLC : Hid (cen (lp l k) l = lcen l k) := rfl
          rw [HLC.out] at CF
          have FC : FitQ 56 (lcost l k) := (dv_fit (lp l k) l OK0.out (by omega)).mono (by omega)
          have RM := Lib.hid (fun w' => r2mul_any (lcost l k) bq w' (FC.mono (by decide)) (FB.out.mono (by decide)) ((FC.mul FB.out).mono (by decide)))
          rw [HTB.out] at RM
          have hm9 : (lcen l k).length ≤ 9 := by rw [lcen_length]; omega
          clear e1 e2 e3 e4 hp hne1 hne2 hsA hsB FC hpl HLC
          obtain ⟨L, hL⟩ : ∃ L, lcen l k = L := ⟨_, rfl⟩
          rw [hL] at L0 L1 L2 CF hm9
          obtain ⟨lc, hlc⟩ : ∃ lc, lcost l k = lc := ⟨_, rfl⟩
          rw [hlc] at L0 L1 L2 RM
          clear hL hlc
          generalize ratText lc = tc at *
          generalize ratText (lc * bq) = tm at *
          obtain ⟨m, hm⟩ : ∃ m, L.length = m := ⟨_, rfl⟩
          rw [hm] at L0 L1 L2 hm9
          have HLM := Lib.hid hm
          clear hm
          go_wp2_with fail
          refine (L0.out wr (Ext.refl wr)).mono ?_
          rintro e w7 ⟨Aa, ca, rfl, hr0, hx7⟩
          obtain ⟨-, -, hcam⟩ := cap_le hr0
          go_wp2_with fail
          refine (L1.out w7 hx7).mono ?_
          rintro e w8 ⟨Ab, cb, rfl, hr1, hx8⟩
          obtain ⟨-, -, hcbm⟩ := cap_le hr1
          have hy8 := hx7.trans hx8
          go_wp2_with fail
          refine (L2.out w8 hy8).mono ?_
          rintro e w9 ⟨Ac, cc, rfl, hr2, hx9⟩
          have hy9 := hy8.trans hx9
          have hR0 := RL.ext hr0 (hx8.trans hx9)
          have hR1 := RL.ext hr1 hx9
          go_wp2_with fail
          refine (RM.out w9).mono ?_
          rintro e wa ⟨rfl, hxa⟩
          have HR0 := Lib.hid (RL.ext hR0 hxa)
          have HR1 := Lib.hid (RL.ext hR1 hxa)
          have HR2 := Lib.hid (RL.ext hr2 hxa)
          have HXa := Lib.hid (HXr.out.trans (hy9.trans hxa))
          clear hr0 hr1 hr2 hR0 hR1 hxa hx7 hx8 hx9 hy8 hy9 L0 L1 L2 RM HTr
          have SM := Lib.hid (fun va vb w' h1 h2 => (same_any va vb L L w' h1 h2).mono fun e w'' h => (⟨h.1.trans (by rw [decide_eq_true rfl]), h.2⟩ : e = .returned (.bool true) ∧ ∃ n, w'' = w'.drewN n))
          go_wp2_with fail
          refine (SM.out _ _ wa HR0.out HR2.out).mono ?_
          rintro e wb ⟨rfl, j, rfl⟩
          have HX0 : Hid (Ext wa (wa.drewN j)) := (Ext.refl wa).drewN j
          generalize wa.drewN j = wb at *
          go_wp2_with fail
          go_loopw [27, 28, 29, 156] (fun _ _ _ v156 wr => ∃ i : Nat, i ≤ m ∧ v156 = .int .i64 i ∧ Hid (Ext wa wr)) (fun _ _ _ v156 _ => m - (RowKit.intOf v156).toNat)
          case atStart => exact ⟨0, Nat.zero_le _, rfl, HX0⟩
          case round =>
            obtain ⟨i, hi, rfl, HXq⟩ := hrel
            by_cases him : i < m
            · have hiL : i < L.length := by rw [HLM.out]; exact him
              have hiM : i < (L.map (· + q)).length := by rw [List.length_map]; exact hiL
              obtain ⟨ga, oa, rfl, hga, hca⟩ := RL.get (RL.ext HR0.out HXq.out) hiL
              obtain ⟨gb, ob, rfl, hgb, hcb⟩ := RL.get (RL.ext HR1.out HXq.out) hiM
              rw [List.getElem_map] at hcb
              have fi := CF.out _ (List.getElem_mem hiL)
              have RA : Hid (∀ w', Calls Tryz.prog 14 #[.string ⟨(ratText L[i]).toArray⟩, .string ⟨tq.toArray⟩] w' fun e w'' => e = .returned (.tuple #[.string ⟨(ratText (L[i] + q)).toArray⟩, .int .i64 0]) ∧ Ext w' w'') := fun w' => by
                have h := r2add_any L[i] q w' (fi.mono (by decide)) (FQ.out.mono (by decide)) ((fi.add FQ.out).mono (by decide))
                rw [HTQ.out] at h
                exact h
              clear fi
              generalize L[i] = x at *
              clear hiL hiM
              generalize ratText x = tx at *
              generalize ratText (x + q) = ty at *
              go_wp2_with fail
              refine (RA.out _).mono ?_
              rintro e wc ⟨rfl, hxc⟩
              have hcb' := (hxc.cell (p := ⟨gb, ob + i, none⟩) hgb).trans hcb
              have HXc := Lib.hid (HXq.out.trans hxc)
              clear hca hcb hxc
              go_wp2_with fail
              go_roundw
              case rel => exact ⟨i + 1, by omega, by go_num, HXc⟩
              case measure => simp [RowKit.intOf]; omega
            · obtain rfl : i = m := by omega
              go_wp2_with fail
              refine (lsane_any _ (HT.out.ext (HXa.out.trans HXq.out))).mono ?_
              rintro e wc ⟨rfl, hxc⟩
              go_wp2
              go_ret
              exact ⟨rfl, HXa.out.trans (HXq.out.trans hxc)⟩
  · have hd : decide (zs.length ≤ 600) = false := decide_eq_false hl
    rw [hd]
    go_wp2_with fail
    refine (lsane_any w HT.out).mono ?_
    rintro e w1 ⟨rfl, hx1⟩
    go_wp2
    go_ret
    exact ⟨rfl, hx1⟩
end Go.Proofs.YtkhmfgkbobblmaaGreatDoor
