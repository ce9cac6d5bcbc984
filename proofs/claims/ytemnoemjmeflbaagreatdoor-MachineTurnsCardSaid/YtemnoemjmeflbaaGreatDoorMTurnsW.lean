/- joinlearnlaw29.MachineTurns, walked. -/
import Derived.Test.YtemnoemjmeflbaaGreatDoorTurnS
namespace Go.Proofs.YtemnoemjmeflbaaGreatDoor
open Go.RowKit Go.Lib

set_option maxRecDepth 100000 in
set_option maxHeartbeats 8000000 in
theorem mturns_walk (t : TypeId) (A : Option Addr) (zs : List Int) (c : Nat) (w : World) (hc : zs.length ≤ c) (hm : c ≤ 9223372036854775807) (hs : Sl w t A (zcells zs)) (hz : ∀ z ∈ zs, -9223372036854775808 ≤ z ∧ z ≤ 9223372036854775807) (ht : Tab w) :
    Calls Tryz.prog 3 #[.slice A zs.length c] w fun e w' => e = .returned (.bool true) ∧ Ext w w' := by
  have HS := Lib.hid hs
  have HZ := Lib.hid hz
  have HT := Lib.hid ht
  clear hs hz ht
  go_enter Tryz.func3, Tryz.ntmps3
  go_wp2_with fail
  refine (light_any A zs.length c w (by omega)).mono ?_
  rintro e w0 ⟨rfl, rfl⟩
  by_cases hl : zs.length ≤ 600
  · have hd : decide (zs.length ≤ 600) = true := decide_eq_true hl
    rw [hd]
    go_wp2_with fail
    refine (mnew_any t A zs c w hc hm hl HS.out HZ.out).mono ?_
    rintro e w1 ⟨rfl, hsrc1, hx1⟩
    clear hd
    go_wp2_with fail
    refine (range_any w.heap.size 1 3 w1 hsrc1 (by decide) (by decide)).mono ?_
    rintro e w2 ⟨n, hn1, hn3, rfl, hsrc2, ho2⟩
    have HX2 := Lib.hid (hx1.only ho2 (Nat.le_refl _))
    clear hx1 ho2 hsrc1 hl
    go_wp2_with fail
    refine (n_any w.heap.size 3 w2 hsrc2 (by decide) (by decide)).mono ?_
    rintro e w2b ⟨r, hr3, rfl, hsrc2b, ho2b⟩
    have hr2 : r ≤ 2 := by omega
    have HX2b := Lib.hid (HX2.out.only ho2b (Nat.le_refl _))
    have HS2 := Lib.hid hsrc2b
    have hg2 : w.heap.size < w2b.heap.size := hsrc2b.lt
    clear ho2b hsrc2 hsrc2b HX2
    generalize w2b = w2 at *
    go_wp2_with fail
    go_loopw [6, 7] (fun v6 v7 wr => ∃ k : Nat, k ≤ n ∧ v7 = .int .i64 k ∧ Hid (OwnL tInt 1 IntR w2.heap.size wr v6 (upto k)) ∧ Hid (SrcAt wr w.heap.size) ∧ Hid (Ext w2 wr)) (fun _ v7 _ => n - (RowKit.intOf v7).toNat)
    case atStart => exact ⟨0, Nat.zero_le _, rfl, OwnL.nil, HS2, Ext.refl _⟩
    case round =>
      obtain ⟨k, hk, rfl, HO, HSr, HXr⟩ := hrel
      have HLK := Lib.hid (upto_length k)
      obtain ⟨A5, c5, xs, rfl, hkc, hcm, HR, HC⟩ := HO.out.parts
      rw [HLK.out] at HR hkc ⊢
      by_cases hkn : k < n
      · have hw2 : w2.heap.size ≤ wr.heap.size := HXr.out.size
        have hbt : (k + 1) * 8 ≤ 140737488355328 := by omega
        go_wp2_with (at_builtin; refine wpList_app1 rfl _ _ 22 rfl w2.heap.size int_slice _ _ _ rfl HR.out #[.int .i64 k] 1 1 rfl rfl rfl hbt hw2 ?_)
        intro v' w3 ho3 hg3 _
        have O3 : Hid (OwnL tInt 1 IntR w2.heap.size w3 v' (upto (k + 1))) := by
          rw [Hid, upto_succ]
          exact OwnL.snoc (R := IntR) (x := (k : Int)) IntR.stab (fun u hu => by cases hu) (by rw [HLK.out]; exact HR.out) HC.out rfl (by rw [HLK.out]; exact ho3) hg3
        have S3 := Lib.hid (HSr.out.grown hg3 (fun k hk => by have := (HR.out.lt k hk).1; omega))
        have X3 := Lib.hid (HXr.out.grownO HR.out hg3)
        clear ho3 hg3
        go_wp2
        go_roundw
        case rel => exact ⟨k + 1, by omega, by go_num, O3, S3, X3⟩
        case measure => simp [RowKit.intOf]; omega
      · obtain rfl : k = n := by omega
        have HIL := Lib.hid HO.out.ls
        rw [HLK.out] at HIL
        have HX3 := Lib.hid (HX2b.out.trans HXr.out)
        clear HO HC HR HXr
        generalize wr = w3 at *
        go_wp2_with fail
        refine (mmachine_any w.heap.size k r A5 c5 w3 HSr.out HIL.out hn1 hn3 hr2).mono ?_
        rintro e w4 ⟨vm, cq, lin, fac, hmo, rfl, hmv, hs4, ho4⟩
        obtain ⟨Af, cf, tc, Al, cl, Ax, cx, rfl, HTC, HMV⟩ := hmv.parts
        have HMO := Lib.hid hmo
        have HX4 := Lib.hid (HX3.out.only ho4 (Nat.le_refl _))
        have HIL4 : Hid (IL w4 (.slice A5 k c5) (upto k)) := Ls.kept IntR.stab HIL.out (Src.keptA HSr.out ho4) (by decide)
        clear hmo hmv ho4 HX3 HIL HSr
        go_upto_region 11 with fail
        refine box1 (P := fun W => Code.wp _ _ _ _ W) fun W5 HX5 BM => ?_
        have HMV5 := Lib.hid (HMV.out.ext HX5.out)
        have HIL5 := Lib.hid (IL.ext HIL4.out HX5.out)
        have HS5 := Lib.hid (hs4.ext HX5.out)
        have HXW := Lib.hid (HX4.out.trans HX5.out)
        have hg5 : w.heap.size < w4.heap.size := hs4.lt
        clear hs4 HX4 HX5 HMV HIL4
        go_wp2_with fail
        refine (place_any w.heap.size k W5 HS5.out hn3).mono ?_
        rintro e w6 ⟨Aa, ca, a, hal, ha, rfl, hra, hs6, ho6⟩
        have HMV6 := Lib.hid (HMV5.out.kept (Src.keptA HS5.out ho6) (by decide))
        have HIL6 : Hid (IL w6 (.slice A5 k c5) (upto k)) := Ls.kept IntR.stab HIL5.out (Src.keptA HS5.out ho6) (by decide)
        have BM6 := Lib.hid (BM.out.only ho6 (by omega))
        have HX6 := Lib.hid (HXW.out.only ho6 (Nat.le_refl _))
        have HAL := Lib.hid hal
        have HAI := Lib.hid ha
        have HRA := Lib.hid hra
        have HS6 := Lib.hid hs6
        have hg6 : w4.heap.size < w6.heap.size := BM6.out.lt
        clear ho6 HS5 HMV5 BM HXW hal ha hra hs6 HIL5
        go_upto_region 12 with fail
        go_cut [10, 11] (fun s10 s11 wx => ∃ g10 g11, s10 = .pointer (some ⟨g10, 0, none⟩) ∧ s11 = .pointer (some ⟨g11, 0, none⟩) ∧ Hid (Blk wx g10 tMach [.slice A5 k c5, .string ⟨tc⟩, .slice none 0 0, .slice none 0 0]) ∧ Hid (Blk wx g11 tMach [.slice A5 k c5, .string ⟨tc⟩, .slice Al k cl, .slice none 0 0]) ∧ Hid (Ext w6 wx) ∧ g10 ≠ g11 ∧ w6.heap.size ≤ g10 ∧ w6.heap.size ≤ g11)
        case first =>
          obtain ⟨S, hSd⟩ : ∃ S : World → Prop, S = fun w' => w'.cell? ⟨w4.heap.size, 1, none⟩ = some (.string ⟨tc⟩) ∧ w'.cell? ⟨w4.heap.size, 2, none⟩ = some (.slice Al k cl) := ⟨_, rfl⟩
          have HSI : Hid (∀ w', S w' → w'.cell? ⟨w4.heap.size, 1, none⟩ = some (.string ⟨tc⟩) ∧ w'.cell? ⟨w4.heap.size, 2, none⟩ = some (.slice Al k cl)) := by rw [Hid, hSd]; exact fun _ h => h
          have HSE : Hid (∀ w', Ext w6 w' → S w') := by rw [Hid, hSd]; exact fun w' h => ⟨(BM6.out.ext h).cell (i := 1) rfl, (BM6.out.ext h).cell (i := 2) rfl⟩
          have hyc : Ext w6 w6.drew := (Ext.refl w6).drew
          have HS0 : Hid (S w6.drew) := HSE.out _ hyc
          clear hSd
          refine AnyT.start (S := S) (T := fun _ => false) (by kernel_rfl) ?_
          obtain ⟨wd, hwd⟩ : ∃ wd : World, w6.drew = wd := ⟨_, rfl⟩
          rw [hwd] at hyc HS0 ⊢
          clear hwd
          refine AnyT.load 0 52 (.slice A5 k c5) rfl (by kernel_rfl) (by kernel_rfl) (by kernel_rfl) (by kernel_rfl) (by kernel_rfl) (fun _ _ _ h => h) HS0.out ?_ ?_
          · intro o ho
            simp only [List.getElem?_toArray, List.getElem?_cons_zero, Option.some.injEq] at ho
            subst ho
            refine ⟨rfl, rfl, fun w' hSw => ?_⟩
            have hs := HSI.out w' hSw
            go_split_ands
            go_simp
          simp only [Act.put, List.setIfInBounds_toArray, List.set_cons_zero, List.set_cons_succ]
          refine AnyT.load 1 53 (.pointer (some ⟨w4.heap.size, 1, none⟩)) rfl (by kernel_rfl) (by kernel_rfl) (by kernel_rfl) (by kernel_rfl) (by kernel_rfl) (fun _ _ _ h => h) HS0.out ?_ ?_
          · intro o ho
            simp only [List.getElem?_toArray, List.getElem?_cons_succ, List.getElem?_cons_zero, Option.some.injEq] at ho
            subst ho
            refine ⟨rfl, rfl, fun w' hSw => ?_⟩
            have hs := HSI.out w' hSw
            go_split_ands
            go_simp
          simp only [Act.put, List.setIfInBounds_toArray, List.set_cons_zero, List.set_cons_succ]
          refine AnyT.load 2 54 (.string ⟨tc⟩) rfl (by kernel_rfl) (by kernel_rfl) (by kernel_rfl) (by kernel_rfl) (by kernel_rfl) (fun _ _ _ h => h) HS0.out ?_ ?_
          · intro o ho
            simp only [List.getElem?_toArray, List.getElem?_cons_succ, List.getElem?_cons_zero, Option.some.injEq] at ho
            subst ho
            refine ⟨rfl, rfl, fun w' hSw => ?_⟩
            have hs := HSI.out w' hSw
            go_split_ands
            go_simp
          simp only [Act.put, List.setIfInBounds_toArray, List.set_cons_zero, List.set_cons_succ]
          refine AnyT.load 3 55 (.agg #[.slice A5 k c5, .string ⟨tc⟩, .slice none 0 0, .slice none 0 0]) rfl (by kernel_rfl) (by kernel_rfl) (by kernel_rfl) (by kernel_rfl) (by kernel_rfl) (fun _ _ _ h => h) HS0.out ?_ ?_
          · intro o ho
            simp only [List.getElem?_toArray, List.getElem?_cons_succ, List.getElem?_cons_zero, Option.some.injEq] at ho
            subst ho
            refine ⟨rfl, rfl, fun w' hSw => ?_⟩
            have hs := HSI.out w' hSw
            go_split_ands
            go_simp
          simp only [Act.put, List.setIfInBounds_toArray, List.set_cons_zero, List.set_cons_succ]
          refine AnyT.load 4 56 (.slice A5 k c5) rfl (by kernel_rfl) (by kernel_rfl) (by kernel_rfl) (by kernel_rfl) (by kernel_rfl) (fun _ _ _ h => h) HS0.out ?_ ?_
          · intro o ho
            simp only [List.getElem?_toArray, List.getElem?_cons_succ, List.getElem?_cons_zero, Option.some.injEq] at ho
            subst ho
            refine ⟨rfl, rfl, fun w' hSw => ?_⟩
            have hs := HSI.out w' hSw
            go_split_ands
            go_simp
          simp only [Act.put, List.setIfInBounds_toArray, List.set_cons_zero, List.set_cons_succ]
          refine AnyT.load 5 57 (.pointer (some ⟨w4.heap.size, 1, none⟩)) rfl (by kernel_rfl) (by kernel_rfl) (by kernel_rfl) (by kernel_rfl) (by kernel_rfl) (fun _ _ _ h => h) HS0.out ?_ ?_
          · intro o ho
            simp only [List.getElem?_toArray, List.getElem?_cons_succ, List.getElem?_cons_zero, Option.some.injEq] at ho
            subst ho
            refine ⟨rfl, rfl, fun w' hSw => ?_⟩
            have hs := HSI.out w' hSw
            go_split_ands
            go_simp
          simp only [Act.put, List.setIfInBounds_toArray, List.set_cons_zero, List.set_cons_succ]
          refine AnyT.load 6 58 (.string ⟨tc⟩) rfl (by kernel_rfl) (by kernel_rfl) (by kernel_rfl) (by kernel_rfl) (by kernel_rfl) (fun _ _ _ h => h) HS0.out ?_ ?_
          · intro o ho
            simp only [List.getElem?_toArray, List.getElem?_cons_succ, List.getElem?_cons_zero, Option.some.injEq] at ho
            subst ho
            refine ⟨rfl, rfl, fun w' hSw => ?_⟩
            have hs := HSI.out w' hSw
            go_split_ands
            go_simp
          simp only [Act.put, List.setIfInBounds_toArray, List.set_cons_zero, List.set_cons_succ]
          refine AnyT.load 7 59 (.pointer (some ⟨w4.heap.size, 2, none⟩)) rfl (by kernel_rfl) (by kernel_rfl) (by kernel_rfl) (by kernel_rfl) (by kernel_rfl) (fun _ _ _ h => h) HS0.out ?_ ?_
          · intro o ho
            simp only [List.getElem?_toArray, List.getElem?_cons_succ, List.getElem?_cons_zero, Option.some.injEq] at ho
            subst ho
            refine ⟨rfl, rfl, fun w' hSw => ?_⟩
            have hs := HSI.out w' hSw
            go_split_ands
            go_simp
          simp only [Act.put, List.setIfInBounds_toArray, List.set_cons_zero, List.set_cons_succ]
          refine AnyT.load 8 60 (.slice Al k cl) rfl (by kernel_rfl) (by kernel_rfl) (by kernel_rfl) (by kernel_rfl) (by kernel_rfl) (fun _ _ _ h => h) HS0.out ?_ ?_
          · intro o ho
            simp only [List.getElem?_toArray, List.getElem?_cons_succ, List.getElem?_cons_zero, Option.some.injEq] at ho
            subst ho
            refine ⟨rfl, rfl, fun w' hSw => ?_⟩
            have hs := HSI.out w' hSw
            go_split_ands
            go_simp
          simp only [Act.put, List.setIfInBounds_toArray, List.set_cons_zero, List.set_cons_succ]
          refine AnyT.load 9 61 (.agg #[.slice A5 k c5, .string ⟨tc⟩, .slice Al k cl, .slice none 0 0]) rfl (by kernel_rfl) (by kernel_rfl) (by kernel_rfl) (by kernel_rfl) (by kernel_rfl) (fun _ _ _ h => h) HS0.out ?_ ?_
          · intro o ho
            simp only [List.getElem?_toArray, List.getElem?_cons_succ, List.getElem?_cons_zero, Option.some.injEq] at ho
            subst ho
            refine ⟨rfl, rfl, fun w' hSw => ?_⟩
            have hs := HSI.out w' hSw
            go_split_ands
            go_simp
          simp only [Act.put, List.setIfInBounds_toArray, List.set_cons_zero, List.set_cons_succ]
          refine AnyT.two 10 11 (by kernel_rfl) ?_ ?_
          · skip
            intro o ho K hK
            simp only [List.getElem?_toArray, List.getElem?_cons_succ, List.getElem?_cons_zero, Option.some.injEq] at ho
            subst ho
            go_simp
            refine hK.out _ _ (fun _ => HSE.out _ (hyc.alloc _)) ?_
            have hz1 := hyc.size
            refine box1 (P := fun W => AnyT _ _ _ _ _ _ _ _ _ W) fun WZ HXZ BZ1 => ?_
            have hyc := hyc.trans HXZ.out
            clear HXZ
            refine AnyT.step 11 (by kernel_rfl) ?_
            intro o ho K hK
            simp only [List.getElem?_toArray, List.getElem?_cons_succ, List.getElem?_cons_zero, Option.some.injEq] at ho
            subst ho
            go_simp
            refine hK.out _ _ (fun _ => HSE.out _ (hyc.alloc _)) ?_
            have hz2 := hyc.size
            have hlt := BZ1.out.lt
            refine box1 (P := fun W => AnyT _ _ _ _ _ _ _ _ _ W) fun WZ HXZ BZ2 => ?_
            have hyc := hyc.trans HXZ.out
            have BZ1 := Lib.hid (BZ1.out.ext (HXZ.out))
            clear HXZ
            obtain ⟨k0, k1, k2, k3⟩ := BZ1.out.four
            obtain ⟨m0, m1, m2, m3⟩ := BZ1.out.free4
            obtain ⟨W1, hW1, BY1, _, ON1⟩ := put4 BZ1.out (.slice A5 k c5) (.string ⟨tc⟩) (.slice none 0 0) (.slice none 0 0)
            have HW1 := Lib.hid hW1
            have hyc := Lib.hid (hyc.only ON1.out hz1)
            have BY2 := Lib.hid (BZ2.out.only ON1.out (by omega))
            clear hW1
            refine AnyT.step 12 (by kernel_rfl) ?_
            intro o ho K hK
            simp only [List.getElem?_toArray, List.getElem?_cons_succ, List.getElem?_cons_zero, Option.some.injEq] at ho
            subst ho
            go_simp
            rw [HW1.out]
            refine hK.out _ _ (fun _ => HSE.out _ hyc.out) ?_
            clear k0 k1 k2 k3 m0 m1 m2 m3
            obtain ⟨k0, k1, k2, k3⟩ := BY2.out.four
            obtain ⟨m0, m1, m2, m3⟩ := BY2.out.free4
            obtain ⟨W2, hW2, BX2, _, ON2⟩ := put4 BY2.out (.slice A5 k c5) (.string ⟨tc⟩) (.slice Al k cl) (.slice none 0 0)
            have HW2 := Lib.hid hW2
            have hyc := Lib.hid (hyc.out.only ON2.out hz2)
            have BX1 := Lib.hid (BY1.out.only ON2.out (by omega))
            clear hW2
            refine AnyT.step 13 (by kernel_rfl) ?_
            intro o ho K hK
            simp only [List.getElem?_toArray, List.getElem?_cons_succ, List.getElem?_cons_zero, Option.some.injEq] at ho
            subst ho
            go_simp
            rw [HW2.out]
            refine hK.out _ _ (fun _ => HSE.out _ hyc.out) ?_
            clear k0 k1 k2 k3 m0 m1 m2 m3
            refine AnyT.done (by kernel_rfl) ?_
            go_wp2_with fail
            go_meet
            exact ⟨_, _, rfl, rfl, BX1, BX2, hyc, by omega, hz1, hz2⟩
          · skip
            intro o ho K hK
            simp only [List.getElem?_toArray, List.getElem?_cons_succ, List.getElem?_cons_zero, Option.some.injEq] at ho
            subst ho
            go_simp
            refine hK.out _ _ (fun _ => HSE.out _ (hyc.alloc _)) ?_
            have hz2 := hyc.size
            refine box1 (P := fun W => AnyT _ _ _ _ _ _ _ _ _ W) fun WZ HXZ BZ2 => ?_
            have hyc := hyc.trans HXZ.out
            clear HXZ
            refine AnyT.step 10 (by kernel_rfl) ?_
            intro o ho K hK
            simp only [List.getElem?_toArray, List.getElem?_cons_succ, List.getElem?_cons_zero, Option.some.injEq] at ho
            subst ho
            go_simp
            refine hK.out _ _ (fun _ => HSE.out _ (hyc.alloc _)) ?_
            have hz1 := hyc.size
            have hlt := BZ2.out.lt
            refine box1 (P := fun W => AnyT _ _ _ _ _ _ _ _ _ W) fun WZ HXZ BZ1 => ?_
            have hyc := hyc.trans HXZ.out
            have BZ2 := Lib.hid (BZ2.out.ext (HXZ.out))
            clear HXZ
            obtain ⟨k0, k1, k2, k3⟩ := BZ1.out.four
            obtain ⟨m0, m1, m2, m3⟩ := BZ1.out.free4
            obtain ⟨W1, hW1, BY1, _, ON1⟩ := put4 BZ1.out (.slice A5 k c5) (.string ⟨tc⟩) (.slice none 0 0) (.slice none 0 0)
            have HW1 := Lib.hid hW1
            have hyc := Lib.hid (hyc.only ON1.out hz1)
            have BY2 := Lib.hid (BZ2.out.only ON1.out (by omega))
            clear hW1
            refine AnyT.step 12 (by kernel_rfl) ?_
            intro o ho K hK
            simp only [List.getElem?_toArray, List.getElem?_cons_succ, List.getElem?_cons_zero, Option.some.injEq] at ho
            subst ho
            go_simp
            rw [HW1.out]
            refine hK.out _ _ (fun _ => HSE.out _ hyc.out) ?_
            clear k0 k1 k2 k3 m0 m1 m2 m3
            obtain ⟨k0, k1, k2, k3⟩ := BY2.out.four
            obtain ⟨m0, m1, m2, m3⟩ := BY2.out.free4
            obtain ⟨W2, hW2, BX2, _, ON2⟩ := put4 BY2.out (.slice A5 k c5) (.string ⟨tc⟩) (.slice Al k cl) (.slice none 0 0)
            have HW2 := Lib.hid hW2
            have hyc := Lib.hid (hyc.out.only ON2.out hz2)
            have BX1 := Lib.hid (BY1.out.only ON2.out (by omega))
            clear hW2
            refine AnyT.step 13 (by kernel_rfl) ?_
            intro o ho K hK
            simp only [List.getElem?_toArray, List.getElem?_cons_succ, List.getElem?_cons_zero, Option.some.injEq] at ho
            subst ho
            go_simp
            rw [HW2.out]
            refine hK.out _ _ (fun _ => HSE.out _ hyc.out) ?_
            clear k0 k1 k2 k3 m0 m1 m2 m3
            refine AnyT.done (by kernel_rfl) ?_
            go_wp2_with fail
            go_meet
            exact ⟨_, _, rfl, rfl, BX1, BX2, hyc, by omega, hz1, hz2⟩
        case rest =>
          obtain ⟨g10, g11, rfl, rfl, BT10, BT11, HXC, hne, hg10, hg11⟩ := hcut
          have BM7 := Lib.hid (BM6.out.ext HXC.out)
          have HMV7 := Lib.hid (HMV6.out.ext HXC.out)
          have HIL7 := Lib.hid (IL.ext HIL6.out HXC.out)
          have HRA7 := Lib.hid (RL.ext HRA.out HXC.out)
          have HS7 := Lib.hid (HS6.out.ext HXC.out)
          have HX7 := Lib.hid (HX6.out.trans HXC.out)
          clear BM6 HMV6 HIL6 HRA HS6 HX6 HXC
          go_wp2_with fail
          refine (shuffle_any w.heap.size k wc HS7.out (by omega)).mono ?_
          rintro e w9 ⟨Ak, ck, ks, hkl, hkp, rfl, hki, hs9, ho9⟩
          have HMV9 := Lib.hid (HMV7.out.kept (Src.keptA HS7.out ho9) (by decide))
          have HIL9 : Hid (IL w9 (.slice A5 k c5) (upto k)) := Ls.kept IntR.stab HIL7.out (Src.keptA HS7.out ho9) (by decide)
          have HRA9 : Hid (RL w9 (.slice Aa k ca) a) := Ls.kept RatR.stab HRA7.out (Src.keptA HS7.out ho9) (by decide)
          have BM9 := Lib.hid (BM7.out.only ho9 (by omega))
          have B109 := Lib.hid (BT10.out.only ho9 (by omega))
          have B119 := Lib.hid (BT11.out.only ho9 (by omega))
          have HX9 := Lib.hid (HX7.out.only ho9 (Nat.le_refl _))
          have HKI := Lib.hid hki
          have HKL := Lib.hid hkl
          have HKP := Lib.hid hkp
          have e8 : w4.heap.size < w9.heap.size := BM9.out.lt
          have HX6s : Hid (w.heap.size ≤ w6.heap.size) := by unfold Hid; omega
          have e10 : g10 < w9.heap.size := B109.out.lt
          have e11 : g11 < w9.heap.size := B119.out.lt
          obtain ⟨-, -, hck⟩ := cap_le hki
          obtain ⟨-, -, hca⟩ := cap_le HRA9.out
          clear ho9 hs9 hki hkl hkp BM7 HMV7 HIL7 HRA7 HS7 HX7 BT10 BT11
          have HST0 : Hid (St w w9 w4.heap.size g10 g11 [.slice Af k cf, .string ⟨tc⟩, .slice Al k cl, .slice Ax k cx] [.slice A5 k c5, .string ⟨tc⟩, .slice none 0 0, .slice none 0 0] [.slice A5 k c5, .string ⟨tc⟩, .slice Al k cl, .slice none 0 0] (pick 0 lin (ks.take 0)) (pick [] fac (ks.take 0)) (pick 0 a (ks.take 0)) (.slice none 0 0) (.slice none 0 0) (.slice none 0 0) w9) :=
            ⟨fun _ _ => Kept.refl _ _, BM9.out, B109.out, B119.out, OwnL.nil, OwnL.nil, OwnL.nil, (fun k hk => by cases hk), HX9.out, Nat.le_refl _⟩
          go_wp2_with fail
          go_loopw [12, 14, 66] (fun v12 _ v66 wr => ∃ (j : Nat) (cL cF : Value), j ≤ k ∧ v66 = .int .i64 j ∧ Hid (St w w9 w4.heap.size g10 g11 [.slice Af k cf, .string ⟨tc⟩, .slice Al k cl, .slice Ax k cx] [.slice A5 k c5, .string ⟨tc⟩, cL, cF] [.slice A5 k c5, .string ⟨tc⟩, .slice Al k cl, .slice none 0 0] (pick 0 lin (ks.take j)) (pick [] fac (ks.take j)) (pick 0 a (ks.take j)) cL cF v12 wr)) (fun _ _ v66 _ => k - (RowKit.intOf v66).toNat)
          case atStart => exact ⟨0, _, _, Nat.zero_le _, rfl, HST0⟩
          case round =>
            obtain ⟨j, cL, cF, hj, rfl, HST⟩ := hrel
            by_cases hjk : j < k
            · have hjs : j < ks.length := by rw [HKL.out]; exact hjk
              have HLL : Hid (lin.length = k) := HMO.out.ll
              have HFL : Hid (fac.length = k) := HMO.out.fl
              obtain ⟨m, hm, hmk⟩ := perm_upto HKP.out hjs
              have hml : m < lin.length := by rw [HLL.out]; exact hmk
              have hmf : m < fac.length := by rw [HFL.out]; exact hmk
              have hma : m < a.length := by rw [HAL.out]; exact hmk
              have NL := Lib.hid (pick_next (d := (0 : Rat)) (l := lin) hjs)
              have NF := Lib.hid (pick_next (d := ([] : List Rat)) (l := fac) hjs)
              have NA := Lib.hid (pick_next (d := (0 : Rat)) (l := a) hjs)
              rw [hm, Int.toNat_natCast, getD_at hml] at NL
              rw [hm, Int.toNat_natCast, getD_at hmf] at NF
              rw [hm, Int.toNat_natCast, getD_at hma] at NA
              have PL' := Lib.hid (pick_length (d := (0 : Rat)) (l := lin) (show j ≤ ks.length by omega))
              have PF := Lib.hid (pick_length (d := ([] : List Rat)) (l := fac) (show j ≤ ks.length by omega))
              have PA := Lib.hid (pick_length (d := (0 : Rat)) (l := a) (show j ≤ ks.length by omega))
              have HRF := Lib.hid (HMO.out.fr _ (List.getElem_mem hmf))
              have HKr : Hid (IL wr (.slice Ak k ck) ks) := Ls.kept IntR.stab HKI.out HST.out.ka (by decide)
              obtain ⟨gk, ok, rfl, _, hck1⟩ := IL.get HKr.out hjs
              rw [hm] at hck1
              obtain ⟨Af', cf', Al', cl', Ax', cx', ee, _, HL9, HF9⟩ := HMV9.out
              injection ee with ee
              injection ee with ee
              injection ee with ee0 ee
              injection ee with ee1 ee
              injection ee with ee2 ee
              injection ee with ee3 _
              injection ee2 with ee2 _ ee2'
              injection ee3 with ee3 _ ee3'
              subst ee2 ee2' ee3 ee3'
              clear ee0 ee1
              have HL9 := Lib.hid HL9
              have HF9 := Lib.hid HF9
              obtain ⟨-, -, hcl⟩ := cap_le HL9.out
              obtain ⟨-, -, hcx⟩ := cap_le HF9.out
              obtain ⟨g1, o1, rfl, hg1, p1⟩ := RL.get HL9.out hml
              obtain ⟨g2, o2, Af1, cf1, rfl, hg2', RF1, p2⟩ := OneR.get HF9.out hmf
              obtain ⟨g3, o3, rfl, hg3, p3⟩ := RL.get HRA9.out hma
              rw [HRF.out] at p2 RF1
              have HC1 := Lib.hid (fun w' (h : Kept tRat w9 w') => (Ls.cells RatR.one HL9.out (p := m) (by omega) h).trans p1)
              have HC2 := Lib.hid (fun w' (h : Kept tRats w9 w') => (Ls.cells OneR.one HF9.out (p := m) (by omega) h).trans p2)
              have HC3 := Lib.hid (fun w' (h : Kept tRat w9 w') => (Ls.cells RatR.one HRA9.out (p := m) (by omega) h).trans p3)
              have HPF : Hid (PR w9 [.slice Af1 r cf1] fac[m]) := ⟨Af1, cf1, by rw [HRF.out], by rw [HRF.out]; exact RF1.out⟩
              clear p1 p2 p3 RF1
              generalize lin[m] = xl at *
              generalize fac[m] = xf at *
              generalize a[m] = xa at *
              obtain ⟨tl, htl⟩ : ∃ tl, ratText xl = tl := ⟨_, rfl⟩
              obtain ⟨ta, hta⟩ : ∃ ta, ratText xa = ta := ⟨_, rfl⟩
              have HTL := Lib.hid htl
              have HTA := Lib.hid hta
              rw [htl] at HC1
              rw [hta] at HC3
              clear htl hta
              have hbt : (j + 1) * 24 ≤ 140737488355328 := by omega
              have hbt' : (j + 1) * 16 ≤ 140737488355328 := by omega
              have hmk' : (m : Int) < k := by omega
              obtain ⟨AL, cpL, xL, rfl, _, _, RL0, _⟩ := HST.out.oL.parts
              obtain ⟨AF, cpF, xF, rfl, _, _, RF0, _⟩ := HST.out.oF.parts
              obtain ⟨AY, cpY, xY, rfl, _, _, RY0, _⟩ := HST.out.oY.parts
              rw [PL'.out, PF.out, PA.out] at HST
              rw [PA.out]
              clear RL0 RF0 RY0 hm
              go_upto_region 17 with fail
              clear hck1
              obtain ⟨S, hSd⟩ : ∃ S : World → Prop, S = fun w' => (w'.cell? ⟨g10, 2, none⟩ = some (.slice AL j cpL) ∧ w'.cell? ⟨g10, 3, none⟩ = some (.slice AF j cpF)) ∧ (w'.cell? ⟨w4.heap.size, 2, none⟩ = some (.slice (some ⟨g1, o1, none⟩) k cl) ∧ w'.cell? ⟨w4.heap.size, 3, none⟩ = some (.slice (some ⟨g2, o2, none⟩) k cx)) ∧ w'.cell? ⟨g1, o1 + m, none⟩ = some (.string ⟨tl.toArray⟩) ∧ w'.cell? ⟨g2, o2 + m, none⟩ = some (.slice Af1 r cf1) ∧ w'.cell? ⟨g3, o3 + m, none⟩ = some (.string ⟨ta.toArray⟩) := ⟨_, rfl⟩
              have HSI : Hid (∀ w', S w' → (w'.cell? ⟨g10, 2, none⟩ = some (.slice AL j cpL) ∧ w'.cell? ⟨g10, 3, none⟩ = some (.slice AF j cpF)) ∧ (w'.cell? ⟨w4.heap.size, 2, none⟩ = some (.slice (some ⟨g1, o1, none⟩) k cl) ∧ w'.cell? ⟨w4.heap.size, 3, none⟩ = some (.slice (some ⟨g2, o2, none⟩) k cx)) ∧ w'.cell? ⟨g1, o1 + m, none⟩ = some (.string ⟨tl.toArray⟩) ∧ w'.cell? ⟨g2, o2 + m, none⟩ = some (.slice Af1 r cf1) ∧ w'.cell? ⟨g3, o3 + m, none⟩ = some (.string ⟨ta.toArray⟩)) := by rw [Hid, hSd]; exact fun _ h => h
              have HSS : Hid (∀ w', (∀ u, tMach ≠ u → Kept u w9 w') → Blk w' w4.heap.size tMach [.slice Af k cf, .string ⟨tc⟩, .slice (some ⟨g1, o1, none⟩) k cl, .slice (some ⟨g2, o2, none⟩) k cx] → Blk w' g10 tMach [.slice A5 k c5, .string ⟨tc⟩, .slice AL j cpL, .slice AF j cpF] → S w') := by
                rw [Hid, hSd]
                exact fun w' hk h8 h10 => ⟨⟨h10.cell (i := 2) rfl, h10.cell (i := 3) rfl⟩, ⟨h8.cell (i := 2) rfl, h8.cell (i := 3) rfl⟩, HC1.out w' (hk _ (by decide)), HC2.out w' (hk _ (by decide)), HC3.out w' (hk _ (by decide))⟩
              have HST := Lib.hid (HST.out.ext (Ext.refl wr).drew)
              have HS0 : Hid (S wr.drew) := HSS.out _ HST.out.ka HST.out.b8 HST.out.b10
              clear hSd
              refine AnyT.start (S := S) (T := fun j => decide (26 ≤ j)) (by kernel_rfl) ?_
              obtain ⟨wd, hwd⟩ : ∃ wd : World, wr.drew = wd := ⟨_, rfl⟩
              rw [hwd] at HST HS0 ⊢
              clear hwd
              refine AnyT.loadD 0 70 (.pointer (some ⟨g10, 2, none⟩)) rfl (by kernel_rfl) (by kernel_rfl) (by kernel_rfl) (by kernel_rfl) (by kernel_rfl) (fun _ _ _ h => h) HS0.out ?_ ?_
              · intro o ho
                simp only [List.getElem?_toArray, List.getElem?_cons_zero, Option.some.injEq] at ho
                subst ho
                refine ⟨rfl, rfl, fun w' hSw => ?_⟩
                have hs := HSI.out w' hSw
                go_split_ands
                go_simp
              simp only [Act.put, List.setIfInBounds_toArray, List.set_cons_zero, List.set_cons_succ]
              refine AnyT.loadD 1 71 (.slice AL j cpL) rfl (by kernel_rfl) (by kernel_rfl) (by kernel_rfl) (by kernel_rfl) (by kernel_rfl) (fun _ _ _ h => h) HS0.out ?_ ?_
              · intro o ho
                simp only [List.getElem?_toArray, List.getElem?_cons_succ, List.getElem?_cons_zero, Option.some.injEq] at ho
                subst ho
                refine ⟨rfl, rfl, fun w' hSw => ?_⟩
                have hs := HSI.out w' hSw
                go_split_ands
                go_simp
              simp only [Act.put, List.setIfInBounds_toArray, List.set_cons_zero, List.set_cons_succ]
              refine AnyT.loadD 2 72 (.pointer (some ⟨w4.heap.size, 2, none⟩)) rfl (by kernel_rfl) (by kernel_rfl) (by kernel_rfl) (by kernel_rfl) (by kernel_rfl) (fun _ _ _ h => h) HS0.out ?_ ?_
              · intro o ho
                simp only [List.getElem?_toArray, List.getElem?_cons_succ, List.getElem?_cons_zero, Option.some.injEq] at ho
                subst ho
                refine ⟨rfl, rfl, fun w' hSw => ?_⟩
                have hs := HSI.out w' hSw
                go_split_ands
                go_simp
              simp only [Act.put, List.setIfInBounds_toArray, List.set_cons_zero, List.set_cons_succ]
              refine AnyT.loadD 3 73 (.slice (some ⟨g1, o1, none⟩) k cl) rfl (by kernel_rfl) (by kernel_rfl) (by kernel_rfl) (by kernel_rfl) (by kernel_rfl) (fun _ _ _ h => h) HS0.out ?_ ?_
              · intro o ho
                simp only [List.getElem?_toArray, List.getElem?_cons_succ, List.getElem?_cons_zero, Option.some.injEq] at ho
                subst ho
                refine ⟨rfl, rfl, fun w' hSw => ?_⟩
                have hs := HSI.out w' hSw
                go_split_ands
                go_simp
              simp only [Act.put, List.setIfInBounds_toArray, List.set_cons_zero, List.set_cons_succ]
              refine AnyT.loadD 4 74 (.int .i64 m) rfl (by kernel_rfl) (by kernel_rfl) (by kernel_rfl) (by kernel_rfl) (by kernel_rfl) (fun _ _ _ h => h) HS0.out ?_ ?_
              · intro o ho
                simp only [List.getElem?_toArray, List.getElem?_cons_succ, List.getElem?_cons_zero, Option.some.injEq] at ho
                subst ho
                refine ⟨rfl, rfl, fun w' hSw => ?_⟩
                have hs := HSI.out w' hSw
                go_split_ands
                go_simp
              simp only [Act.put, List.setIfInBounds_toArray, List.set_cons_zero, List.set_cons_succ]
              refine AnyT.loadD 5 75 (.pointer (some ⟨g1, o1 + m, none⟩)) rfl (by kernel_rfl) (by kernel_rfl) (by kernel_rfl) (by kernel_rfl) (by kernel_rfl) (fun _ _ _ h => h) HS0.out ?_ ?_
              · intro o ho
                simp only [List.getElem?_toArray, List.getElem?_cons_succ, List.getElem?_cons_zero, Option.some.injEq] at ho
                subst ho
                refine ⟨rfl, rfl, fun w' hSw => ?_⟩
                have hs := HSI.out w' hSw
                go_split_ands
                go_simp
              simp only [Act.put, List.setIfInBounds_toArray, List.set_cons_zero, List.set_cons_succ]
              refine AnyT.loadD 6 76 (.string ⟨tl.toArray⟩) rfl (by kernel_rfl) (by kernel_rfl) (by kernel_rfl) (by kernel_rfl) (by kernel_rfl) (fun _ _ _ h => h) HS0.out ?_ ?_
              · intro o ho
                simp only [List.getElem?_toArray, List.getElem?_cons_succ, List.getElem?_cons_zero, Option.some.injEq] at ho
                subst ho
                refine ⟨rfl, rfl, fun w' hSw => ?_⟩
                have hs := HSI.out w' hSw
                go_split_ands
                go_simp
              simp only [Act.put, List.setIfInBounds_toArray, List.set_cons_zero, List.set_cons_succ]
              refine AnyT.loadD 9 79 (.pointer (some ⟨g10, 3, none⟩)) rfl (by kernel_rfl) (by kernel_rfl) (by kernel_rfl) (by kernel_rfl) (by kernel_rfl) (fun _ _ _ h => h) HS0.out ?_ ?_
              · intro o ho
                simp only [List.getElem?_toArray, List.getElem?_cons_succ, List.getElem?_cons_zero, Option.some.injEq] at ho
                subst ho
                refine ⟨rfl, rfl, fun w' hSw => ?_⟩
                have hs := HSI.out w' hSw
                go_split_ands
                go_simp
              simp only [Act.put, List.setIfInBounds_toArray, List.set_cons_zero, List.set_cons_succ]
              refine AnyT.loadD 10 80 (.slice AF j cpF) rfl (by kernel_rfl) (by kernel_rfl) (by kernel_rfl) (by kernel_rfl) (by kernel_rfl) (fun _ _ _ h => h) HS0.out ?_ ?_
              · intro o ho
                simp only [List.getElem?_toArray, List.getElem?_cons_succ, List.getElem?_cons_zero, Option.some.injEq] at ho
                subst ho
                refine ⟨rfl, rfl, fun w' hSw => ?_⟩
                have hs := HSI.out w' hSw
                go_split_ands
                go_simp
              simp only [Act.put, List.setIfInBounds_toArray, List.set_cons_zero, List.set_cons_succ]
              refine AnyT.loadD 11 81 (.pointer (some ⟨w4.heap.size, 3, none⟩)) rfl (by kernel_rfl) (by kernel_rfl) (by kernel_rfl) (by kernel_rfl) (by kernel_rfl) (fun _ _ _ h => h) HS0.out ?_ ?_
              · intro o ho
                simp only [List.getElem?_toArray, List.getElem?_cons_succ, List.getElem?_cons_zero, Option.some.injEq] at ho
                subst ho
                refine ⟨rfl, rfl, fun w' hSw => ?_⟩
                have hs := HSI.out w' hSw
                go_split_ands
                go_simp
              simp only [Act.put, List.setIfInBounds_toArray, List.set_cons_zero, List.set_cons_succ]
              refine AnyT.loadD 12 82 (.slice (some ⟨g2, o2, none⟩) k cx) rfl (by kernel_rfl) (by kernel_rfl) (by kernel_rfl) (by kernel_rfl) (by kernel_rfl) (fun _ _ _ h => h) HS0.out ?_ ?_
              · intro o ho
                simp only [List.getElem?_toArray, List.getElem?_cons_succ, List.getElem?_cons_zero, Option.some.injEq] at ho
                subst ho
                refine ⟨rfl, rfl, fun w' hSw => ?_⟩
                have hs := HSI.out w' hSw
                go_split_ands
                go_simp
              simp only [Act.put, List.setIfInBounds_toArray, List.set_cons_zero, List.set_cons_succ]
              refine AnyT.loadD 13 83 (.int .i64 m) rfl (by kernel_rfl) (by kernel_rfl) (by kernel_rfl) (by kernel_rfl) (by kernel_rfl) (fun _ _ _ h => h) HS0.out ?_ ?_
              · intro o ho
                simp only [List.getElem?_toArray, List.getElem?_cons_succ, List.getElem?_cons_zero, Option.some.injEq] at ho
                subst ho
                refine ⟨rfl, rfl, fun w' hSw => ?_⟩
                have hs := HSI.out w' hSw
                go_split_ands
                go_simp
              simp only [Act.put, List.setIfInBounds_toArray, List.set_cons_zero, List.set_cons_succ]
              refine AnyT.loadD 14 84 (.pointer (some ⟨g2, o2 + m, none⟩)) rfl (by kernel_rfl) (by kernel_rfl) (by kernel_rfl) (by kernel_rfl) (by kernel_rfl) (fun _ _ _ h => h) HS0.out ?_ ?_
              · intro o ho
                simp only [List.getElem?_toArray, List.getElem?_cons_succ, List.getElem?_cons_zero, Option.some.injEq] at ho
                subst ho
                refine ⟨rfl, rfl, fun w' hSw => ?_⟩
                have hs := HSI.out w' hSw
                go_split_ands
                go_simp
              simp only [Act.put, List.setIfInBounds_toArray, List.set_cons_zero, List.set_cons_succ]
              refine AnyT.loadD 15 85 (.slice Af1 r cf1) rfl (by kernel_rfl) (by kernel_rfl) (by kernel_rfl) (by kernel_rfl) (by kernel_rfl) (fun _ _ _ h => h) HS0.out ?_ ?_
              · intro o ho
                simp only [List.getElem?_toArray, List.getElem?_cons_succ, List.getElem?_cons_zero, Option.some.injEq] at ho
                subst ho
                refine ⟨rfl, rfl, fun w' hSw => ?_⟩
                have hs := HSI.out w' hSw
                go_split_ands
                go_simp
              simp only [Act.put, List.setIfInBounds_toArray, List.set_cons_zero, List.set_cons_succ]
              refine AnyT.loadD 18 88 (.slice AY j cpY) rfl (by kernel_rfl) (by kernel_rfl) (by kernel_rfl) (by kernel_rfl) (by kernel_rfl) (fun _ _ _ h => h) HS0.out ?_ ?_
              · intro o ho
                simp only [List.getElem?_toArray, List.getElem?_cons_succ, List.getElem?_cons_zero, Option.some.injEq] at ho
                subst ho
                refine ⟨rfl, rfl, fun w' hSw => ?_⟩
                have hs := HSI.out w' hSw
                go_split_ands
                go_simp
              simp only [Act.put, List.setIfInBounds_toArray, List.set_cons_zero, List.set_cons_succ]
              refine AnyT.loadD 19 89 (.slice (some ⟨g3, o3, none⟩) k ca) rfl (by kernel_rfl) (by kernel_rfl) (by kernel_rfl) (by kernel_rfl) (by kernel_rfl) (fun _ _ _ h => h) HS0.out ?_ ?_
              · intro o ho
                simp only [List.getElem?_toArray, List.getElem?_cons_succ, List.getElem?_cons_zero, Option.some.injEq] at ho
                subst ho
                refine ⟨rfl, rfl, fun w' hSw => ?_⟩
                have hs := HSI.out w' hSw
                go_split_ands
                go_simp
              simp only [Act.put, List.setIfInBounds_toArray, List.set_cons_zero, List.set_cons_succ]
              refine AnyT.loadD 20 90 (.int .i64 m) rfl (by kernel_rfl) (by kernel_rfl) (by kernel_rfl) (by kernel_rfl) (by kernel_rfl) (fun _ _ _ h => h) HS0.out ?_ ?_
              · intro o ho
                simp only [List.getElem?_toArray, List.getElem?_cons_succ, List.getElem?_cons_zero, Option.some.injEq] at ho
                subst ho
                refine ⟨rfl, rfl, fun w' hSw => ?_⟩
                have hs := HSI.out w' hSw
                go_split_ands
                go_simp
              simp only [Act.put, List.setIfInBounds_toArray, List.set_cons_zero, List.set_cons_succ]
              refine AnyT.loadD 21 91 (.pointer (some ⟨g3, o3 + m, none⟩)) rfl (by kernel_rfl) (by kernel_rfl) (by kernel_rfl) (by kernel_rfl) (by kernel_rfl) (fun _ _ _ h => h) HS0.out ?_ ?_
              · intro o ho
                simp only [List.getElem?_toArray, List.getElem?_cons_succ, List.getElem?_cons_zero, Option.some.injEq] at ho
                subst ho
                refine ⟨rfl, rfl, fun w' hSw => ?_⟩
                have hs := HSI.out w' hSw
                go_split_ands
                go_simp
              simp only [Act.put, List.setIfInBounds_toArray, List.set_cons_zero, List.set_cons_succ]
              refine AnyT.loadD 22 92 (.string ⟨ta.toArray⟩) rfl (by kernel_rfl) (by kernel_rfl) (by kernel_rfl) (by kernel_rfl) (by kernel_rfl) (fun _ _ _ h => h) HS0.out ?_ ?_
              · intro o ho
                simp only [List.getElem?_toArray, List.getElem?_cons_succ, List.getElem?_cons_zero, Option.some.injEq] at ho
                subst ho
                refine ⟨rfl, rfl, fun w' hSw => ?_⟩
                have hs := HSI.out w' hSw
                go_split_ands
                go_simp
              simp only [Act.put, List.setIfInBounds_toArray, List.set_cons_zero, List.set_cons_succ]
              refine AnyT.three 7 16 23 (by kernel_rfl) ?_ ?_ ?_
              · skip
                intro o ho K hK
                simp only [List.getElem?_toArray, List.getElem?_cons_succ, List.getElem?_cons_zero, Option.some.injEq] at ho
                subst ho
                go_simp
                refine hK.out _ _ (fun _ => HSS.out _ (HST.out.ext ((Ext.refl _).alloc _)).ka (HST.out.ext ((Ext.refl _).alloc _)).b8 (HST.out.ext ((Ext.refl _).alloc _)).b10) ?_
                refine box1 (P := fun W => AnyT _ _ _ _ _ _ _ _ _ W) fun WZ HXZ BQ => ?_
                have BZ1 := Lib.hid (HST.out.new BQ.out)
                have HST := Lib.hid (HST.out.ext HXZ.out)
                clear HXZ BQ
                refine AnyT.three 8 16 23 (by kernel_rfl) ?_ ?_ ?_
                · skip
                  intro o ho K hK
                  simp only [List.getElem?_toArray, List.getElem?_cons_succ, List.getElem?_cons_zero, Option.some.injEq] at ho
                  subst ho
                  refine if_go rfl ?_
                  obtain ⟨xq, RQ, CQ⟩ := HST.out.oL
                  rw [PL'.out] at RQ
                  refine wp_appB _ _ tRats rfl w9.heap.size rat_slice _ _ _ rfl RQ _ [.string ⟨tl.toArray⟩] BZ1.out.b 1 1 rfl rfl rfl hbt' HST.out.hs ?_
                  intro v' wq ho hg hb
                  obtain ⟨Aq, cq', rfl, _, _, _⟩ := own_parts ho
                  have HST := Lib.hid (HST.out.appL e8 e10 e11 HX9.out.size PL'.out RQ CQ (x := xl) (by rw [HTL.out]; exact ho) hg hb)
                  have BZ1 := Lib.hid (BZ1.out.appL hg hb)
                  clear RQ CQ ho hg hb
                  simp only [Act.put, List.setIfInBounds_toArray, List.set_cons_zero, List.set_cons_succ]
                  refine hK.out _ _ (fun _ => HSS.out _ HST.out.ka HST.out.b8 HST.out.b10) ?_
                  clear HS0
                  have HS0 := Lib.hid (HSS.out _ HST.out.ka HST.out.b8 HST.out.b10)
                  refine AnyT.loadD 25 95 (.pointer (some ⟨g10, 2, none⟩)) rfl (by kernel_rfl) (by kernel_rfl) (by kernel_rfl) (by kernel_rfl) (by kernel_rfl) (fun _ _ _ h => h) HS0.out ?_ ?_
                  · intro o ho
                    simp only [List.getElem?_toArray, List.getElem?_cons_succ, List.getElem?_cons_zero, Option.some.injEq] at ho
                    subst ho
                    refine ⟨rfl, rfl, fun w' hSw => ?_⟩
                    have hs := HSI.out w' hSw
                    go_split_ands
                    go_simp
                  simp only [Act.put, List.setIfInBounds_toArray, List.set_cons_zero, List.set_cons_succ]
                  refine AnyT.two 16 23 (by kernel_rfl) ?_ ?_
                  · skip
                    intro o ho K hK
                    simp only [List.getElem?_toArray, List.getElem?_cons_succ, List.getElem?_cons_zero, Option.some.injEq] at ho
                    subst ho
                    go_simp
                    refine hK.out _ _ (fun _ => HSS.out _ (HST.out.ext ((Ext.refl _).alloc _)).ka (HST.out.ext ((Ext.refl _).alloc _)).b8 (HST.out.ext ((Ext.refl _).alloc _)).b10) ?_
                    refine box1 (P := fun W => AnyT _ _ _ _ _ _ _ _ _ W) fun WZ HXZ BQ => ?_
                    have BZ1 := Lib.hid (BZ1.out.ext (HXZ.out))
                    have BZ2 := Lib.hid (HST.out.new BQ.out)
                    have HST := Lib.hid (HST.out.ext HXZ.out)
                    clear HXZ BQ
                    refine AnyT.two 17 23 (by kernel_rfl) ?_ ?_
                    · skip
                      intro o ho K hK
                      simp only [List.getElem?_toArray, List.getElem?_cons_succ, List.getElem?_cons_zero, Option.some.injEq] at ho
                      subst ho
                      refine if_go rfl ?_
                      obtain ⟨xq, RQ, CQ⟩ := HST.out.oF
                      rw [PF.out] at RQ
                      refine wp_appB _ _ 31 rfl w9.heap.size rats_slice _ _ _ rfl RQ _ [.slice Af1 r cf1] BZ2.out.b 1 1 rfl rfl rfl hbt HST.out.hs ?_
                      intro v' wq ho hg hb
                      obtain ⟨Aq, cq', rfl, _, _, _⟩ := own_parts ho
                      have HST := Lib.hid (HST.out.appF e8 e10 e11 HX9.out.size PF.out RQ CQ HPF.out ho hg)
                      have BZ1 := Lib.hid (BZ1.out.appF hg hb)
                      have BZ2 := Lib.hid (BZ2.out.appF hg hb)
                      clear RQ CQ ho hg hb
                      simp only [Act.put, List.setIfInBounds_toArray, List.set_cons_zero, List.set_cons_succ]
                      refine hK.out _ _ (fun _ => HSS.out _ HST.out.ka HST.out.b8 HST.out.b10) ?_
                      refine AnyT.step 23 (by kernel_rfl) ?_
                      intro o ho K hK
                      simp only [List.getElem?_toArray, List.getElem?_cons_succ, List.getElem?_cons_zero, Option.some.injEq] at ho
                      subst ho
                      go_simp
                      refine hK.out _ _ (fun _ => HSS.out _ (HST.out.ext ((Ext.refl _).alloc _)).ka (HST.out.ext ((Ext.refl _).alloc _)).b8 (HST.out.ext ((Ext.refl _).alloc _)).b10) ?_
                      refine box1 (P := fun W => AnyT _ _ _ _ _ _ _ _ _ W) fun WZ HXZ BQ => ?_
                      have BZ1 := Lib.hid (BZ1.out.ext (HXZ.out))
                      have BZ2 := Lib.hid (BZ2.out.ext (HXZ.out))
                      have BZ3 := Lib.hid (HST.out.new BQ.out)
                      have HST := Lib.hid (HST.out.ext HXZ.out)
                      clear HXZ BQ
                      refine AnyT.step 24 (by kernel_rfl) ?_
                      intro o ho K hK
                      simp only [List.getElem?_toArray, List.getElem?_cons_succ, List.getElem?_cons_zero, Option.some.injEq] at ho
                      subst ho
                      refine if_go rfl ?_
                      obtain ⟨xq, RQ, CQ⟩ := HST.out.oY
                      rw [PA.out] at RQ
                      refine wp_appB _ _ tRats rfl w9.heap.size rat_slice _ _ _ rfl RQ _ [.string ⟨ta.toArray⟩] BZ3.out.b 1 1 rfl rfl rfl hbt' HST.out.hs ?_
                      intro v' wq ho hg hb
                      obtain ⟨Aq, cq', rfl, _, _, _⟩ := own_parts ho
                      have HST := Lib.hid (HST.out.appY e8 e10 e11 HX9.out.size PA.out RQ CQ (x := xa) (by rw [HTA.out]; exact ho) hg hb)
                      
                      clear RQ CQ ho hg hb
                      simp only [Act.put, List.setIfInBounds_toArray, List.set_cons_zero, List.set_cons_succ]
                      refine hK.out _ _ (fun _ => HSS.out _ HST.out.ka HST.out.b8 HST.out.b10) ?_
                      have i0 := HST.out.b10.cell (i := 2) rfl
                      have i1 := HST.out.b10.frozen 2
                      obtain ⟨W1, hW1, HST⟩ := HST.out.putE e10 (by omega) (Ne.symm hne) (by have := HX6s.out; omega) 2 (.slice _ (j + 1) _)
                      have HW1 := Lib.hid hW1
                      clear hW1
                      refine AnyT.step 26 (by kernel_rfl) ?_
                      intro o ho K hK
                      simp only [List.getElem?_toArray, List.getElem?_cons_succ, List.getElem?_cons_zero, Option.some.injEq] at ho
                      subst ho
                      go_simp
                      refine hK.out _ _ (fun h => by cases h) ?_
                      rw [HW1.out]
                      clear i0 i1 HW1
                      refine AnyT.step 27 (by kernel_rfl) ?_
                      intro o ho K hK
                      simp only [List.getElem?_toArray, List.getElem?_cons_succ, List.getElem?_cons_zero, Option.some.injEq] at ho
                      subst ho
                      go_simp
                      refine hK.out _ _ (fun h => by cases h) ?_
                      have i0 := HST.out.b10.cell (i := 3) rfl
                      have i1 := HST.out.b10.frozen 3
                      obtain ⟨W2, hW2, HST⟩ := HST.out.putE e10 (by omega) (Ne.symm hne) (by have := HX6s.out; omega) 3 (.slice _ (j + 1) _)
                      have HW2 := Lib.hid hW2
                      clear hW2
                      refine AnyT.step 28 (by kernel_rfl) ?_
                      intro o ho K hK
                      simp only [List.getElem?_toArray, List.getElem?_cons_succ, List.getElem?_cons_zero, Option.some.injEq] at ho
                      subst ho
                      go_simp
                      refine hK.out _ _ (fun h => by cases h) ?_
                      rw [HW2.out]
                      clear i0 i1 HW2
                      refine AnyT.step 29 (by kernel_rfl) ?_
                      intro o ho K hK
                      simp only [List.getElem?_toArray, List.getElem?_cons_succ, List.getElem?_cons_zero, Option.some.injEq] at ho
                      subst ho
                      go_simp
                      refine hK.out _ _ (fun h => by cases h) ?_
                      refine AnyT.done (by kernel_rfl) ?_
                      go_wp2_with fail
                      go_roundw
                      case rel => exact ⟨j + 1, _, _, by omega, by go_num, by rw [NL.out, NF.out, NA.out]; exact HST⟩
                      case measure => simp [RowKit.intOf]; omega
                    · skip
                      intro o ho K hK
                      simp only [List.getElem?_toArray, List.getElem?_cons_succ, List.getElem?_cons_zero, Option.some.injEq] at ho
                      subst ho
                      go_simp
                      refine hK.out _ _ (fun _ => HSS.out _ (HST.out.ext ((Ext.refl _).alloc _)).ka (HST.out.ext ((Ext.refl _).alloc _)).b8 (HST.out.ext ((Ext.refl _).alloc _)).b10) ?_
                      refine box1 (P := fun W => AnyT _ _ _ _ _ _ _ _ _ W) fun WZ HXZ BQ => ?_
                      have BZ1 := Lib.hid (BZ1.out.ext (HXZ.out))
                      have BZ2 := Lib.hid (BZ2.out.ext (HXZ.out))
                      have BZ3 := Lib.hid (HST.out.new BQ.out)
                      have HST := Lib.hid (HST.out.ext HXZ.out)
                      clear HXZ BQ
                      refine AnyT.step 17 (by kernel_rfl) ?_
                      intro o ho K hK
                      simp only [List.getElem?_toArray, List.getElem?_cons_succ, List.getElem?_cons_zero, Option.some.injEq] at ho
                      subst ho
                      refine if_go rfl ?_
                      obtain ⟨xq, RQ, CQ⟩ := HST.out.oF
                      rw [PF.out] at RQ
                      refine wp_appB _ _ 31 rfl w9.heap.size rats_slice _ _ _ rfl RQ _ [.slice Af1 r cf1] BZ2.out.b 1 1 rfl rfl rfl hbt HST.out.hs ?_
                      intro v' wq ho hg hb
                      obtain ⟨Aq, cq', rfl, _, _, _⟩ := own_parts ho
                      have HST := Lib.hid (HST.out.appF e8 e10 e11 HX9.out.size PF.out RQ CQ HPF.out ho hg)
                      have BZ1 := Lib.hid (BZ1.out.appF hg hb)
                      have BZ2 := Lib.hid (BZ2.out.appF hg hb)
                      have BZ3 := Lib.hid (BZ3.out.appF hg hb)
                      clear RQ CQ ho hg hb
                      simp only [Act.put, List.setIfInBounds_toArray, List.set_cons_zero, List.set_cons_succ]
                      refine hK.out _ _ (fun _ => HSS.out _ HST.out.ka HST.out.b8 HST.out.b10) ?_
                      refine AnyT.step 24 (by kernel_rfl) ?_
                      intro o ho K hK
                      simp only [List.getElem?_toArray, List.getElem?_cons_succ, List.getElem?_cons_zero, Option.some.injEq] at ho
                      subst ho
                      refine if_go rfl ?_
                      obtain ⟨xq, RQ, CQ⟩ := HST.out.oY
                      rw [PA.out] at RQ
                      refine wp_appB _ _ tRats rfl w9.heap.size rat_slice _ _ _ rfl RQ _ [.string ⟨ta.toArray⟩] BZ3.out.b 1 1 rfl rfl rfl hbt' HST.out.hs ?_
                      intro v' wq ho hg hb
                      obtain ⟨Aq, cq', rfl, _, _, _⟩ := own_parts ho
                      have HST := Lib.hid (HST.out.appY e8 e10 e11 HX9.out.size PA.out RQ CQ (x := xa) (by rw [HTA.out]; exact ho) hg hb)
                      
                      clear RQ CQ ho hg hb
                      simp only [Act.put, List.setIfInBounds_toArray, List.set_cons_zero, List.set_cons_succ]
                      refine hK.out _ _ (fun _ => HSS.out _ HST.out.ka HST.out.b8 HST.out.b10) ?_
                      have i0 := HST.out.b10.cell (i := 2) rfl
                      have i1 := HST.out.b10.frozen 2
                      obtain ⟨W1, hW1, HST⟩ := HST.out.putE e10 (by omega) (Ne.symm hne) (by have := HX6s.out; omega) 2 (.slice _ (j + 1) _)
                      have HW1 := Lib.hid hW1
                      clear hW1
                      refine AnyT.step 26 (by kernel_rfl) ?_
                      intro o ho K hK
                      simp only [List.getElem?_toArray, List.getElem?_cons_succ, List.getElem?_cons_zero, Option.some.injEq] at ho
                      subst ho
                      go_simp
                      refine hK.out _ _ (fun h => by cases h) ?_
                      rw [HW1.out]
                      clear i0 i1 HW1
                      refine AnyT.step 27 (by kernel_rfl) ?_
                      intro o ho K hK
                      simp only [List.getElem?_toArray, List.getElem?_cons_succ, List.getElem?_cons_zero, Option.some.injEq] at ho
                      subst ho
                      go_simp
                      refine hK.out _ _ (fun h => by cases h) ?_
                      have i0 := HST.out.b10.cell (i := 3) rfl
                      have i1 := HST.out.b10.frozen 3
                      obtain ⟨W2, hW2, HST⟩ := HST.out.putE e10 (by omega) (Ne.symm hne) (by have := HX6s.out; omega) 3 (.slice _ (j + 1) _)
                      have HW2 := Lib.hid hW2
                      clear hW2
                      refine AnyT.step 28 (by kernel_rfl) ?_
                      intro o ho K hK
                      simp only [List.getElem?_toArray, List.getElem?_cons_succ, List.getElem?_cons_zero, Option.some.injEq] at ho
                      subst ho
                      go_simp
                      refine hK.out _ _ (fun h => by cases h) ?_
                      rw [HW2.out]
                      clear i0 i1 HW2
                      refine AnyT.step 29 (by kernel_rfl) ?_
                      intro o ho K hK
                      simp only [List.getElem?_toArray, List.getElem?_cons_succ, List.getElem?_cons_zero, Option.some.injEq] at ho
                      subst ho
                      go_simp
                      refine hK.out _ _ (fun h => by cases h) ?_
                      refine AnyT.done (by kernel_rfl) ?_
                      go_wp2_with fail
                      go_roundw
                      case rel => exact ⟨j + 1, _, _, by omega, by go_num, by rw [NL.out, NF.out, NA.out]; exact HST⟩
                      case measure => simp [RowKit.intOf]; omega
                  · skip
                    intro o ho K hK
                    simp only [List.getElem?_toArray, List.getElem?_cons_succ, List.getElem?_cons_zero, Option.some.injEq] at ho
                    subst ho
                    go_simp
                    refine hK.out _ _ (fun _ => HSS.out _ (HST.out.ext ((Ext.refl _).alloc _)).ka (HST.out.ext ((Ext.refl _).alloc _)).b8 (HST.out.ext ((Ext.refl _).alloc _)).b10) ?_
                    refine box1 (P := fun W => AnyT _ _ _ _ _ _ _ _ _ W) fun WZ HXZ BQ => ?_
                    have BZ1 := Lib.hid (BZ1.out.ext (HXZ.out))
                    have BZ3 := Lib.hid (HST.out.new BQ.out)
                    have HST := Lib.hid (HST.out.ext HXZ.out)
                    clear HXZ BQ
                    refine AnyT.step 16 (by kernel_rfl) ?_
                    intro o ho K hK
                    simp only [List.getElem?_toArray, List.getElem?_cons_succ, List.getElem?_cons_zero, Option.some.injEq] at ho
                    subst ho
                    go_simp
                    refine hK.out _ _ (fun _ => HSS.out _ (HST.out.ext ((Ext.refl _).alloc _)).ka (HST.out.ext ((Ext.refl _).alloc _)).b8 (HST.out.ext ((Ext.refl _).alloc _)).b10) ?_
                    refine box1 (P := fun W => AnyT _ _ _ _ _ _ _ _ _ W) fun WZ HXZ BQ => ?_
                    have BZ1 := Lib.hid (BZ1.out.ext (HXZ.out))
                    have BZ3 := Lib.hid (BZ3.out.ext (HXZ.out))
                    have BZ2 := Lib.hid (HST.out.new BQ.out)
                    have HST := Lib.hid (HST.out.ext HXZ.out)
                    clear HXZ BQ
                    refine AnyT.step 17 (by kernel_rfl) ?_
                    intro o ho K hK
                    simp only [List.getElem?_toArray, List.getElem?_cons_succ, List.getElem?_cons_zero, Option.some.injEq] at ho
                    subst ho
                    refine if_go rfl ?_
                    obtain ⟨xq, RQ, CQ⟩ := HST.out.oF
                    rw [PF.out] at RQ
                    refine wp_appB _ _ 31 rfl w9.heap.size rats_slice _ _ _ rfl RQ _ [.slice Af1 r cf1] BZ2.out.b 1 1 rfl rfl rfl hbt HST.out.hs ?_
                    intro v' wq ho hg hb
                    obtain ⟨Aq, cq', rfl, _, _, _⟩ := own_parts ho
                    have HST := Lib.hid (HST.out.appF e8 e10 e11 HX9.out.size PF.out RQ CQ HPF.out ho hg)
                    have BZ1 := Lib.hid (BZ1.out.appF hg hb)
                    have BZ3 := Lib.hid (BZ3.out.appF hg hb)
                    have BZ2 := Lib.hid (BZ2.out.appF hg hb)
                    clear RQ CQ ho hg hb
                    simp only [Act.put, List.setIfInBounds_toArray, List.set_cons_zero, List.set_cons_succ]
                    refine hK.out _ _ (fun _ => HSS.out _ HST.out.ka HST.out.b8 HST.out.b10) ?_
                    refine AnyT.step 24 (by kernel_rfl) ?_
                    intro o ho K hK
                    simp only [List.getElem?_toArray, List.getElem?_cons_succ, List.getElem?_cons_zero, Option.some.injEq] at ho
                    subst ho
                    refine if_go rfl ?_
                    obtain ⟨xq, RQ, CQ⟩ := HST.out.oY
                    rw [PA.out] at RQ
                    refine wp_appB _ _ tRats rfl w9.heap.size rat_slice _ _ _ rfl RQ _ [.string ⟨ta.toArray⟩] BZ3.out.b 1 1 rfl rfl rfl hbt' HST.out.hs ?_
                    intro v' wq ho hg hb
                    obtain ⟨Aq, cq', rfl, _, _, _⟩ := own_parts ho
                    have HST := Lib.hid (HST.out.appY e8 e10 e11 HX9.out.size PA.out RQ CQ (x := xa) (by rw [HTA.out]; exact ho) hg hb)
                    
                    clear RQ CQ ho hg hb
                    simp only [Act.put, List.setIfInBounds_toArray, List.set_cons_zero, List.set_cons_succ]
                    refine hK.out _ _ (fun _ => HSS.out _ HST.out.ka HST.out.b8 HST.out.b10) ?_
                    have i0 := HST.out.b10.cell (i := 2) rfl
                    have i1 := HST.out.b10.frozen 2
                    obtain ⟨W1, hW1, HST⟩ := HST.out.putE e10 (by omega) (Ne.symm hne) (by have := HX6s.out; omega) 2 (.slice _ (j + 1) _)
                    have HW1 := Lib.hid hW1
                    clear hW1
                    refine AnyT.step 26 (by kernel_rfl) ?_
                    intro o ho K hK
                    simp only [List.getElem?_toArray, List.getElem?_cons_succ, List.getElem?_cons_zero, Option.some.injEq] at ho
                    subst ho
                    go_simp
                    refine hK.out _ _ (fun h => by cases h) ?_
                    rw [HW1.out]
                    clear i0 i1 HW1
                    refine AnyT.step 27 (by kernel_rfl) ?_
                    intro o ho K hK
                    simp only [List.getElem?_toArray, List.getElem?_cons_succ, List.getElem?_cons_zero, Option.some.injEq] at ho
                    subst ho
                    go_simp
                    refine hK.out _ _ (fun h => by cases h) ?_
                    have i0 := HST.out.b10.cell (i := 3) rfl
                    have i1 := HST.out.b10.frozen 3
                    obtain ⟨W2, hW2, HST⟩ := HST.out.putE e10 (by omega) (Ne.symm hne) (by have := HX6s.out; omega) 3 (.slice _ (j + 1) _)
                    have HW2 := Lib.hid hW2
                    clear hW2
                    refine AnyT.step 28 (by kernel_rfl) ?_
                    intro o ho K hK
                    simp only [List.getElem?_toArray, List.getElem?_cons_succ, List.getElem?_cons_zero, Option.some.injEq] at ho
                    subst ho
                    go_simp
                    refine hK.out _ _ (fun h => by cases h) ?_
                    rw [HW2.out]
                    clear i0 i1 HW2
                    refine AnyT.step 29 (by kernel_rfl) ?_
                    intro o ho K hK
                    simp only [List.getElem?_toArray, List.getElem?_cons_succ, List.getElem?_cons_zero, Option.some.injEq] at ho
                    subst ho
                    go_simp
                    refine hK.out _ _ (fun h => by cases h) ?_
                    refine AnyT.done (by kernel_rfl) ?_
                    go_wp2_with fail
                    go_roundw
                    case rel => exact ⟨j + 1, _, _, by omega, by go_num, by rw [NL.out, NF.out, NA.out]; exact HST⟩
                    case measure => simp [RowKit.intOf]; omega
                · skip
                  intro o ho K hK
                  simp only [List.getElem?_toArray, List.getElem?_cons_succ, List.getElem?_cons_zero, Option.some.injEq] at ho
                  subst ho
                  go_simp
                  refine hK.out _ _ (fun _ => HSS.out _ (HST.out.ext ((Ext.refl _).alloc _)).ka (HST.out.ext ((Ext.refl _).alloc _)).b8 (HST.out.ext ((Ext.refl _).alloc _)).b10) ?_
                  refine box1 (P := fun W => AnyT _ _ _ _ _ _ _ _ _ W) fun WZ HXZ BQ => ?_
                  have BZ1 := Lib.hid (BZ1.out.ext (HXZ.out))
                  have BZ2 := Lib.hid (HST.out.new BQ.out)
                  have HST := Lib.hid (HST.out.ext HXZ.out)
                  clear HXZ BQ
                  refine AnyT.two 8 23 (by kernel_rfl) ?_ ?_
                  · skip
                    intro o ho K hK
                    simp only [List.getElem?_toArray, List.getElem?_cons_succ, List.getElem?_cons_zero, Option.some.injEq] at ho
                    subst ho
                    refine if_go rfl ?_
                    obtain ⟨xq, RQ, CQ⟩ := HST.out.oL
                    rw [PL'.out] at RQ
                    refine wp_appB _ _ tRats rfl w9.heap.size rat_slice _ _ _ rfl RQ _ [.string ⟨tl.toArray⟩] BZ1.out.b 1 1 rfl rfl rfl hbt' HST.out.hs ?_
                    intro v' wq ho hg hb
                    obtain ⟨Aq, cq', rfl, _, _, _⟩ := own_parts ho
                    have HST := Lib.hid (HST.out.appL e8 e10 e11 HX9.out.size PL'.out RQ CQ (x := xl) (by rw [HTL.out]; exact ho) hg hb)
                    have BZ1 := Lib.hid (BZ1.out.appL hg hb)
                    have BZ2 := Lib.hid (BZ2.out.appL hg hb)
                    clear RQ CQ ho hg hb
                    simp only [Act.put, List.setIfInBounds_toArray, List.set_cons_zero, List.set_cons_succ]
                    refine hK.out _ _ (fun _ => HSS.out _ HST.out.ka HST.out.b8 HST.out.b10) ?_
                    clear HS0
                    have HS0 := Lib.hid (HSS.out _ HST.out.ka HST.out.b8 HST.out.b10)
                    refine AnyT.loadD 25 95 (.pointer (some ⟨g10, 2, none⟩)) rfl (by kernel_rfl) (by kernel_rfl) (by kernel_rfl) (by kernel_rfl) (by kernel_rfl) (fun _ _ _ h => h) HS0.out ?_ ?_
                    · intro o ho
                      simp only [List.getElem?_toArray, List.getElem?_cons_succ, List.getElem?_cons_zero, Option.some.injEq] at ho
                      subst ho
                      refine ⟨rfl, rfl, fun w' hSw => ?_⟩
                      have hs := HSI.out w' hSw
                      go_split_ands
                      go_simp
                    simp only [Act.put, List.setIfInBounds_toArray, List.set_cons_zero, List.set_cons_succ]
                    refine AnyT.two 17 23 (by kernel_rfl) ?_ ?_
                    · skip
                      intro o ho K hK
                      simp only [List.getElem?_toArray, List.getElem?_cons_succ, List.getElem?_cons_zero, Option.some.injEq] at ho
                      subst ho
                      refine if_go rfl ?_
                      obtain ⟨xq, RQ, CQ⟩ := HST.out.oF
                      rw [PF.out] at RQ
                      refine wp_appB _ _ 31 rfl w9.heap.size rats_slice _ _ _ rfl RQ _ [.slice Af1 r cf1] BZ2.out.b 1 1 rfl rfl rfl hbt HST.out.hs ?_
                      intro v' wq ho hg hb
                      obtain ⟨Aq, cq', rfl, _, _, _⟩ := own_parts ho
                      have HST := Lib.hid (HST.out.appF e8 e10 e11 HX9.out.size PF.out RQ CQ HPF.out ho hg)
                      have BZ1 := Lib.hid (BZ1.out.appF hg hb)
                      have BZ2 := Lib.hid (BZ2.out.appF hg hb)
                      clear RQ CQ ho hg hb
                      simp only [Act.put, List.setIfInBounds_toArray, List.set_cons_zero, List.set_cons_succ]
                      refine hK.out _ _ (fun _ => HSS.out _ HST.out.ka HST.out.b8 HST.out.b10) ?_
                      refine AnyT.step 23 (by kernel_rfl) ?_
                      intro o ho K hK
                      simp only [List.getElem?_toArray, List.getElem?_cons_succ, List.getElem?_cons_zero, Option.some.injEq] at ho
                      subst ho
                      go_simp
                      refine hK.out _ _ (fun _ => HSS.out _ (HST.out.ext ((Ext.refl _).alloc _)).ka (HST.out.ext ((Ext.refl _).alloc _)).b8 (HST.out.ext ((Ext.refl _).alloc _)).b10) ?_
                      refine box1 (P := fun W => AnyT _ _ _ _ _ _ _ _ _ W) fun WZ HXZ BQ => ?_
                      have BZ1 := Lib.hid (BZ1.out.ext (HXZ.out))
                      have BZ2 := Lib.hid (BZ2.out.ext (HXZ.out))
                      have BZ3 := Lib.hid (HST.out.new BQ.out)
                      have HST := Lib.hid (HST.out.ext HXZ.out)
                      clear HXZ BQ
                      refine AnyT.step 24 (by kernel_rfl) ?_
                      intro o ho K hK
                      simp only [List.getElem?_toArray, List.getElem?_cons_succ, List.getElem?_cons_zero, Option.some.injEq] at ho
                      subst ho
                      refine if_go rfl ?_
                      obtain ⟨xq, RQ, CQ⟩ := HST.out.oY
                      rw [PA.out] at RQ
                      refine wp_appB _ _ tRats rfl w9.heap.size rat_slice _ _ _ rfl RQ _ [.string ⟨ta.toArray⟩] BZ3.out.b 1 1 rfl rfl rfl hbt' HST.out.hs ?_
                      intro v' wq ho hg hb
                      obtain ⟨Aq, cq', rfl, _, _, _⟩ := own_parts ho
                      have HST := Lib.hid (HST.out.appY e8 e10 e11 HX9.out.size PA.out RQ CQ (x := xa) (by rw [HTA.out]; exact ho) hg hb)
                      
                      clear RQ CQ ho hg hb
                      simp only [Act.put, List.setIfInBounds_toArray, List.set_cons_zero, List.set_cons_succ]
                      refine hK.out _ _ (fun _ => HSS.out _ HST.out.ka HST.out.b8 HST.out.b10) ?_
                      have i0 := HST.out.b10.cell (i := 2) rfl
                      have i1 := HST.out.b10.frozen 2
                      obtain ⟨W1, hW1, HST⟩ := HST.out.putE e10 (by omega) (Ne.symm hne) (by have := HX6s.out; omega) 2 (.slice _ (j + 1) _)
                      have HW1 := Lib.hid hW1
                      clear hW1
                      refine AnyT.step 26 (by kernel_rfl) ?_
                      intro o ho K hK
                      simp only [List.getElem?_toArray, List.getElem?_cons_succ, List.getElem?_cons_zero, Option.some.injEq] at ho
                      subst ho
                      go_simp
                      refine hK.out _ _ (fun h => by cases h) ?_
                      rw [HW1.out]
                      clear i0 i1 HW1
                      refine AnyT.step 27 (by kernel_rfl) ?_
                      intro o ho K hK
                      simp only [List.getElem?_toArray, List.getElem?_cons_succ, List.getElem?_cons_zero, Option.some.injEq] at ho
                      subst ho
                      go_simp
                      refine hK.out _ _ (fun h => by cases h) ?_
                      have i0 := HST.out.b10.cell (i := 3) rfl
                      have i1 := HST.out.b10.frozen 3
                      obtain ⟨W2, hW2, HST⟩ := HST.out.putE e10 (by omega) (Ne.symm hne) (by have := HX6s.out; omega) 3 (.slice _ (j + 1) _)
                      have HW2 := Lib.hid hW2
                      clear hW2
                      refine AnyT.step 28 (by kernel_rfl) ?_
                      intro o ho K hK
                      simp only [List.getElem?_toArray, List.getElem?_cons_succ, List.getElem?_cons_zero, Option.some.injEq] at ho
                      subst ho
                      go_simp
                      refine hK.out _ _ (fun h => by cases h) ?_
                      rw [HW2.out]
                      clear i0 i1 HW2
                      refine AnyT.step 29 (by kernel_rfl) ?_
                      intro o ho K hK
                      simp only [List.getElem?_toArray, List.getElem?_cons_succ, List.getElem?_cons_zero, Option.some.injEq] at ho
                      subst ho
                      go_simp
                      refine hK.out _ _ (fun h => by cases h) ?_
                      refine AnyT.done (by kernel_rfl) ?_
                      go_wp2_with fail
                      go_roundw
                      case rel => exact ⟨j + 1, _, _, by omega, by go_num, by rw [NL.out, NF.out, NA.out]; exact HST⟩
                      case measure => simp [RowKit.intOf]; omega
                    · skip
                      intro o ho K hK
                      simp only [List.getElem?_toArray, List.getElem?_cons_succ, List.getElem?_cons_zero, Option.some.injEq] at ho
                      subst ho
                      go_simp
                      refine hK.out _ _ (fun _ => HSS.out _ (HST.out.ext ((Ext.refl _).alloc _)).ka (HST.out.ext ((Ext.refl _).alloc _)).b8 (HST.out.ext ((Ext.refl _).alloc _)).b10) ?_
                      refine box1 (P := fun W => AnyT _ _ _ _ _ _ _ _ _ W) fun WZ HXZ BQ => ?_
                      have BZ1 := Lib.hid (BZ1.out.ext (HXZ.out))
                      have BZ2 := Lib.hid (BZ2.out.ext (HXZ.out))
                      have BZ3 := Lib.hid (HST.out.new BQ.out)
                      have HST := Lib.hid (HST.out.ext HXZ.out)
                      clear HXZ BQ
                      refine AnyT.step 17 (by kernel_rfl) ?_
                      intro o ho K hK
                      simp only [List.getElem?_toArray, List.getElem?_cons_succ, List.getElem?_cons_zero, Option.some.injEq] at ho
                      subst ho
                      refine if_go rfl ?_
                      obtain ⟨xq, RQ, CQ⟩ := HST.out.oF
                      rw [PF.out] at RQ
                      refine wp_appB _ _ 31 rfl w9.heap.size rats_slice _ _ _ rfl RQ _ [.slice Af1 r cf1] BZ2.out.b 1 1 rfl rfl rfl hbt HST.out.hs ?_
                      intro v' wq ho hg hb
                      obtain ⟨Aq, cq', rfl, _, _, _⟩ := own_parts ho
                      have HST := Lib.hid (HST.out.appF e8 e10 e11 HX9.out.size PF.out RQ CQ HPF.out ho hg)
                      have BZ1 := Lib.hid (BZ1.out.appF hg hb)
                      have BZ2 := Lib.hid (BZ2.out.appF hg hb)
                      have BZ3 := Lib.hid (BZ3.out.appF hg hb)
                      clear RQ CQ ho hg hb
                      simp only [Act.put, List.setIfInBounds_toArray, List.set_cons_zero, List.set_cons_succ]
                      refine hK.out _ _ (fun _ => HSS.out _ HST.out.ka HST.out.b8 HST.out.b10) ?_
                      refine AnyT.step 24 (by kernel_rfl) ?_
                      intro o ho K hK
                      simp only [List.getElem?_toArray, List.getElem?_cons_succ, List.getElem?_cons_zero, Option.some.injEq] at ho
                      subst ho
                      refine if_go rfl ?_
                      obtain ⟨xq, RQ, CQ⟩ := HST.out.oY
                      rw [PA.out] at RQ
                      refine wp_appB _ _ tRats rfl w9.heap.size rat_slice _ _ _ rfl RQ _ [.string ⟨ta.toArray⟩] BZ3.out.b 1 1 rfl rfl rfl hbt' HST.out.hs ?_
                      intro v' wq ho hg hb
                      obtain ⟨Aq, cq', rfl, _, _, _⟩ := own_parts ho
                      have HST := Lib.hid (HST.out.appY e8 e10 e11 HX9.out.size PA.out RQ CQ (x := xa) (by rw [HTA.out]; exact ho) hg hb)
                      
                      clear RQ CQ ho hg hb
                      simp only [Act.put, List.setIfInBounds_toArray, List.set_cons_zero, List.set_cons_succ]
                      refine hK.out _ _ (fun _ => HSS.out _ HST.out.ka HST.out.b8 HST.out.b10) ?_
                      have i0 := HST.out.b10.cell (i := 2) rfl
                      have i1 := HST.out.b10.frozen 2
                      obtain ⟨W1, hW1, HST⟩ := HST.out.putE e10 (by omega) (Ne.symm hne) (by have := HX6s.out; omega) 2 (.slice _ (j + 1) _)
                      have HW1 := Lib.hid hW1
                      clear hW1
                      refine AnyT.step 26 (by kernel_rfl) ?_
                      intro o ho K hK
                      simp only [List.getElem?_toArray, List.getElem?_cons_succ, List.getElem?_cons_zero, Option.some.injEq] at ho
                      subst ho
                      go_simp
                      refine hK.out _ _ (fun h => by cases h) ?_
                      rw [HW1.out]
                      clear i0 i1 HW1
                      refine AnyT.step 27 (by kernel_rfl) ?_
                      intro o ho K hK
                      simp only [List.getElem?_toArray, List.getElem?_cons_succ, List.getElem?_cons_zero, Option.some.injEq] at ho
                      subst ho
                      go_simp
                      refine hK.out _ _ (fun h => by cases h) ?_
                      have i0 := HST.out.b10.cell (i := 3) rfl
                      have i1 := HST.out.b10.frozen 3
                      obtain ⟨W2, hW2, HST⟩ := HST.out.putE e10 (by omega) (Ne.symm hne) (by have := HX6s.out; omega) 3 (.slice _ (j + 1) _)
                      have HW2 := Lib.hid hW2
                      clear hW2
                      refine AnyT.step 28 (by kernel_rfl) ?_
                      intro o ho K hK
                      simp only [List.getElem?_toArray, List.getElem?_cons_succ, List.getElem?_cons_zero, Option.some.injEq] at ho
                      subst ho
                      go_simp
                      refine hK.out _ _ (fun h => by cases h) ?_
                      rw [HW2.out]
                      clear i0 i1 HW2
                      refine AnyT.step 29 (by kernel_rfl) ?_
                      intro o ho K hK
                      simp only [List.getElem?_toArray, List.getElem?_cons_succ, List.getElem?_cons_zero, Option.some.injEq] at ho
                      subst ho
                      go_simp
                      refine hK.out _ _ (fun h => by cases h) ?_
                      refine AnyT.done (by kernel_rfl) ?_
                      go_wp2_with fail
                      go_roundw
                      case rel => exact ⟨j + 1, _, _, by omega, by go_num, by rw [NL.out, NF.out, NA.out]; exact HST⟩
                      case measure => simp [RowKit.intOf]; omega
                  · skip
                    intro o ho K hK
                    simp only [List.getElem?_toArray, List.getElem?_cons_succ, List.getElem?_cons_zero, Option.some.injEq] at ho
                    subst ho
                    go_simp
                    refine hK.out _ _ (fun _ => HSS.out _ (HST.out.ext ((Ext.refl _).alloc _)).ka (HST.out.ext ((Ext.refl _).alloc _)).b8 (HST.out.ext ((Ext.refl _).alloc _)).b10) ?_
                    refine box1 (P := fun W => AnyT _ _ _ _ _ _ _ _ _ W) fun WZ HXZ BQ => ?_
                    have BZ1 := Lib.hid (BZ1.out.ext (HXZ.out))
                    have BZ2 := Lib.hid (BZ2.out.ext (HXZ.out))
                    have BZ3 := Lib.hid (HST.out.new BQ.out)
                    have HST := Lib.hid (HST.out.ext HXZ.out)
                    clear HXZ BQ
                    refine AnyT.step 8 (by kernel_rfl) ?_
                    intro o ho K hK
                    simp only [List.getElem?_toArray, List.getElem?_cons_succ, List.getElem?_cons_zero, Option.some.injEq] at ho
                    subst ho
                    refine if_go rfl ?_
                    obtain ⟨xq, RQ, CQ⟩ := HST.out.oL
                    rw [PL'.out] at RQ
                    refine wp_appB _ _ tRats rfl w9.heap.size rat_slice _ _ _ rfl RQ _ [.string ⟨tl.toArray⟩] BZ1.out.b 1 1 rfl rfl rfl hbt' HST.out.hs ?_
                    intro v' wq ho hg hb
                    obtain ⟨Aq, cq', rfl, _, _, _⟩ := own_parts ho
                    have HST := Lib.hid (HST.out.appL e8 e10 e11 HX9.out.size PL'.out RQ CQ (x := xl) (by rw [HTL.out]; exact ho) hg hb)
                    have BZ1 := Lib.hid (BZ1.out.appL hg hb)
                    have BZ2 := Lib.hid (BZ2.out.appL hg hb)
                    have BZ3 := Lib.hid (BZ3.out.appL hg hb)
                    clear RQ CQ ho hg hb
                    simp only [Act.put, List.setIfInBounds_toArray, List.set_cons_zero, List.set_cons_succ]
                    refine hK.out _ _ (fun _ => HSS.out _ HST.out.ka HST.out.b8 HST.out.b10) ?_
                    clear HS0
                    have HS0 := Lib.hid (HSS.out _ HST.out.ka HST.out.b8 HST.out.b10)
                    refine AnyT.loadD 25 95 (.pointer (some ⟨g10, 2, none⟩)) rfl (by kernel_rfl) (by kernel_rfl) (by kernel_rfl) (by kernel_rfl) (by kernel_rfl) (fun _ _ _ h => h) HS0.out ?_ ?_
                    · intro o ho
                      simp only [List.getElem?_toArray, List.getElem?_cons_succ, List.getElem?_cons_zero, Option.some.injEq] at ho
                      subst ho
                      refine ⟨rfl, rfl, fun w' hSw => ?_⟩
                      have hs := HSI.out w' hSw
                      go_split_ands
                      go_simp
                    simp only [Act.put, List.setIfInBounds_toArray, List.set_cons_zero, List.set_cons_succ]
                    refine AnyT.step 17 (by kernel_rfl) ?_
                    intro o ho K hK
                    simp only [List.getElem?_toArray, List.getElem?_cons_succ, List.getElem?_cons_zero, Option.some.injEq] at ho
                    subst ho
                    refine if_go rfl ?_
                    obtain ⟨xq, RQ, CQ⟩ := HST.out.oF
                    rw [PF.out] at RQ
                    refine wp_appB _ _ 31 rfl w9.heap.size rats_slice _ _ _ rfl RQ _ [.slice Af1 r cf1] BZ2.out.b 1 1 rfl rfl rfl hbt HST.out.hs ?_
                    intro v' wq ho hg hb
                    obtain ⟨Aq, cq', rfl, _, _, _⟩ := own_parts ho
                    have HST := Lib.hid (HST.out.appF e8 e10 e11 HX9.out.size PF.out RQ CQ HPF.out ho hg)
                    have BZ1 := Lib.hid (BZ1.out.appF hg hb)
                    have BZ2 := Lib.hid (BZ2.out.appF hg hb)
                    have BZ3 := Lib.hid (BZ3.out.appF hg hb)
                    clear RQ CQ ho hg hb
                    simp only [Act.put, List.setIfInBounds_toArray, List.set_cons_zero, List.set_cons_succ]
                    refine hK.out _ _ (fun _ => HSS.out _ HST.out.ka HST.out.b8 HST.out.b10) ?_
                    refine AnyT.step 24 (by kernel_rfl) ?_
                    intro o ho K hK
                    simp only [List.getElem?_toArray, List.getElem?_cons_succ, List.getElem?_cons_zero, Option.some.injEq] at ho
                    subst ho
                    refine if_go rfl ?_
                    obtain ⟨xq, RQ, CQ⟩ := HST.out.oY
                    rw [PA.out] at RQ
                    refine wp_appB _ _ tRats rfl w9.heap.size rat_slice _ _ _ rfl RQ _ [.string ⟨ta.toArray⟩] BZ3.out.b 1 1 rfl rfl rfl hbt' HST.out.hs ?_
                    intro v' wq ho hg hb
                    obtain ⟨Aq, cq', rfl, _, _, _⟩ := own_parts ho
                    have HST := Lib.hid (HST.out.appY e8 e10 e11 HX9.out.size PA.out RQ CQ (x := xa) (by rw [HTA.out]; exact ho) hg hb)
                    
                    clear RQ CQ ho hg hb
                    simp only [Act.put, List.setIfInBounds_toArray, List.set_cons_zero, List.set_cons_succ]
                    refine hK.out _ _ (fun _ => HSS.out _ HST.out.ka HST.out.b8 HST.out.b10) ?_
                    have i0 := HST.out.b10.cell (i := 2) rfl
                    have i1 := HST.out.b10.frozen 2
                    obtain ⟨W1, hW1, HST⟩ := HST.out.putE e10 (by omega) (Ne.symm hne) (by have := HX6s.out; omega) 2 (.slice _ (j + 1) _)
                    have HW1 := Lib.hid hW1
                    clear hW1
                    refine AnyT.step 26 (by kernel_rfl) ?_
                    intro o ho K hK
                    simp only [List.getElem?_toArray, List.getElem?_cons_succ, List.getElem?_cons_zero, Option.some.injEq] at ho
                    subst ho
                    go_simp
                    refine hK.out _ _ (fun h => by cases h) ?_
                    rw [HW1.out]
                    clear i0 i1 HW1
                    refine AnyT.step 27 (by kernel_rfl) ?_
                    intro o ho K hK
                    simp only [List.getElem?_toArray, List.getElem?_cons_succ, List.getElem?_cons_zero, Option.some.injEq] at ho
                    subst ho
                    go_simp
                    refine hK.out _ _ (fun h => by cases h) ?_
                    have i0 := HST.out.b10.cell (i := 3) rfl
                    have i1 := HST.out.b10.frozen 3
                    obtain ⟨W2, hW2, HST⟩ := HST.out.putE e10 (by omega) (Ne.symm hne) (by have := HX6s.out; omega) 3 (.slice _ (j + 1) _)
                    have HW2 := Lib.hid hW2
                    clear hW2
                    refine AnyT.step 28 (by kernel_rfl) ?_
                    intro o ho K hK
                    simp only [List.getElem?_toArray, List.getElem?_cons_succ, List.getElem?_cons_zero, Option.some.injEq] at ho
                    subst ho
                    go_simp
                    refine hK.out _ _ (fun h => by cases h) ?_
                    rw [HW2.out]
                    clear i0 i1 HW2
                    refine AnyT.step 29 (by kernel_rfl) ?_
                    intro o ho K hK
                    simp only [List.getElem?_toArray, List.getElem?_cons_succ, List.getElem?_cons_zero, Option.some.injEq] at ho
                    subst ho
                    go_simp
                    refine hK.out _ _ (fun h => by cases h) ?_
                    refine AnyT.done (by kernel_rfl) ?_
                    go_wp2_with fail
                    go_roundw
                    case rel => exact ⟨j + 1, _, _, by omega, by go_num, by rw [NL.out, NF.out, NA.out]; exact HST⟩
                    case measure => simp [RowKit.intOf]; omega
                · skip
                  intro o ho K hK
                  simp only [List.getElem?_toArray, List.getElem?_cons_succ, List.getElem?_cons_zero, Option.some.injEq] at ho
                  subst ho
                  go_simp
                  refine hK.out _ _ (fun _ => HSS.out _ (HST.out.ext ((Ext.refl _).alloc _)).ka (HST.out.ext ((Ext.refl _).alloc _)).b8 (HST.out.ext ((Ext.refl _).alloc _)).b10) ?_
                  refine box1 (P := fun W => AnyT _ _ _ _ _ _ _ _ _ W) fun WZ HXZ BQ => ?_
                  have BZ1 := Lib.hid (BZ1.out.ext (HXZ.out))
                  have BZ3 := Lib.hid (HST.out.new BQ.out)
                  have HST := Lib.hid (HST.out.ext HXZ.out)
                  clear HXZ BQ
                  refine AnyT.two 8 16 (by kernel_rfl) ?_ ?_
                  · skip
                    intro o ho K hK
                    simp only [List.getElem?_toArray, List.getElem?_cons_succ, List.getElem?_cons_zero, Option.some.injEq] at ho
                    subst ho
                    refine if_go rfl ?_
                    obtain ⟨xq, RQ, CQ⟩ := HST.out.oL
                    rw [PL'.out] at RQ
                    refine wp_appB _ _ tRats rfl w9.heap.size rat_slice _ _ _ rfl RQ _ [.string ⟨tl.toArray⟩] BZ1.out.b 1 1 rfl rfl rfl hbt' HST.out.hs ?_
                    intro v' wq ho hg hb
                    obtain ⟨Aq, cq', rfl, _, _, _⟩ := own_parts ho
                    have HST := Lib.hid (HST.out.appL e8 e10 e11 HX9.out.size PL'.out RQ CQ (x := xl) (by rw [HTL.out]; exact ho) hg hb)
                    have BZ1 := Lib.hid (BZ1.out.appL hg hb)
                    have BZ3 := Lib.hid (BZ3.out.appL hg hb)
                    clear RQ CQ ho hg hb
                    simp only [Act.put, List.setIfInBounds_toArray, List.set_cons_zero, List.set_cons_succ]
                    refine hK.out _ _ (fun _ => HSS.out _ HST.out.ka HST.out.b8 HST.out.b10) ?_
                    clear HS0
                    have HS0 := Lib.hid (HSS.out _ HST.out.ka HST.out.b8 HST.out.b10)
                    refine AnyT.loadD 25 95 (.pointer (some ⟨g10, 2, none⟩)) rfl (by kernel_rfl) (by kernel_rfl) (by kernel_rfl) (by kernel_rfl) (by kernel_rfl) (fun _ _ _ h => h) HS0.out ?_ ?_
                    · intro o ho
                      simp only [List.getElem?_toArray, List.getElem?_cons_succ, List.getElem?_cons_zero, Option.some.injEq] at ho
                      subst ho
                      refine ⟨rfl, rfl, fun w' hSw => ?_⟩
                      have hs := HSI.out w' hSw
                      go_split_ands
                      go_simp
                    simp only [Act.put, List.setIfInBounds_toArray, List.set_cons_zero, List.set_cons_succ]
                    refine AnyT.step 16 (by kernel_rfl) ?_
                    intro o ho K hK
                    simp only [List.getElem?_toArray, List.getElem?_cons_succ, List.getElem?_cons_zero, Option.some.injEq] at ho
                    subst ho
                    go_simp
                    refine hK.out _ _ (fun _ => HSS.out _ (HST.out.ext ((Ext.refl _).alloc _)).ka (HST.out.ext ((Ext.refl _).alloc _)).b8 (HST.out.ext ((Ext.refl _).alloc _)).b10) ?_
                    refine box1 (P := fun W => AnyT _ _ _ _ _ _ _ _ _ W) fun WZ HXZ BQ => ?_
                    have BZ1 := Lib.hid (BZ1.out.ext (HXZ.out))
                    have BZ3 := Lib.hid (BZ3.out.ext (HXZ.out))
                    have BZ2 := Lib.hid (HST.out.new BQ.out)
                    have HST := Lib.hid (HST.out.ext HXZ.out)
                    clear HXZ BQ
                    refine AnyT.step 17 (by kernel_rfl) ?_
                    intro o ho K hK
                    simp only [List.getElem?_toArray, List.getElem?_cons_succ, List.getElem?_cons_zero, Option.some.injEq] at ho
                    subst ho
                    refine if_go rfl ?_
                    obtain ⟨xq, RQ, CQ⟩ := HST.out.oF
                    rw [PF.out] at RQ
                    refine wp_appB _ _ 31 rfl w9.heap.size rats_slice _ _ _ rfl RQ _ [.slice Af1 r cf1] BZ2.out.b 1 1 rfl rfl rfl hbt HST.out.hs ?_
                    intro v' wq ho hg hb
                    obtain ⟨Aq, cq', rfl, _, _, _⟩ := own_parts ho
                    have HST := Lib.hid (HST.out.appF e8 e10 e11 HX9.out.size PF.out RQ CQ HPF.out ho hg)
                    have BZ1 := Lib.hid (BZ1.out.appF hg hb)
                    have BZ3 := Lib.hid (BZ3.out.appF hg hb)
                    have BZ2 := Lib.hid (BZ2.out.appF hg hb)
                    clear RQ CQ ho hg hb
                    simp only [Act.put, List.setIfInBounds_toArray, List.set_cons_zero, List.set_cons_succ]
                    refine hK.out _ _ (fun _ => HSS.out _ HST.out.ka HST.out.b8 HST.out.b10) ?_
                    refine AnyT.step 24 (by kernel_rfl) ?_
                    intro o ho K hK
                    simp only [List.getElem?_toArray, List.getElem?_cons_succ, List.getElem?_cons_zero, Option.some.injEq] at ho
                    subst ho
                    refine if_go rfl ?_
                    obtain ⟨xq, RQ, CQ⟩ := HST.out.oY
                    rw [PA.out] at RQ
                    refine wp_appB _ _ tRats rfl w9.heap.size rat_slice _ _ _ rfl RQ _ [.string ⟨ta.toArray⟩] BZ3.out.b 1 1 rfl rfl rfl hbt' HST.out.hs ?_
                    intro v' wq ho hg hb
                    obtain ⟨Aq, cq', rfl, _, _, _⟩ := own_parts ho
                    have HST := Lib.hid (HST.out.appY e8 e10 e11 HX9.out.size PA.out RQ CQ (x := xa) (by rw [HTA.out]; exact ho) hg hb)
                    
                    clear RQ CQ ho hg hb
                    simp only [Act.put, List.setIfInBounds_toArray, List.set_cons_zero, List.set_cons_succ]
                    refine hK.out _ _ (fun _ => HSS.out _ HST.out.ka HST.out.b8 HST.out.b10) ?_
                    have i0 := HST.out.b10.cell (i := 2) rfl
                    have i1 := HST.out.b10.frozen 2
                    obtain ⟨W1, hW1, HST⟩ := HST.out.putE e10 (by omega) (Ne.symm hne) (by have := HX6s.out; omega) 2 (.slice _ (j + 1) _)
                    have HW1 := Lib.hid hW1
                    clear hW1
                    refine AnyT.step 26 (by kernel_rfl) ?_
                    intro o ho K hK
                    simp only [List.getElem?_toArray, List.getElem?_cons_succ, List.getElem?_cons_zero, Option.some.injEq] at ho
                    subst ho
                    go_simp
                    refine hK.out _ _ (fun h => by cases h) ?_
                    rw [HW1.out]
                    clear i0 i1 HW1
                    refine AnyT.step 27 (by kernel_rfl) ?_
                    intro o ho K hK
                    simp only [List.getElem?_toArray, List.getElem?_cons_succ, List.getElem?_cons_zero, Option.some.injEq] at ho
                    subst ho
                    go_simp
                    refine hK.out _ _ (fun h => by cases h) ?_
                    have i0 := HST.out.b10.cell (i := 3) rfl
                    have i1 := HST.out.b10.frozen 3
                    obtain ⟨W2, hW2, HST⟩ := HST.out.putE e10 (by omega) (Ne.symm hne) (by have := HX6s.out; omega) 3 (.slice _ (j + 1) _)
                    have HW2 := Lib.hid hW2
                    clear hW2
                    refine AnyT.step 28 (by kernel_rfl) ?_
                    intro o ho K hK
                    simp only [List.getElem?_toArray, List.getElem?_cons_succ, List.getElem?_cons_zero, Option.some.injEq] at ho
                    subst ho
                    go_simp
                    refine hK.out _ _ (fun h => by cases h) ?_
                    rw [HW2.out]
                    clear i0 i1 HW2
                    refine AnyT.step 29 (by kernel_rfl) ?_
                    intro o ho K hK
                    simp only [List.getElem?_toArray, List.getElem?_cons_succ, List.getElem?_cons_zero, Option.some.injEq] at ho
                    subst ho
                    go_simp
                    refine hK.out _ _ (fun h => by cases h) ?_
                    refine AnyT.done (by kernel_rfl) ?_
                    go_wp2_with fail
                    go_roundw
                    case rel => exact ⟨j + 1, _, _, by omega, by go_num, by rw [NL.out, NF.out, NA.out]; exact HST⟩
                    case measure => simp [RowKit.intOf]; omega
                  · skip
                    intro o ho K hK
                    simp only [List.getElem?_toArray, List.getElem?_cons_succ, List.getElem?_cons_zero, Option.some.injEq] at ho
                    subst ho
                    go_simp
                    refine hK.out _ _ (fun _ => HSS.out _ (HST.out.ext ((Ext.refl _).alloc _)).ka (HST.out.ext ((Ext.refl _).alloc _)).b8 (HST.out.ext ((Ext.refl _).alloc _)).b10) ?_
                    refine box1 (P := fun W => AnyT _ _ _ _ _ _ _ _ _ W) fun WZ HXZ BQ => ?_
                    have BZ1 := Lib.hid (BZ1.out.ext (HXZ.out))
                    have BZ3 := Lib.hid (BZ3.out.ext (HXZ.out))
                    have BZ2 := Lib.hid (HST.out.new BQ.out)
                    have HST := Lib.hid (HST.out.ext HXZ.out)
                    clear HXZ BQ
                    refine AnyT.step 8 (by kernel_rfl) ?_
                    intro o ho K hK
                    simp only [List.getElem?_toArray, List.getElem?_cons_succ, List.getElem?_cons_zero, Option.some.injEq] at ho
                    subst ho
                    refine if_go rfl ?_
                    obtain ⟨xq, RQ, CQ⟩ := HST.out.oL
                    rw [PL'.out] at RQ
                    refine wp_appB _ _ tRats rfl w9.heap.size rat_slice _ _ _ rfl RQ _ [.string ⟨tl.toArray⟩] BZ1.out.b 1 1 rfl rfl rfl hbt' HST.out.hs ?_
                    intro v' wq ho hg hb
                    obtain ⟨Aq, cq', rfl, _, _, _⟩ := own_parts ho
                    have HST := Lib.hid (HST.out.appL e8 e10 e11 HX9.out.size PL'.out RQ CQ (x := xl) (by rw [HTL.out]; exact ho) hg hb)
                    have BZ1 := Lib.hid (BZ1.out.appL hg hb)
                    have BZ3 := Lib.hid (BZ3.out.appL hg hb)
                    have BZ2 := Lib.hid (BZ2.out.appL hg hb)
                    clear RQ CQ ho hg hb
                    simp only [Act.put, List.setIfInBounds_toArray, List.set_cons_zero, List.set_cons_succ]
                    refine hK.out _ _ (fun _ => HSS.out _ HST.out.ka HST.out.b8 HST.out.b10) ?_
                    clear HS0
                    have HS0 := Lib.hid (HSS.out _ HST.out.ka HST.out.b8 HST.out.b10)
                    refine AnyT.loadD 25 95 (.pointer (some ⟨g10, 2, none⟩)) rfl (by kernel_rfl) (by kernel_rfl) (by kernel_rfl) (by kernel_rfl) (by kernel_rfl) (fun _ _ _ h => h) HS0.out ?_ ?_
                    · intro o ho
                      simp only [List.getElem?_toArray, List.getElem?_cons_succ, List.getElem?_cons_zero, Option.some.injEq] at ho
                      subst ho
                      refine ⟨rfl, rfl, fun w' hSw => ?_⟩
                      have hs := HSI.out w' hSw
                      go_split_ands
                      go_simp
                    simp only [Act.put, List.setIfInBounds_toArray, List.set_cons_zero, List.set_cons_succ]
                    refine AnyT.step 17 (by kernel_rfl) ?_
                    intro o ho K hK
                    simp only [List.getElem?_toArray, List.getElem?_cons_succ, List.getElem?_cons_zero, Option.some.injEq] at ho
                    subst ho
                    refine if_go rfl ?_
                    obtain ⟨xq, RQ, CQ⟩ := HST.out.oF
                    rw [PF.out] at RQ
                    refine wp_appB _ _ 31 rfl w9.heap.size rats_slice _ _ _ rfl RQ _ [.slice Af1 r cf1] BZ2.out.b 1 1 rfl rfl rfl hbt HST.out.hs ?_
                    intro v' wq ho hg hb
                    obtain ⟨Aq, cq', rfl, _, _, _⟩ := own_parts ho
                    have HST := Lib.hid (HST.out.appF e8 e10 e11 HX9.out.size PF.out RQ CQ HPF.out ho hg)
                    have BZ1 := Lib.hid (BZ1.out.appF hg hb)
                    have BZ3 := Lib.hid (BZ3.out.appF hg hb)
                    have BZ2 := Lib.hid (BZ2.out.appF hg hb)
                    clear RQ CQ ho hg hb
                    simp only [Act.put, List.setIfInBounds_toArray, List.set_cons_zero, List.set_cons_succ]
                    refine hK.out _ _ (fun _ => HSS.out _ HST.out.ka HST.out.b8 HST.out.b10) ?_
                    refine AnyT.step 24 (by kernel_rfl) ?_
                    intro o ho K hK
                    simp only [List.getElem?_toArray, List.getElem?_cons_succ, List.getElem?_cons_zero, Option.some.injEq] at ho
                    subst ho
                    refine if_go rfl ?_
                    obtain ⟨xq, RQ, CQ⟩ := HST.out.oY
                    rw [PA.out] at RQ
                    refine wp_appB _ _ tRats rfl w9.heap.size rat_slice _ _ _ rfl RQ _ [.string ⟨ta.toArray⟩] BZ3.out.b 1 1 rfl rfl rfl hbt' HST.out.hs ?_
                    intro v' wq ho hg hb
                    obtain ⟨Aq, cq', rfl, _, _, _⟩ := own_parts ho
                    have HST := Lib.hid (HST.out.appY e8 e10 e11 HX9.out.size PA.out RQ CQ (x := xa) (by rw [HTA.out]; exact ho) hg hb)
                    
                    clear RQ CQ ho hg hb
                    simp only [Act.put, List.setIfInBounds_toArray, List.set_cons_zero, List.set_cons_succ]
                    refine hK.out _ _ (fun _ => HSS.out _ HST.out.ka HST.out.b8 HST.out.b10) ?_
                    have i0 := HST.out.b10.cell (i := 2) rfl
                    have i1 := HST.out.b10.frozen 2
                    obtain ⟨W1, hW1, HST⟩ := HST.out.putE e10 (by omega) (Ne.symm hne) (by have := HX6s.out; omega) 2 (.slice _ (j + 1) _)
                    have HW1 := Lib.hid hW1
                    clear hW1
                    refine AnyT.step 26 (by kernel_rfl) ?_
                    intro o ho K hK
                    simp only [List.getElem?_toArray, List.getElem?_cons_succ, List.getElem?_cons_zero, Option.some.injEq] at ho
                    subst ho
                    go_simp
                    refine hK.out _ _ (fun h => by cases h) ?_
                    rw [HW1.out]
                    clear i0 i1 HW1
                    refine AnyT.step 27 (by kernel_rfl) ?_
                    intro o ho K hK
                    simp only [List.getElem?_toArray, List.getElem?_cons_succ, List.getElem?_cons_zero, Option.some.injEq] at ho
                    subst ho
                    go_simp
                    refine hK.out _ _ (fun h => by cases h) ?_
                    have i0 := HST.out.b10.cell (i := 3) rfl
                    have i1 := HST.out.b10.frozen 3
                    obtain ⟨W2, hW2, HST⟩ := HST.out.putE e10 (by omega) (Ne.symm hne) (by have := HX6s.out; omega) 3 (.slice _ (j + 1) _)
                    have HW2 := Lib.hid hW2
                    clear hW2
                    refine AnyT.step 28 (by kernel_rfl) ?_
                    intro o ho K hK
                    simp only [List.getElem?_toArray, List.getElem?_cons_succ, List.getElem?_cons_zero, Option.some.injEq] at ho
                    subst ho
                    go_simp
                    refine hK.out _ _ (fun h => by cases h) ?_
                    rw [HW2.out]
                    clear i0 i1 HW2
                    refine AnyT.step 29 (by kernel_rfl) ?_
                    intro o ho K hK
                    simp only [List.getElem?_toArray, List.getElem?_cons_succ, List.getElem?_cons_zero, Option.some.injEq] at ho
                    subst ho
                    go_simp
                    refine hK.out _ _ (fun h => by cases h) ?_
                    refine AnyT.done (by kernel_rfl) ?_
                    go_wp2_with fail
                    go_roundw
                    case rel => exact ⟨j + 1, _, _, by omega, by go_num, by rw [NL.out, NF.out, NA.out]; exact HST⟩
                    case measure => simp [RowKit.intOf]; omega
              · skip
                intro o ho K hK
                simp only [List.getElem?_toArray, List.getElem?_cons_succ, List.getElem?_cons_zero, Option.some.injEq] at ho
                subst ho
                go_simp
                refine hK.out _ _ (fun _ => HSS.out _ (HST.out.ext ((Ext.refl _).alloc _)).ka (HST.out.ext ((Ext.refl _).alloc _)).b8 (HST.out.ext ((Ext.refl _).alloc _)).b10) ?_
                refine box1 (P := fun W => AnyT _ _ _ _ _ _ _ _ _ W) fun WZ HXZ BQ => ?_
                have BZ2 := Lib.hid (HST.out.new BQ.out)
                have HST := Lib.hid (HST.out.ext HXZ.out)
                clear HXZ BQ
                refine AnyT.two 7 23 (by kernel_rfl) ?_ ?_
                · skip
                  intro o ho K hK
                  simp only [List.getElem?_toArray, List.getElem?_cons_succ, List.getElem?_cons_zero, Option.some.injEq] at ho
                  subst ho
                  go_simp
                  refine hK.out _ _ (fun _ => HSS.out _ (HST.out.ext ((Ext.refl _).alloc _)).ka (HST.out.ext ((Ext.refl _).alloc _)).b8 (HST.out.ext ((Ext.refl _).alloc _)).b10) ?_
                  refine box1 (P := fun W => AnyT _ _ _ _ _ _ _ _ _ W) fun WZ HXZ BQ => ?_
                  have BZ2 := Lib.hid (BZ2.out.ext (HXZ.out))
                  have BZ1 := Lib.hid (HST.out.new BQ.out)
                  have HST := Lib.hid (HST.out.ext HXZ.out)
                  clear HXZ BQ
                  refine AnyT.two 8 23 (by kernel_rfl) ?_ ?_
                  · skip
                    intro o ho K hK
                    simp only [List.getElem?_toArray, List.getElem?_cons_succ, List.getElem?_cons_zero, Option.some.injEq] at ho
                    subst ho
                    refine if_go rfl ?_
                    obtain ⟨xq, RQ, CQ⟩ := HST.out.oL
                    rw [PL'.out] at RQ
                    refine wp_appB _ _ tRats rfl w9.heap.size rat_slice _ _ _ rfl RQ _ [.string ⟨tl.toArray⟩] BZ1.out.b 1 1 rfl rfl rfl hbt' HST.out.hs ?_
                    intro v' wq ho hg hb
                    obtain ⟨Aq, cq', rfl, _, _, _⟩ := own_parts ho
                    have HST := Lib.hid (HST.out.appL e8 e10 e11 HX9.out.size PL'.out RQ CQ (x := xl) (by rw [HTL.out]; exact ho) hg hb)
                    have BZ2 := Lib.hid (BZ2.out.appL hg hb)
                    have BZ1 := Lib.hid (BZ1.out.appL hg hb)
                    clear RQ CQ ho hg hb
                    simp only [Act.put, List.setIfInBounds_toArray, List.set_cons_zero, List.set_cons_succ]
                    refine hK.out _ _ (fun _ => HSS.out _ HST.out.ka HST.out.b8 HST.out.b10) ?_
                    clear HS0
                    have HS0 := Lib.hid (HSS.out _ HST.out.ka HST.out.b8 HST.out.b10)
                    refine AnyT.loadD 25 95 (.pointer (some ⟨g10, 2, none⟩)) rfl (by kernel_rfl) (by kernel_rfl) (by kernel_rfl) (by kernel_rfl) (by kernel_rfl) (fun _ _ _ h => h) HS0.out ?_ ?_
                    · intro o ho
                      simp only [List.getElem?_toArray, List.getElem?_cons_succ, List.getElem?_cons_zero, Option.some.injEq] at ho
                      subst ho
                      refine ⟨rfl, rfl, fun w' hSw => ?_⟩
                      have hs := HSI.out w' hSw
                      go_split_ands
                      go_simp
                    simp only [Act.put, List.setIfInBounds_toArray, List.set_cons_zero, List.set_cons_succ]
                    refine AnyT.two 17 23 (by kernel_rfl) ?_ ?_
                    · skip
                      intro o ho K hK
                      simp only [List.getElem?_toArray, List.getElem?_cons_succ, List.getElem?_cons_zero, Option.some.injEq] at ho
                      subst ho
                      refine if_go rfl ?_
                      obtain ⟨xq, RQ, CQ⟩ := HST.out.oF
                      rw [PF.out] at RQ
                      refine wp_appB _ _ 31 rfl w9.heap.size rats_slice _ _ _ rfl RQ _ [.slice Af1 r cf1] BZ2.out.b 1 1 rfl rfl rfl hbt HST.out.hs ?_
                      intro v' wq ho hg hb
                      obtain ⟨Aq, cq', rfl, _, _, _⟩ := own_parts ho
                      have HST := Lib.hid (HST.out.appF e8 e10 e11 HX9.out.size PF.out RQ CQ HPF.out ho hg)
                      have BZ2 := Lib.hid (BZ2.out.appF hg hb)
                      have BZ1 := Lib.hid (BZ1.out.appF hg hb)
                      clear RQ CQ ho hg hb
                      simp only [Act.put, List.setIfInBounds_toArray, List.set_cons_zero, List.set_cons_succ]
                      refine hK.out _ _ (fun _ => HSS.out _ HST.out.ka HST.out.b8 HST.out.b10) ?_
                      refine AnyT.step 23 (by kernel_rfl) ?_
                      intro o ho K hK
                      simp only [List.getElem?_toArray, List.getElem?_cons_succ, List.getElem?_cons_zero, Option.some.injEq] at ho
                      subst ho
                      go_simp
                      refine hK.out _ _ (fun _ => HSS.out _ (HST.out.ext ((Ext.refl _).alloc _)).ka (HST.out.ext ((Ext.refl _).alloc _)).b8 (HST.out.ext ((Ext.refl _).alloc _)).b10) ?_
                      refine box1 (P := fun W => AnyT _ _ _ _ _ _ _ _ _ W) fun WZ HXZ BQ => ?_
                      have BZ2 := Lib.hid (BZ2.out.ext (HXZ.out))
                      have BZ1 := Lib.hid (BZ1.out.ext (HXZ.out))
                      have BZ3 := Lib.hid (HST.out.new BQ.out)
                      have HST := Lib.hid (HST.out.ext HXZ.out)
                      clear HXZ BQ
                      refine AnyT.step 24 (by kernel_rfl) ?_
                      intro o ho K hK
                      simp only [List.getElem?_toArray, List.getElem?_cons_succ, List.getElem?_cons_zero, Option.some.injEq] at ho
                      subst ho
                      refine if_go rfl ?_
                      obtain ⟨xq, RQ, CQ⟩ := HST.out.oY
                      rw [PA.out] at RQ
                      refine wp_appB _ _ tRats rfl w9.heap.size rat_slice _ _ _ rfl RQ _ [.string ⟨ta.toArray⟩] BZ3.out.b 1 1 rfl rfl rfl hbt' HST.out.hs ?_
                      intro v' wq ho hg hb
                      obtain ⟨Aq, cq', rfl, _, _, _⟩ := own_parts ho
                      have HST := Lib.hid (HST.out.appY e8 e10 e11 HX9.out.size PA.out RQ CQ (x := xa) (by rw [HTA.out]; exact ho) hg hb)
                      
                      clear RQ CQ ho hg hb
                      simp only [Act.put, List.setIfInBounds_toArray, List.set_cons_zero, List.set_cons_succ]
                      refine hK.out _ _ (fun _ => HSS.out _ HST.out.ka HST.out.b8 HST.out.b10) ?_
                      have i0 := HST.out.b10.cell (i := 2) rfl
                      have i1 := HST.out.b10.frozen 2
                      obtain ⟨W1, hW1, HST⟩ := HST.out.putE e10 (by omega) (Ne.symm hne) (by have := HX6s.out; omega) 2 (.slice _ (j + 1) _)
                      have HW1 := Lib.hid hW1
                      clear hW1
                      refine AnyT.step 26 (by kernel_rfl) ?_
                      intro o ho K hK
                      simp only [List.getElem?_toArray, List.getElem?_cons_succ, List.getElem?_cons_zero, Option.some.injEq] at ho
                      subst ho
                      go_simp
                      refine hK.out _ _ (fun h => by cases h) ?_
                      rw [HW1.out]
                      clear i0 i1 HW1
                      refine AnyT.step 27 (by kernel_rfl) ?_
                      intro o ho K hK
                      simp only [List.getElem?_toArray, List.getElem?_cons_succ, List.getElem?_cons_zero, Option.some.injEq] at ho
                      subst ho
                      go_simp
                      refine hK.out _ _ (fun h => by cases h) ?_
                      have i0 := HST.out.b10.cell (i := 3) rfl
                      have i1 := HST.out.b10.frozen 3
                      obtain ⟨W2, hW2, HST⟩ := HST.out.putE e10 (by omega) (Ne.symm hne) (by have := HX6s.out; omega) 3 (.slice _ (j + 1) _)
                      have HW2 := Lib.hid hW2
                      clear hW2
                      refine AnyT.step 28 (by kernel_rfl) ?_
                      intro o ho K hK
                      simp only [List.getElem?_toArray, List.getElem?_cons_succ, List.getElem?_cons_zero, Option.some.injEq] at ho
                      subst ho
                      go_simp
                      refine hK.out _ _ (fun h => by cases h) ?_
                      rw [HW2.out]
                      clear i0 i1 HW2
                      refine AnyT.step 29 (by kernel_rfl) ?_
                      intro o ho K hK
                      simp only [List.getElem?_toArray, List.getElem?_cons_succ, List.getElem?_cons_zero, Option.some.injEq] at ho
                      subst ho
                      go_simp
                      refine hK.out _ _ (fun h => by cases h) ?_
                      refine AnyT.done (by kernel_rfl) ?_
                      go_wp2_with fail
                      go_roundw
                      case rel => exact ⟨j + 1, _, _, by omega, by go_num, by rw [NL.out, NF.out, NA.out]; exact HST⟩
                      case measure => simp [RowKit.intOf]; omega
                    · skip
                      intro o ho K hK
                      simp only [List.getElem?_toArray, List.getElem?_cons_succ, List.getElem?_cons_zero, Option.some.injEq] at ho
                      subst ho
                      go_simp
                      refine hK.out _ _ (fun _ => HSS.out _ (HST.out.ext ((Ext.refl _).alloc _)).ka (HST.out.ext ((Ext.refl _).alloc _)).b8 (HST.out.ext ((Ext.refl _).alloc _)).b10) ?_
                      refine box1 (P := fun W => AnyT _ _ _ _ _ _ _ _ _ W) fun WZ HXZ BQ => ?_
                      have BZ2 := Lib.hid (BZ2.out.ext (HXZ.out))
                      have BZ1 := Lib.hid (BZ1.out.ext (HXZ.out))
                      have BZ3 := Lib.hid (HST.out.new BQ.out)
                      have HST := Lib.hid (HST.out.ext HXZ.out)
                      clear HXZ BQ
                      refine AnyT.step 17 (by kernel_rfl) ?_
                      intro o ho K hK
                      simp only [List.getElem?_toArray, List.getElem?_cons_succ, List.getElem?_cons_zero, Option.some.injEq] at ho
                      subst ho
                      refine if_go rfl ?_
                      obtain ⟨xq, RQ, CQ⟩ := HST.out.oF
                      rw [PF.out] at RQ
                      refine wp_appB _ _ 31 rfl w9.heap.size rats_slice _ _ _ rfl RQ _ [.slice Af1 r cf1] BZ2.out.b 1 1 rfl rfl rfl hbt HST.out.hs ?_
                      intro v' wq ho hg hb
                      obtain ⟨Aq, cq', rfl, _, _, _⟩ := own_parts ho
                      have HST := Lib.hid (HST.out.appF e8 e10 e11 HX9.out.size PF.out RQ CQ HPF.out ho hg)
                      have BZ2 := Lib.hid (BZ2.out.appF hg hb)
                      have BZ1 := Lib.hid (BZ1.out.appF hg hb)
                      have BZ3 := Lib.hid (BZ3.out.appF hg hb)
                      clear RQ CQ ho hg hb
                      simp only [Act.put, List.setIfInBounds_toArray, List.set_cons_zero, List.set_cons_succ]
                      refine hK.out _ _ (fun _ => HSS.out _ HST.out.ka HST.out.b8 HST.out.b10) ?_
                      refine AnyT.step 24 (by kernel_rfl) ?_
                      intro o ho K hK
                      simp only [List.getElem?_toArray, List.getElem?_cons_succ, List.getElem?_cons_zero, Option.some.injEq] at ho
                      subst ho
                      refine if_go rfl ?_
                      obtain ⟨xq, RQ, CQ⟩ := HST.out.oY
                      rw [PA.out] at RQ
                      refine wp_appB _ _ tRats rfl w9.heap.size rat_slice _ _ _ rfl RQ _ [.string ⟨ta.toArray⟩] BZ3.out.b 1 1 rfl rfl rfl hbt' HST.out.hs ?_
                      intro v' wq ho hg hb
                      obtain ⟨Aq, cq', rfl, _, _, _⟩ := own_parts ho
                      have HST := Lib.hid (HST.out.appY e8 e10 e11 HX9.out.size PA.out RQ CQ (x := xa) (by rw [HTA.out]; exact ho) hg hb)
                      
                      clear RQ CQ ho hg hb
                      simp only [Act.put, List.setIfInBounds_toArray, List.set_cons_zero, List.set_cons_succ]
                      refine hK.out _ _ (fun _ => HSS.out _ HST.out.ka HST.out.b8 HST.out.b10) ?_
                      have i0 := HST.out.b10.cell (i := 2) rfl
                      have i1 := HST.out.b10.frozen 2
                      obtain ⟨W1, hW1, HST⟩ := HST.out.putE e10 (by omega) (Ne.symm hne) (by have := HX6s.out; omega) 2 (.slice _ (j + 1) _)
                      have HW1 := Lib.hid hW1
                      clear hW1
                      refine AnyT.step 26 (by kernel_rfl) ?_
                      intro o ho K hK
                      simp only [List.getElem?_toArray, List.getElem?_cons_succ, List.getElem?_cons_zero, Option.some.injEq] at ho
                      subst ho
                      go_simp
                      refine hK.out _ _ (fun h => by cases h) ?_
                      rw [HW1.out]
                      clear i0 i1 HW1
                      refine AnyT.step 27 (by kernel_rfl) ?_
                      intro o ho K hK
                      simp only [List.getElem?_toArray, List.getElem?_cons_succ, List.getElem?_cons_zero, Option.some.injEq] at ho
                      subst ho
                      go_simp
                      refine hK.out _ _ (fun h => by cases h) ?_
                      have i0 := HST.out.b10.cell (i := 3) rfl
                      have i1 := HST.out.b10.frozen 3
                      obtain ⟨W2, hW2, HST⟩ := HST.out.putE e10 (by omega) (Ne.symm hne) (by have := HX6s.out; omega) 3 (.slice _ (j + 1) _)
                      have HW2 := Lib.hid hW2
                      clear hW2
                      refine AnyT.step 28 (by kernel_rfl) ?_
                      intro o ho K hK
                      simp only [List.getElem?_toArray, List.getElem?_cons_succ, List.getElem?_cons_zero, Option.some.injEq] at ho
                      subst ho
                      go_simp
                      refine hK.out _ _ (fun h => by cases h) ?_
                      rw [HW2.out]
                      clear i0 i1 HW2
                      refine AnyT.step 29 (by kernel_rfl) ?_
                      intro o ho K hK
                      simp only [List.getElem?_toArray, List.getElem?_cons_succ, List.getElem?_cons_zero, Option.some.injEq] at ho
                      subst ho
                      go_simp
                      refine hK.out _ _ (fun h => by cases h) ?_
                      refine AnyT.done (by kernel_rfl) ?_
                      go_wp2_with fail
                      go_roundw
                      case rel => exact ⟨j + 1, _, _, by omega, by go_num, by rw [NL.out, NF.out, NA.out]; exact HST⟩
                      case measure => simp [RowKit.intOf]; omega
                  · skip
                    intro o ho K hK
                    simp only [List.getElem?_toArray, List.getElem?_cons_succ, List.getElem?_cons_zero, Option.some.injEq] at ho
                    subst ho
                    go_simp
                    refine hK.out _ _ (fun _ => HSS.out _ (HST.out.ext ((Ext.refl _).alloc _)).ka (HST.out.ext ((Ext.refl _).alloc _)).b8 (HST.out.ext ((Ext.refl _).alloc _)).b10) ?_
                    refine box1 (P := fun W => AnyT _ _ _ _ _ _ _ _ _ W) fun WZ HXZ BQ => ?_
                    have BZ2 := Lib.hid (BZ2.out.ext (HXZ.out))
                    have BZ1 := Lib.hid (BZ1.out.ext (HXZ.out))
                    have BZ3 := Lib.hid (HST.out.new BQ.out)
                    have HST := Lib.hid (HST.out.ext HXZ.out)
                    clear HXZ BQ
                    refine AnyT.step 8 (by kernel_rfl) ?_
                    intro o ho K hK
                    simp only [List.getElem?_toArray, List.getElem?_cons_succ, List.getElem?_cons_zero, Option.some.injEq] at ho
                    subst ho
                    refine if_go rfl ?_
                    obtain ⟨xq, RQ, CQ⟩ := HST.out.oL
                    rw [PL'.out] at RQ
                    refine wp_appB _ _ tRats rfl w9.heap.size rat_slice _ _ _ rfl RQ _ [.string ⟨tl.toArray⟩] BZ1.out.b 1 1 rfl rfl rfl hbt' HST.out.hs ?_
                    intro v' wq ho hg hb
                    obtain ⟨Aq, cq', rfl, _, _, _⟩ := own_parts ho
                    have HST := Lib.hid (HST.out.appL e8 e10 e11 HX9.out.size PL'.out RQ CQ (x := xl) (by rw [HTL.out]; exact ho) hg hb)
                    have BZ2 := Lib.hid (BZ2.out.appL hg hb)
                    have BZ1 := Lib.hid (BZ1.out.appL hg hb)
                    have BZ3 := Lib.hid (BZ3.out.appL hg hb)
                    clear RQ CQ ho hg hb
                    simp only [Act.put, List.setIfInBounds_toArray, List.set_cons_zero, List.set_cons_succ]
                    refine hK.out _ _ (fun _ => HSS.out _ HST.out.ka HST.out.b8 HST.out.b10) ?_
                    clear HS0
                    have HS0 := Lib.hid (HSS.out _ HST.out.ka HST.out.b8 HST.out.b10)
                    refine AnyT.loadD 25 95 (.pointer (some ⟨g10, 2, none⟩)) rfl (by kernel_rfl) (by kernel_rfl) (by kernel_rfl) (by kernel_rfl) (by kernel_rfl) (fun _ _ _ h => h) HS0.out ?_ ?_
                    · intro o ho
                      simp only [List.getElem?_toArray, List.getElem?_cons_succ, List.getElem?_cons_zero, Option.some.injEq] at ho
                      subst ho
                      refine ⟨rfl, rfl, fun w' hSw => ?_⟩
                      have hs := HSI.out w' hSw
                      go_split_ands
                      go_simp
                    simp only [Act.put, List.setIfInBounds_toArray, List.set_cons_zero, List.set_cons_succ]
                    refine AnyT.step 17 (by kernel_rfl) ?_
                    intro o ho K hK
                    simp only [List.getElem?_toArray, List.getElem?_cons_succ, List.getElem?_cons_zero, Option.some.injEq] at ho
                    subst ho
                    refine if_go rfl ?_
                    obtain ⟨xq, RQ, CQ⟩ := HST.out.oF
                    rw [PF.out] at RQ
                    refine wp_appB _ _ 31 rfl w9.heap.size rats_slice _ _ _ rfl RQ _ [.slice Af1 r cf1] BZ2.out.b 1 1 rfl rfl rfl hbt HST.out.hs ?_
                    intro v' wq ho hg hb
                    obtain ⟨Aq, cq', rfl, _, _, _⟩ := own_parts ho
                    have HST := Lib.hid (HST.out.appF e8 e10 e11 HX9.out.size PF.out RQ CQ HPF.out ho hg)
                    have BZ2 := Lib.hid (BZ2.out.appF hg hb)
                    have BZ1 := Lib.hid (BZ1.out.appF hg hb)
                    have BZ3 := Lib.hid (BZ3.out.appF hg hb)
                    clear RQ CQ ho hg hb
                    simp only [Act.put, List.setIfInBounds_toArray, List.set_cons_zero, List.set_cons_succ]
                    refine hK.out _ _ (fun _ => HSS.out _ HST.out.ka HST.out.b8 HST.out.b10) ?_
                    refine AnyT.step 24 (by kernel_rfl) ?_
                    intro o ho K hK
                    simp only [List.getElem?_toArray, List.getElem?_cons_succ, List.getElem?_cons_zero, Option.some.injEq] at ho
                    subst ho
                    refine if_go rfl ?_
                    obtain ⟨xq, RQ, CQ⟩ := HST.out.oY
                    rw [PA.out] at RQ
                    refine wp_appB _ _ tRats rfl w9.heap.size rat_slice _ _ _ rfl RQ _ [.string ⟨ta.toArray⟩] BZ3.out.b 1 1 rfl rfl rfl hbt' HST.out.hs ?_
                    intro v' wq ho hg hb
                    obtain ⟨Aq, cq', rfl, _, _, _⟩ := own_parts ho
                    have HST := Lib.hid (HST.out.appY e8 e10 e11 HX9.out.size PA.out RQ CQ (x := xa) (by rw [HTA.out]; exact ho) hg hb)
                    
                    clear RQ CQ ho hg hb
                    simp only [Act.put, List.setIfInBounds_toArray, List.set_cons_zero, List.set_cons_succ]
                    refine hK.out _ _ (fun _ => HSS.out _ HST.out.ka HST.out.b8 HST.out.b10) ?_
                    have i0 := HST.out.b10.cell (i := 2) rfl
                    have i1 := HST.out.b10.frozen 2
                    obtain ⟨W1, hW1, HST⟩ := HST.out.putE e10 (by omega) (Ne.symm hne) (by have := HX6s.out; omega) 2 (.slice _ (j + 1) _)
                    have HW1 := Lib.hid hW1
                    clear hW1
                    refine AnyT.step 26 (by kernel_rfl) ?_
                    intro o ho K hK
                    simp only [List.getElem?_toArray, List.getElem?_cons_succ, List.getElem?_cons_zero, Option.some.injEq] at ho
                    subst ho
                    go_simp
                    refine hK.out _ _ (fun h => by cases h) ?_
                    rw [HW1.out]
                    clear i0 i1 HW1
                    refine AnyT.step 27 (by kernel_rfl) ?_
                    intro o ho K hK
                    simp only [List.getElem?_toArray, List.getElem?_cons_succ, List.getElem?_cons_zero, Option.some.injEq] at ho
                    subst ho
                    go_simp
                    refine hK.out _ _ (fun h => by cases h) ?_
                    have i0 := HST.out.b10.cell (i := 3) rfl
                    have i1 := HST.out.b10.frozen 3
                    obtain ⟨W2, hW2, HST⟩ := HST.out.putE e10 (by omega) (Ne.symm hne) (by have := HX6s.out; omega) 3 (.slice _ (j + 1) _)
                    have HW2 := Lib.hid hW2
                    clear hW2
                    refine AnyT.step 28 (by kernel_rfl) ?_
                    intro o ho K hK
                    simp only [List.getElem?_toArray, List.getElem?_cons_succ, List.getElem?_cons_zero, Option.some.injEq] at ho
                    subst ho
                    go_simp
                    refine hK.out _ _ (fun h => by cases h) ?_
                    rw [HW2.out]
                    clear i0 i1 HW2
                    refine AnyT.step 29 (by kernel_rfl) ?_
                    intro o ho K hK
                    simp only [List.getElem?_toArray, List.getElem?_cons_succ, List.getElem?_cons_zero, Option.some.injEq] at ho
                    subst ho
                    go_simp
                    refine hK.out _ _ (fun h => by cases h) ?_
                    refine AnyT.done (by kernel_rfl) ?_
                    go_wp2_with fail
                    go_roundw
                    case rel => exact ⟨j + 1, _, _, by omega, by go_num, by rw [NL.out, NF.out, NA.out]; exact HST⟩
                    case measure => simp [RowKit.intOf]; omega
                · skip
                  intro o ho K hK
                  simp only [List.getElem?_toArray, List.getElem?_cons_succ, List.getElem?_cons_zero, Option.some.injEq] at ho
                  subst ho
                  go_simp
                  refine hK.out _ _ (fun _ => HSS.out _ (HST.out.ext ((Ext.refl _).alloc _)).ka (HST.out.ext ((Ext.refl _).alloc _)).b8 (HST.out.ext ((Ext.refl _).alloc _)).b10) ?_
                  refine box1 (P := fun W => AnyT _ _ _ _ _ _ _ _ _ W) fun WZ HXZ BQ => ?_
                  have BZ2 := Lib.hid (BZ2.out.ext (HXZ.out))
                  have BZ3 := Lib.hid (HST.out.new BQ.out)
                  have HST := Lib.hid (HST.out.ext HXZ.out)
                  clear HXZ BQ
                  refine AnyT.step 7 (by kernel_rfl) ?_
                  intro o ho K hK
                  simp only [List.getElem?_toArray, List.getElem?_cons_succ, List.getElem?_cons_zero, Option.some.injEq] at ho
                  subst ho
                  go_simp
                  refine hK.out _ _ (fun _ => HSS.out _ (HST.out.ext ((Ext.refl _).alloc _)).ka (HST.out.ext ((Ext.refl _).alloc _)).b8 (HST.out.ext ((Ext.refl _).alloc _)).b10) ?_
                  refine box1 (P := fun W => AnyT _ _ _ _ _ _ _ _ _ W) fun WZ HXZ BQ => ?_
                  have BZ2 := Lib.hid (BZ2.out.ext (HXZ.out))
                  have BZ3 := Lib.hid (BZ3.out.ext (HXZ.out))
                  have BZ1 := Lib.hid (HST.out.new BQ.out)
                  have HST := Lib.hid (HST.out.ext HXZ.out)
                  clear HXZ BQ
                  refine AnyT.step 8 (by kernel_rfl) ?_
                  intro o ho K hK
                  simp only [List.getElem?_toArray, List.getElem?_cons_succ, List.getElem?_cons_zero, Option.some.injEq] at ho
                  subst ho
                  refine if_go rfl ?_
                  obtain ⟨xq, RQ, CQ⟩ := HST.out.oL
                  rw [PL'.out] at RQ
                  refine wp_appB _ _ tRats rfl w9.heap.size rat_slice _ _ _ rfl RQ _ [.string ⟨tl.toArray⟩] BZ1.out.b 1 1 rfl rfl rfl hbt' HST.out.hs ?_
                  intro v' wq ho hg hb
                  obtain ⟨Aq, cq', rfl, _, _, _⟩ := own_parts ho
                  have HST := Lib.hid (HST.out.appL e8 e10 e11 HX9.out.size PL'.out RQ CQ (x := xl) (by rw [HTL.out]; exact ho) hg hb)
                  have BZ2 := Lib.hid (BZ2.out.appL hg hb)
                  have BZ3 := Lib.hid (BZ3.out.appL hg hb)
                  have BZ1 := Lib.hid (BZ1.out.appL hg hb)
                  clear RQ CQ ho hg hb
                  simp only [Act.put, List.setIfInBounds_toArray, List.set_cons_zero, List.set_cons_succ]
                  refine hK.out _ _ (fun _ => HSS.out _ HST.out.ka HST.out.b8 HST.out.b10) ?_
                  clear HS0
                  have HS0 := Lib.hid (HSS.out _ HST.out.ka HST.out.b8 HST.out.b10)
                  refine AnyT.loadD 25 95 (.pointer (some ⟨g10, 2, none⟩)) rfl (by kernel_rfl) (by kernel_rfl) (by kernel_rfl) (by kernel_rfl) (by kernel_rfl) (fun _ _ _ h => h) HS0.out ?_ ?_
                  · intro o ho
                    simp only [List.getElem?_toArray, List.getElem?_cons_succ, List.getElem?_cons_zero, Option.some.injEq] at ho
                    subst ho
                    refine ⟨rfl, rfl, fun w' hSw => ?_⟩
                    have hs := HSI.out w' hSw
                    go_split_ands
                    go_simp
                  simp only [Act.put, List.setIfInBounds_toArray, List.set_cons_zero, List.set_cons_succ]
                  refine AnyT.step 17 (by kernel_rfl) ?_
                  intro o ho K hK
                  simp only [List.getElem?_toArray, List.getElem?_cons_succ, List.getElem?_cons_zero, Option.some.injEq] at ho
                  subst ho
                  refine if_go rfl ?_
                  obtain ⟨xq, RQ, CQ⟩ := HST.out.oF
                  rw [PF.out] at RQ
                  refine wp_appB _ _ 31 rfl w9.heap.size rats_slice _ _ _ rfl RQ _ [.slice Af1 r cf1] BZ2.out.b 1 1 rfl rfl rfl hbt HST.out.hs ?_
                  intro v' wq ho hg hb
                  obtain ⟨Aq, cq', rfl, _, _, _⟩ := own_parts ho
                  have HST := Lib.hid (HST.out.appF e8 e10 e11 HX9.out.size PF.out RQ CQ HPF.out ho hg)
                  have BZ2 := Lib.hid (BZ2.out.appF hg hb)
                  have BZ3 := Lib.hid (BZ3.out.appF hg hb)
                  have BZ1 := Lib.hid (BZ1.out.appF hg hb)
                  clear RQ CQ ho hg hb
                  simp only [Act.put, List.setIfInBounds_toArray, List.set_cons_zero, List.set_cons_succ]
                  refine hK.out _ _ (fun _ => HSS.out _ HST.out.ka HST.out.b8 HST.out.b10) ?_
                  refine AnyT.step 24 (by kernel_rfl) ?_
                  intro o ho K hK
                  simp only [List.getElem?_toArray, List.getElem?_cons_succ, List.getElem?_cons_zero, Option.some.injEq] at ho
                  subst ho
                  refine if_go rfl ?_
                  obtain ⟨xq, RQ, CQ⟩ := HST.out.oY
                  rw [PA.out] at RQ
                  refine wp_appB _ _ tRats rfl w9.heap.size rat_slice _ _ _ rfl RQ _ [.string ⟨ta.toArray⟩] BZ3.out.b 1 1 rfl rfl rfl hbt' HST.out.hs ?_
                  intro v' wq ho hg hb
                  obtain ⟨Aq, cq', rfl, _, _, _⟩ := own_parts ho
                  have HST := Lib.hid (HST.out.appY e8 e10 e11 HX9.out.size PA.out RQ CQ (x := xa) (by rw [HTA.out]; exact ho) hg hb)
                  
                  clear RQ CQ ho hg hb
                  simp only [Act.put, List.setIfInBounds_toArray, List.set_cons_zero, List.set_cons_succ]
                  refine hK.out _ _ (fun _ => HSS.out _ HST.out.ka HST.out.b8 HST.out.b10) ?_
                  have i0 := HST.out.b10.cell (i := 2) rfl
                  have i1 := HST.out.b10.frozen 2
                  obtain ⟨W1, hW1, HST⟩ := HST.out.putE e10 (by omega) (Ne.symm hne) (by have := HX6s.out; omega) 2 (.slice _ (j + 1) _)
                  have HW1 := Lib.hid hW1
                  clear hW1
                  refine AnyT.step 26 (by kernel_rfl) ?_
                  intro o ho K hK
                  simp only [List.getElem?_toArray, List.getElem?_cons_succ, List.getElem?_cons_zero, Option.some.injEq] at ho
                  subst ho
                  go_simp
                  refine hK.out _ _ (fun h => by cases h) ?_
                  rw [HW1.out]
                  clear i0 i1 HW1
                  refine AnyT.step 27 (by kernel_rfl) ?_
                  intro o ho K hK
                  simp only [List.getElem?_toArray, List.getElem?_cons_succ, List.getElem?_cons_zero, Option.some.injEq] at ho
                  subst ho
                  go_simp
                  refine hK.out _ _ (fun h => by cases h) ?_
                  have i0 := HST.out.b10.cell (i := 3) rfl
                  have i1 := HST.out.b10.frozen 3
                  obtain ⟨W2, hW2, HST⟩ := HST.out.putE e10 (by omega) (Ne.symm hne) (by have := HX6s.out; omega) 3 (.slice _ (j + 1) _)
                  have HW2 := Lib.hid hW2
                  clear hW2
                  refine AnyT.step 28 (by kernel_rfl) ?_
                  intro o ho K hK
                  simp only [List.getElem?_toArray, List.getElem?_cons_succ, List.getElem?_cons_zero, Option.some.injEq] at ho
                  subst ho
                  go_simp
                  refine hK.out _ _ (fun h => by cases h) ?_
                  rw [HW2.out]
                  clear i0 i1 HW2
                  refine AnyT.step 29 (by kernel_rfl) ?_
                  intro o ho K hK
                  simp only [List.getElem?_toArray, List.getElem?_cons_succ, List.getElem?_cons_zero, Option.some.injEq] at ho
                  subst ho
                  go_simp
                  refine hK.out _ _ (fun h => by cases h) ?_
                  refine AnyT.done (by kernel_rfl) ?_
                  go_wp2_with fail
                  go_roundw
                  case rel => exact ⟨j + 1, _, _, by omega, by go_num, by rw [NL.out, NF.out, NA.out]; exact HST⟩
                  case measure => simp [RowKit.intOf]; omega
              · skip
                intro o ho K hK
                simp only [List.getElem?_toArray, List.getElem?_cons_succ, List.getElem?_cons_zero, Option.some.injEq] at ho
                subst ho
                go_simp
                refine hK.out _ _ (fun _ => HSS.out _ (HST.out.ext ((Ext.refl _).alloc _)).ka (HST.out.ext ((Ext.refl _).alloc _)).b8 (HST.out.ext ((Ext.refl _).alloc _)).b10) ?_
                refine box1 (P := fun W => AnyT _ _ _ _ _ _ _ _ _ W) fun WZ HXZ BQ => ?_
                have BZ3 := Lib.hid (HST.out.new BQ.out)
                have HST := Lib.hid (HST.out.ext HXZ.out)
                clear HXZ BQ
                refine AnyT.two 7 16 (by kernel_rfl) ?_ ?_
                · skip
                  intro o ho K hK
                  simp only [List.getElem?_toArray, List.getElem?_cons_succ, List.getElem?_cons_zero, Option.some.injEq] at ho
                  subst ho
                  go_simp
                  refine hK.out _ _ (fun _ => HSS.out _ (HST.out.ext ((Ext.refl _).alloc _)).ka (HST.out.ext ((Ext.refl _).alloc _)).b8 (HST.out.ext ((Ext.refl _).alloc _)).b10) ?_
                  refine box1 (P := fun W => AnyT _ _ _ _ _ _ _ _ _ W) fun WZ HXZ BQ => ?_
                  have BZ3 := Lib.hid (BZ3.out.ext (HXZ.out))
                  have BZ1 := Lib.hid (HST.out.new BQ.out)
                  have HST := Lib.hid (HST.out.ext HXZ.out)
                  clear HXZ BQ
                  refine AnyT.two 8 16 (by kernel_rfl) ?_ ?_
                  · skip
                    intro o ho K hK
                    simp only [List.getElem?_toArray, List.getElem?_cons_succ, List.getElem?_cons_zero, Option.some.injEq] at ho
                    subst ho
                    refine if_go rfl ?_
                    obtain ⟨xq, RQ, CQ⟩ := HST.out.oL
                    rw [PL'.out] at RQ
                    refine wp_appB _ _ tRats rfl w9.heap.size rat_slice _ _ _ rfl RQ _ [.string ⟨tl.toArray⟩] BZ1.out.b 1 1 rfl rfl rfl hbt' HST.out.hs ?_
                    intro v' wq ho hg hb
                    obtain ⟨Aq, cq', rfl, _, _, _⟩ := own_parts ho
                    have HST := Lib.hid (HST.out.appL e8 e10 e11 HX9.out.size PL'.out RQ CQ (x := xl) (by rw [HTL.out]; exact ho) hg hb)
                    have BZ3 := Lib.hid (BZ3.out.appL hg hb)
                    have BZ1 := Lib.hid (BZ1.out.appL hg hb)
                    clear RQ CQ ho hg hb
                    simp only [Act.put, List.setIfInBounds_toArray, List.set_cons_zero, List.set_cons_succ]
                    refine hK.out _ _ (fun _ => HSS.out _ HST.out.ka HST.out.b8 HST.out.b10) ?_
                    clear HS0
                    have HS0 := Lib.hid (HSS.out _ HST.out.ka HST.out.b8 HST.out.b10)
                    refine AnyT.loadD 25 95 (.pointer (some ⟨g10, 2, none⟩)) rfl (by kernel_rfl) (by kernel_rfl) (by kernel_rfl) (by kernel_rfl) (by kernel_rfl) (fun _ _ _ h => h) HS0.out ?_ ?_
                    · intro o ho
                      simp only [List.getElem?_toArray, List.getElem?_cons_succ, List.getElem?_cons_zero, Option.some.injEq] at ho
                      subst ho
                      refine ⟨rfl, rfl, fun w' hSw => ?_⟩
                      have hs := HSI.out w' hSw
                      go_split_ands
                      go_simp
                    simp only [Act.put, List.setIfInBounds_toArray, List.set_cons_zero, List.set_cons_succ]
                    refine AnyT.step 16 (by kernel_rfl) ?_
                    intro o ho K hK
                    simp only [List.getElem?_toArray, List.getElem?_cons_succ, List.getElem?_cons_zero, Option.some.injEq] at ho
                    subst ho
                    go_simp
                    refine hK.out _ _ (fun _ => HSS.out _ (HST.out.ext ((Ext.refl _).alloc _)).ka (HST.out.ext ((Ext.refl _).alloc _)).b8 (HST.out.ext ((Ext.refl _).alloc _)).b10) ?_
                    refine box1 (P := fun W => AnyT _ _ _ _ _ _ _ _ _ W) fun WZ HXZ BQ => ?_
                    have BZ3 := Lib.hid (BZ3.out.ext (HXZ.out))
                    have BZ1 := Lib.hid (BZ1.out.ext (HXZ.out))
                    have BZ2 := Lib.hid (HST.out.new BQ.out)
                    have HST := Lib.hid (HST.out.ext HXZ.out)
                    clear HXZ BQ
                    refine AnyT.step 17 (by kernel_rfl) ?_
                    intro o ho K hK
                    simp only [List.getElem?_toArray, List.getElem?_cons_succ, List.getElem?_cons_zero, Option.some.injEq] at ho
                    subst ho
                    refine if_go rfl ?_
                    obtain ⟨xq, RQ, CQ⟩ := HST.out.oF
                    rw [PF.out] at RQ
                    refine wp_appB _ _ 31 rfl w9.heap.size rats_slice _ _ _ rfl RQ _ [.slice Af1 r cf1] BZ2.out.b 1 1 rfl rfl rfl hbt HST.out.hs ?_
                    intro v' wq ho hg hb
                    obtain ⟨Aq, cq', rfl, _, _, _⟩ := own_parts ho
                    have HST := Lib.hid (HST.out.appF e8 e10 e11 HX9.out.size PF.out RQ CQ HPF.out ho hg)
                    have BZ3 := Lib.hid (BZ3.out.appF hg hb)
                    have BZ1 := Lib.hid (BZ1.out.appF hg hb)
                    have BZ2 := Lib.hid (BZ2.out.appF hg hb)
                    clear RQ CQ ho hg hb
                    simp only [Act.put, List.setIfInBounds_toArray, List.set_cons_zero, List.set_cons_succ]
                    refine hK.out _ _ (fun _ => HSS.out _ HST.out.ka HST.out.b8 HST.out.b10) ?_
                    refine AnyT.step 24 (by kernel_rfl) ?_
                    intro o ho K hK
                    simp only [List.getElem?_toArray, List.getElem?_cons_succ, List.getElem?_cons_zero, Option.some.injEq] at ho
                    subst ho
                    refine if_go rfl ?_
                    obtain ⟨xq, RQ, CQ⟩ := HST.out.oY
                    rw [PA.out] at RQ
                    refine wp_appB _ _ tRats rfl w9.heap.size rat_slice _ _ _ rfl RQ _ [.string ⟨ta.toArray⟩] BZ3.out.b 1 1 rfl rfl rfl hbt' HST.out.hs ?_
                    intro v' wq ho hg hb
                    obtain ⟨Aq, cq', rfl, _, _, _⟩ := own_parts ho
                    have HST := Lib.hid (HST.out.appY e8 e10 e11 HX9.out.size PA.out RQ CQ (x := xa) (by rw [HTA.out]; exact ho) hg hb)
                    
                    clear RQ CQ ho hg hb
                    simp only [Act.put, List.setIfInBounds_toArray, List.set_cons_zero, List.set_cons_succ]
                    refine hK.out _ _ (fun _ => HSS.out _ HST.out.ka HST.out.b8 HST.out.b10) ?_
                    have i0 := HST.out.b10.cell (i := 2) rfl
                    have i1 := HST.out.b10.frozen 2
                    obtain ⟨W1, hW1, HST⟩ := HST.out.putE e10 (by omega) (Ne.symm hne) (by have := HX6s.out; omega) 2 (.slice _ (j + 1) _)
                    have HW1 := Lib.hid hW1
                    clear hW1
                    refine AnyT.step 26 (by kernel_rfl) ?_
                    intro o ho K hK
                    simp only [List.getElem?_toArray, List.getElem?_cons_succ, List.getElem?_cons_zero, Option.some.injEq] at ho
                    subst ho
                    go_simp
                    refine hK.out _ _ (fun h => by cases h) ?_
                    rw [HW1.out]
                    clear i0 i1 HW1
                    refine AnyT.step 27 (by kernel_rfl) ?_
                    intro o ho K hK
                    simp only [List.getElem?_toArray, List.getElem?_cons_succ, List.getElem?_cons_zero, Option.some.injEq] at ho
                    subst ho
                    go_simp
                    refine hK.out _ _ (fun h => by cases h) ?_
                    have i0 := HST.out.b10.cell (i := 3) rfl
                    have i1 := HST.out.b10.frozen 3
                    obtain ⟨W2, hW2, HST⟩ := HST.out.putE e10 (by omega) (Ne.symm hne) (by have := HX6s.out; omega) 3 (.slice _ (j + 1) _)
                    have HW2 := Lib.hid hW2
                    clear hW2
                    refine AnyT.step 28 (by kernel_rfl) ?_
                    intro o ho K hK
                    simp only [List.getElem?_toArray, List.getElem?_cons_succ, List.getElem?_cons_zero, Option.some.injEq] at ho
                    subst ho
                    go_simp
                    refine hK.out _ _ (fun h => by cases h) ?_
                    rw [HW2.out]
                    clear i0 i1 HW2
                    refine AnyT.step 29 (by kernel_rfl) ?_
                    intro o ho K hK
                    simp only [List.getElem?_toArray, List.getElem?_cons_succ, List.getElem?_cons_zero, Option.some.injEq] at ho
                    subst ho
                    go_simp
                    refine hK.out _ _ (fun h => by cases h) ?_
                    refine AnyT.done (by kernel_rfl) ?_
                    go_wp2_with fail
                    go_roundw
                    case rel => exact ⟨j + 1, _, _, by omega, by go_num, by rw [NL.out, NF.out, NA.out]; exact HST⟩
                    case measure => simp [RowKit.intOf]; omega
                  · skip
                    intro o ho K hK
                    simp only [List.getElem?_toArray, List.getElem?_cons_succ, List.getElem?_cons_zero, Option.some.injEq] at ho
                    subst ho
                    go_simp
                    refine hK.out _ _ (fun _ => HSS.out _ (HST.out.ext ((Ext.refl _).alloc _)).ka (HST.out.ext ((Ext.refl _).alloc _)).b8 (HST.out.ext ((Ext.refl _).alloc _)).b10) ?_
                    refine box1 (P := fun W => AnyT _ _ _ _ _ _ _ _ _ W) fun WZ HXZ BQ => ?_
                    have BZ3 := Lib.hid (BZ3.out.ext (HXZ.out))
                    have BZ1 := Lib.hid (BZ1.out.ext (HXZ.out))
                    have BZ2 := Lib.hid (HST.out.new BQ.out)
                    have HST := Lib.hid (HST.out.ext HXZ.out)
                    clear HXZ BQ
                    refine AnyT.step 8 (by kernel_rfl) ?_
                    intro o ho K hK
                    simp only [List.getElem?_toArray, List.getElem?_cons_succ, List.getElem?_cons_zero, Option.some.injEq] at ho
                    subst ho
                    refine if_go rfl ?_
                    obtain ⟨xq, RQ, CQ⟩ := HST.out.oL
                    rw [PL'.out] at RQ
                    refine wp_appB _ _ tRats rfl w9.heap.size rat_slice _ _ _ rfl RQ _ [.string ⟨tl.toArray⟩] BZ1.out.b 1 1 rfl rfl rfl hbt' HST.out.hs ?_
                    intro v' wq ho hg hb
                    obtain ⟨Aq, cq', rfl, _, _, _⟩ := own_parts ho
                    have HST := Lib.hid (HST.out.appL e8 e10 e11 HX9.out.size PL'.out RQ CQ (x := xl) (by rw [HTL.out]; exact ho) hg hb)
                    have BZ3 := Lib.hid (BZ3.out.appL hg hb)
                    have BZ1 := Lib.hid (BZ1.out.appL hg hb)
                    have BZ2 := Lib.hid (BZ2.out.appL hg hb)
                    clear RQ CQ ho hg hb
                    simp only [Act.put, List.setIfInBounds_toArray, List.set_cons_zero, List.set_cons_succ]
                    refine hK.out _ _ (fun _ => HSS.out _ HST.out.ka HST.out.b8 HST.out.b10) ?_
                    clear HS0
                    have HS0 := Lib.hid (HSS.out _ HST.out.ka HST.out.b8 HST.out.b10)
                    refine AnyT.loadD 25 95 (.pointer (some ⟨g10, 2, none⟩)) rfl (by kernel_rfl) (by kernel_rfl) (by kernel_rfl) (by kernel_rfl) (by kernel_rfl) (fun _ _ _ h => h) HS0.out ?_ ?_
                    · intro o ho
                      simp only [List.getElem?_toArray, List.getElem?_cons_succ, List.getElem?_cons_zero, Option.some.injEq] at ho
                      subst ho
                      refine ⟨rfl, rfl, fun w' hSw => ?_⟩
                      have hs := HSI.out w' hSw
                      go_split_ands
                      go_simp
                    simp only [Act.put, List.setIfInBounds_toArray, List.set_cons_zero, List.set_cons_succ]
                    refine AnyT.step 17 (by kernel_rfl) ?_
                    intro o ho K hK
                    simp only [List.getElem?_toArray, List.getElem?_cons_succ, List.getElem?_cons_zero, Option.some.injEq] at ho
                    subst ho
                    refine if_go rfl ?_
                    obtain ⟨xq, RQ, CQ⟩ := HST.out.oF
                    rw [PF.out] at RQ
                    refine wp_appB _ _ 31 rfl w9.heap.size rats_slice _ _ _ rfl RQ _ [.slice Af1 r cf1] BZ2.out.b 1 1 rfl rfl rfl hbt HST.out.hs ?_
                    intro v' wq ho hg hb
                    obtain ⟨Aq, cq', rfl, _, _, _⟩ := own_parts ho
                    have HST := Lib.hid (HST.out.appF e8 e10 e11 HX9.out.size PF.out RQ CQ HPF.out ho hg)
                    have BZ3 := Lib.hid (BZ3.out.appF hg hb)
                    have BZ1 := Lib.hid (BZ1.out.appF hg hb)
                    have BZ2 := Lib.hid (BZ2.out.appF hg hb)
                    clear RQ CQ ho hg hb
                    simp only [Act.put, List.setIfInBounds_toArray, List.set_cons_zero, List.set_cons_succ]
                    refine hK.out _ _ (fun _ => HSS.out _ HST.out.ka HST.out.b8 HST.out.b10) ?_
                    refine AnyT.step 24 (by kernel_rfl) ?_
                    intro o ho K hK
                    simp only [List.getElem?_toArray, List.getElem?_cons_succ, List.getElem?_cons_zero, Option.some.injEq] at ho
                    subst ho
                    refine if_go rfl ?_
                    obtain ⟨xq, RQ, CQ⟩ := HST.out.oY
                    rw [PA.out] at RQ
                    refine wp_appB _ _ tRats rfl w9.heap.size rat_slice _ _ _ rfl RQ _ [.string ⟨ta.toArray⟩] BZ3.out.b 1 1 rfl rfl rfl hbt' HST.out.hs ?_
                    intro v' wq ho hg hb
                    obtain ⟨Aq, cq', rfl, _, _, _⟩ := own_parts ho
                    have HST := Lib.hid (HST.out.appY e8 e10 e11 HX9.out.size PA.out RQ CQ (x := xa) (by rw [HTA.out]; exact ho) hg hb)
                    
                    clear RQ CQ ho hg hb
                    simp only [Act.put, List.setIfInBounds_toArray, List.set_cons_zero, List.set_cons_succ]
                    refine hK.out _ _ (fun _ => HSS.out _ HST.out.ka HST.out.b8 HST.out.b10) ?_
                    have i0 := HST.out.b10.cell (i := 2) rfl
                    have i1 := HST.out.b10.frozen 2
                    obtain ⟨W1, hW1, HST⟩ := HST.out.putE e10 (by omega) (Ne.symm hne) (by have := HX6s.out; omega) 2 (.slice _ (j + 1) _)
                    have HW1 := Lib.hid hW1
                    clear hW1
                    refine AnyT.step 26 (by kernel_rfl) ?_
                    intro o ho K hK
                    simp only [List.getElem?_toArray, List.getElem?_cons_succ, List.getElem?_cons_zero, Option.some.injEq] at ho
                    subst ho
                    go_simp
                    refine hK.out _ _ (fun h => by cases h) ?_
                    rw [HW1.out]
                    clear i0 i1 HW1
                    refine AnyT.step 27 (by kernel_rfl) ?_
                    intro o ho K hK
                    simp only [List.getElem?_toArray, List.getElem?_cons_succ, List.getElem?_cons_zero, Option.some.injEq] at ho
                    subst ho
                    go_simp
                    refine hK.out _ _ (fun h => by cases h) ?_
                    have i0 := HST.out.b10.cell (i := 3) rfl
                    have i1 := HST.out.b10.frozen 3
                    obtain ⟨W2, hW2, HST⟩ := HST.out.putE e10 (by omega) (Ne.symm hne) (by have := HX6s.out; omega) 3 (.slice _ (j + 1) _)
                    have HW2 := Lib.hid hW2
                    clear hW2
                    refine AnyT.step 28 (by kernel_rfl) ?_
                    intro o ho K hK
                    simp only [List.getElem?_toArray, List.getElem?_cons_succ, List.getElem?_cons_zero, Option.some.injEq] at ho
                    subst ho
                    go_simp
                    refine hK.out _ _ (fun h => by cases h) ?_
                    rw [HW2.out]
                    clear i0 i1 HW2
                    refine AnyT.step 29 (by kernel_rfl) ?_
                    intro o ho K hK
                    simp only [List.getElem?_toArray, List.getElem?_cons_succ, List.getElem?_cons_zero, Option.some.injEq] at ho
                    subst ho
                    go_simp
                    refine hK.out _ _ (fun h => by cases h) ?_
                    refine AnyT.done (by kernel_rfl) ?_
                    go_wp2_with fail
                    go_roundw
                    case rel => exact ⟨j + 1, _, _, by omega, by go_num, by rw [NL.out, NF.out, NA.out]; exact HST⟩
                    case measure => simp [RowKit.intOf]; omega
                · skip
                  intro o ho K hK
                  simp only [List.getElem?_toArray, List.getElem?_cons_succ, List.getElem?_cons_zero, Option.some.injEq] at ho
                  subst ho
                  go_simp
                  refine hK.out _ _ (fun _ => HSS.out _ (HST.out.ext ((Ext.refl _).alloc _)).ka (HST.out.ext ((Ext.refl _).alloc _)).b8 (HST.out.ext ((Ext.refl _).alloc _)).b10) ?_
                  refine box1 (P := fun W => AnyT _ _ _ _ _ _ _ _ _ W) fun WZ HXZ BQ => ?_
                  have BZ3 := Lib.hid (BZ3.out.ext (HXZ.out))
                  have BZ2 := Lib.hid (HST.out.new BQ.out)
                  have HST := Lib.hid (HST.out.ext HXZ.out)
                  clear HXZ BQ
                  refine AnyT.step 7 (by kernel_rfl) ?_
                  intro o ho K hK
                  simp only [List.getElem?_toArray, List.getElem?_cons_succ, List.getElem?_cons_zero, Option.some.injEq] at ho
                  subst ho
                  go_simp
                  refine hK.out _ _ (fun _ => HSS.out _ (HST.out.ext ((Ext.refl _).alloc _)).ka (HST.out.ext ((Ext.refl _).alloc _)).b8 (HST.out.ext ((Ext.refl _).alloc _)).b10) ?_
                  refine box1 (P := fun W => AnyT _ _ _ _ _ _ _ _ _ W) fun WZ HXZ BQ => ?_
                  have BZ3 := Lib.hid (BZ3.out.ext (HXZ.out))
                  have BZ2 := Lib.hid (BZ2.out.ext (HXZ.out))
                  have BZ1 := Lib.hid (HST.out.new BQ.out)
                  have HST := Lib.hid (HST.out.ext HXZ.out)
                  clear HXZ BQ
                  refine AnyT.step 8 (by kernel_rfl) ?_
                  intro o ho K hK
                  simp only [List.getElem?_toArray, List.getElem?_cons_succ, List.getElem?_cons_zero, Option.some.injEq] at ho
                  subst ho
                  refine if_go rfl ?_
                  obtain ⟨xq, RQ, CQ⟩ := HST.out.oL
                  rw [PL'.out] at RQ
                  refine wp_appB _ _ tRats rfl w9.heap.size rat_slice _ _ _ rfl RQ _ [.string ⟨tl.toArray⟩] BZ1.out.b 1 1 rfl rfl rfl hbt' HST.out.hs ?_
                  intro v' wq ho hg hb
                  obtain ⟨Aq, cq', rfl, _, _, _⟩ := own_parts ho
                  have HST := Lib.hid (HST.out.appL e8 e10 e11 HX9.out.size PL'.out RQ CQ (x := xl) (by rw [HTL.out]; exact ho) hg hb)
                  have BZ3 := Lib.hid (BZ3.out.appL hg hb)
                  have BZ2 := Lib.hid (BZ2.out.appL hg hb)
                  have BZ1 := Lib.hid (BZ1.out.appL hg hb)
                  clear RQ CQ ho hg hb
                  simp only [Act.put, List.setIfInBounds_toArray, List.set_cons_zero, List.set_cons_succ]
                  refine hK.out _ _ (fun _ => HSS.out _ HST.out.ka HST.out.b8 HST.out.b10) ?_
                  clear HS0
                  have HS0 := Lib.hid (HSS.out _ HST.out.ka HST.out.b8 HST.out.b10)
                  refine AnyT.loadD 25 95 (.pointer (some ⟨g10, 2, none⟩)) rfl (by kernel_rfl) (by kernel_rfl) (by kernel_rfl) (by kernel_rfl) (by kernel_rfl) (fun _ _ _ h => h) HS0.out ?_ ?_
                  · intro o ho
                    simp only [List.getElem?_toArray, List.getElem?_cons_succ, List.getElem?_cons_zero, Option.some.injEq] at ho
                    subst ho
                    refine ⟨rfl, rfl, fun w' hSw => ?_⟩
                    have hs := HSI.out w' hSw
                    go_split_ands
                    go_simp
                  simp only [Act.put, List.setIfInBounds_toArray, List.set_cons_zero, List.set_cons_succ]
                  refine AnyT.step 17 (by kernel_rfl) ?_
                  intro o ho K hK
                  simp only [List.getElem?_toArray, List.getElem?_cons_succ, List.getElem?_cons_zero, Option.some.injEq] at ho
                  subst ho
                  refine if_go rfl ?_
                  obtain ⟨xq, RQ, CQ⟩ := HST.out.oF
                  rw [PF.out] at RQ
                  refine wp_appB _ _ 31 rfl w9.heap.size rats_slice _ _ _ rfl RQ _ [.slice Af1 r cf1] BZ2.out.b 1 1 rfl rfl rfl hbt HST.out.hs ?_
                  intro v' wq ho hg hb
                  obtain ⟨Aq, cq', rfl, _, _, _⟩ := own_parts ho
                  have HST := Lib.hid (HST.out.appF e8 e10 e11 HX9.out.size PF.out RQ CQ HPF.out ho hg)
                  have BZ3 := Lib.hid (BZ3.out.appF hg hb)
                  have BZ2 := Lib.hid (BZ2.out.appF hg hb)
                  have BZ1 := Lib.hid (BZ1.out.appF hg hb)
                  clear RQ CQ ho hg hb
                  simp only [Act.put, List.setIfInBounds_toArray, List.set_cons_zero, List.set_cons_succ]
                  refine hK.out _ _ (fun _ => HSS.out _ HST.out.ka HST.out.b8 HST.out.b10) ?_
                  refine AnyT.step 24 (by kernel_rfl) ?_
                  intro o ho K hK
                  simp only [List.getElem?_toArray, List.getElem?_cons_succ, List.getElem?_cons_zero, Option.some.injEq] at ho
                  subst ho
                  refine if_go rfl ?_
                  obtain ⟨xq, RQ, CQ⟩ := HST.out.oY
                  rw [PA.out] at RQ
                  refine wp_appB _ _ tRats rfl w9.heap.size rat_slice _ _ _ rfl RQ _ [.string ⟨ta.toArray⟩] BZ3.out.b 1 1 rfl rfl rfl hbt' HST.out.hs ?_
                  intro v' wq ho hg hb
                  obtain ⟨Aq, cq', rfl, _, _, _⟩ := own_parts ho
                  have HST := Lib.hid (HST.out.appY e8 e10 e11 HX9.out.size PA.out RQ CQ (x := xa) (by rw [HTA.out]; exact ho) hg hb)
                  
                  clear RQ CQ ho hg hb
                  simp only [Act.put, List.setIfInBounds_toArray, List.set_cons_zero, List.set_cons_succ]
                  refine hK.out _ _ (fun _ => HSS.out _ HST.out.ka HST.out.b8 HST.out.b10) ?_
                  have i0 := HST.out.b10.cell (i := 2) rfl
                  have i1 := HST.out.b10.frozen 2
                  obtain ⟨W1, hW1, HST⟩ := HST.out.putE e10 (by omega) (Ne.symm hne) (by have := HX6s.out; omega) 2 (.slice _ (j + 1) _)
                  have HW1 := Lib.hid hW1
                  clear hW1
                  refine AnyT.step 26 (by kernel_rfl) ?_
                  intro o ho K hK
                  simp only [List.getElem?_toArray, List.getElem?_cons_succ, List.getElem?_cons_zero, Option.some.injEq] at ho
                  subst ho
                  go_simp
                  refine hK.out _ _ (fun h => by cases h) ?_
                  rw [HW1.out]
                  clear i0 i1 HW1
                  refine AnyT.step 27 (by kernel_rfl) ?_
                  intro o ho K hK
                  simp only [List.getElem?_toArray, List.getElem?_cons_succ, List.getElem?_cons_zero, Option.some.injEq] at ho
                  subst ho
                  go_simp
                  refine hK.out _ _ (fun h => by cases h) ?_
                  have i0 := HST.out.b10.cell (i := 3) rfl
                  have i1 := HST.out.b10.frozen 3
                  obtain ⟨W2, hW2, HST⟩ := HST.out.putE e10 (by omega) (Ne.symm hne) (by have := HX6s.out; omega) 3 (.slice _ (j + 1) _)
                  have HW2 := Lib.hid hW2
                  clear hW2
                  refine AnyT.step 28 (by kernel_rfl) ?_
                  intro o ho K hK
                  simp only [List.getElem?_toArray, List.getElem?_cons_succ, List.getElem?_cons_zero, Option.some.injEq] at ho
                  subst ho
                  go_simp
                  refine hK.out _ _ (fun h => by cases h) ?_
                  rw [HW2.out]
                  clear i0 i1 HW2
                  refine AnyT.step 29 (by kernel_rfl) ?_
                  intro o ho K hK
                  simp only [List.getElem?_toArray, List.getElem?_cons_succ, List.getElem?_cons_zero, Option.some.injEq] at ho
                  subst ho
                  go_simp
                  refine hK.out _ _ (fun h => by cases h) ?_
                  refine AnyT.done (by kernel_rfl) ?_
                  go_wp2_with fail
                  go_roundw
                  case rel => exact ⟨j + 1, _, _, by omega, by go_num, by rw [NL.out, NF.out, NA.out]; exact HST⟩
                  case measure => simp [RowKit.intOf]; omega
            · obtain rfl : j = k := by omega
              rw [pick_all HKL.out, pick_all HKL.out, pick_all HKL.out] at HST
              have HLL : Hid (lin.length = j) := HMO.out.ll
              have HFL : Hid (fac.length = j) := HMO.out.fl
              have HPL : Hid ((pick 0 lin ks).length = j) := by rw [Hid, pick, List.length_map, HKL.out]
              have HPF : Hid ((pick [] fac ks).length = j) := by rw [Hid, pick, List.length_map, HKL.out]
              have HPA : Hid ((pick 0 a ks).length = j) := by rw [Hid, pick, List.length_map, HKL.out]
              have HOT := Lib.hid (turn_ok HMO.out HKP.out)
              have HOM := Lib.hid (minus_ok HMO.out)
              have HT1 := Lib.hid (sc_turn (c := cq) hn1 hn3 HLL.out HFL.out HAL.out HKP.out)
              have HT2 := Lib.hid (sc_minus (c := cq) hn1 hn3 HLL.out HFL.out HAL.out)
              have FA3 : ∀ q ∈ a, FitQ 3 q := fun q hq => (intp_fit1 (HAI.out q hq)).mono (by decide)
              have FY3 : ∀ q ∈ pick 0 a ks, FitQ 3 q := fun q hq => FA3 q (pick_mem HKP.out HAL.out q hq)
              have S1 := Lib.hid (fun v A ca w' h hx ht => mScore_any v A ca j r cq lin fac a w' h hx HMO.out FA3 ht)
              have S2 := Lib.hid (fun v A ca w' h hx ht => mScore_any v A ca j r cq (pick 0 lin ks) (pick [] fac ks) (pick 0 a ks) w' h hx HOT.out FY3 ht)
              have S3 := Lib.hid (fun v A ca w' h hx ht => mScore_any v A ca j r cq lin (fac.map minus0) a w' h hx HOM.out FA3 ht)
              rw [HT1.out] at S2
              rw [HT2.out] at S3
              have HLt := Lib.hid HST.out.oL.ls
              have HYt := Lib.hid HST.out.oY.ls
              have HFt : Hid (PL wr cF (pick [] fac ks)) := by
                obtain ⟨xs, h1, h2⟩ := HST.out.oF
                exact Ls.of_own h1 (h2.mono fun c x hc => PR.stab _ _ _ _ (fun u hu => HST.out.ka u (by rintro rfl; revert hu; decide)) hc)
              obtain ⟨AL, cpL, rfl, _, _, HLt⟩ := HLt.out.parts
              obtain ⟨AF, cpF, rfl, _, _, HFt⟩ := HFt.out.parts
              obtain ⟨AY, cpY, rfl, _, _, HYt⟩ := HYt.out.parts
              rw [HPL.out] at HLt HST
              rw [HPF.out] at HFt HST
              rw [HPA.out] at HYt HST
              rw [HPA.out]
              have HMVt : Hid (MV wr (.agg #[.slice A5 j c5, .string ⟨tc⟩, .slice AL j cpL, .slice AF j cpF]) j cq (pick 0 lin ks) (pick [] fac ks)) :=
                ⟨A5, c5, AL, cpL, AF, cpF, by rw [HTC.out], Ls.kept IntR.stab HIL9.out HST.out.ka (by decide), HLt.out, HFt.out⟩
              have HMVm := Lib.hid (HMV9.out.kept HST.out.ka (by decide))
              have HRAm : Hid (RL wr (.slice Aa j ca) a) := Ls.kept RatR.stab HRA9.out HST.out.ka (by decide)
              have HILm : Hid (IL wr (.slice A5 j c5) (upto j)) := Ls.kept IntR.stab HIL9.out HST.out.ka (by decide)
              have BMm := Lib.hid HST.out.b8
              have BTm := Lib.hid HST.out.b10
              have BNm := Lib.hid HST.out.b11
              have HXm := Lib.hid HST.out.hx
              have em : w9.heap.size ≤ wr.heap.size := HST.out.hs
              generalize sc cq lin fac a = p at *
              generalize pick 0 lin ks = linT at *
              generalize pick [] fac ks = facT at *
              generalize pick 0 a ks = aT at *
              generalize hpp : ratText p = tp at *
              clear hpp HST HST0 HLt HFt HIL9 HMV9 HRA9 BM9 B109 B119 HX9 HT1 HT2 FA3 FY3 HKP HKI HOT HPL HPF HPA
              obtain ⟨Af', cf', Al', cl', Ax', cx', ee, _, HLm, HFm⟩ := HMVm.out
              injection ee with ee
              injection ee with ee
              injection ee with ee0 ee
              injection ee with ee1 ee
              injection ee with ee2 ee
              injection ee with ee3 _
              injection ee2 with ee2 _ ee2'
              injection ee3 with ee3 _ ee3'
              subst ee2 ee2' ee3 ee3'
              clear ee0 ee1
              have HLm := Lib.hid HLm
              have HFm := Lib.hid HFm
              obtain ⟨-, -, hcx⟩ := cap_le HFm.out
              obtain ⟨-, -, hcy⟩ := cap_le HYt.out
              generalize wr = wm at *
              obtain ⟨k0, k1, k2, k3⟩ := BMm.out.four
              go_wp2_with fail
              clear k0 k1 k2 k3
              go_loopw [16, 17, 18, 19, 101] (fun _ _ _ _ v101 wr => ∃ (i : Nat) (cM : Value), i ≤ j ∧ v101 = .int .i64 i ∧ Hid (Blk wr g11 tMach [.slice A5 j c5, .string ⟨tc⟩, .slice Al j cl, cM]) ∧ Hid (OwnL tRats 1 PR wm.heap.size wr cM ((fac.take i).map minus0)) ∧ Hid (∀ u, tMach ≠ u → Kept u wm wr) ∧ Hid (Blk wr w4.heap.size tMach [.slice Af j cf, .string ⟨tc⟩, .slice Al j cl, .slice Ax j cx]) ∧ Hid (Blk wr g10 tMach [.slice A5 j c5, .string ⟨tc⟩, .slice AL j cpL, .slice AF j cpF]) ∧ Hid (Ext w wr) ∧ wm.heap.size ≤ wr.heap.size) (fun _ _ _ _ v101 _ => j - (RowKit.intOf v101).toNat)
              case atStart => exact ⟨0, _, Nat.zero_le _, rfl, BNm, OwnL.nil, fun _ _ => Kept.refl _ _, BMm, BTm, HXm, Nat.le_refl _⟩
              case round =>
                obtain ⟨i, cM, hi, rfl, HBN, HOM', HKA, HB8, HB10, HXr, hwr⟩ := hrel
                have HLM : Hid (((fac.take i).map minus0).length = i) := by rw [Hid, List.length_map, List.length_take, HFL.out]; omega
                obtain ⟨AM, cpM, xM, rfl, _, _, _, _⟩ := HOM'.out.parts
                rw [HLM.out] at HBN HOM'
                by_cases hij : i < j
                · have hif : i < fac.length := by rw [HFL.out]; exact hij
                  have HFR := Lib.hid (HMO.out.fr _ (List.getElem_mem hif))
                  have HFQ := Lib.hid (HMO.out.ffac _ (List.getElem_mem hif))
                  have hr2' := HMO.out.r2
                  have HNM := Lib.hid (map_next hif)
                  have HFr : Hid (PL wr (.slice Ax j cx) fac) := Ls.kept PR.stab HFm.out HKA.out (by decide)
                  obtain ⟨g2, o2, A1, c1, rfl, _, HL1, p2⟩ := OneR.get HFr.out hif
                  rw [HFR.out] at p2 HL1
                  obtain ⟨-, -, hc1⟩ := cap_le HL1.out
                  generalize fac[i] = f at *
                  generalize wr = wo at *
                  go_wp2_with fail
                  clear p2
                  go_loopw [17, 18, 19, 107] (fun v17 _ _ v107 wr => ∃ m : Nat, m ≤ r ∧ v107 = .int .i64 m ∧ Hid (OwnL tRat 1 RatR wo.heap.size wr v17 ((minus0 f).take m)) ∧ Hid (Ext wo wr)) (fun _ _ _ v107 _ => r - (RowKit.intOf v107).toNat)
                  case atStart => exact ⟨0, Nat.zero_le _, rfl, OwnL.nil, Ext.refl _⟩
                  case round =>
                    obtain ⟨m, hm, rfl, HOv, HXv⟩ := hrel
                    have HLv : Hid (((minus0 f).take m).length = m) := by rw [Hid, List.length_take, minus_length, HFR.out]; omega
                    obtain ⟨Av, cpv, xv, rfl, _, _, HRv, HCv⟩ := HOv.out.parts
                    rw [HLv.out] at HRv ⊢
                    by_cases hmr : m < r
                    · have hmf : m < f.length := by rw [HFR.out]; exact hmr
                      have HNX := Lib.hid (minus_next hmf)
                      have FQ := HFQ.out _ (List.getElem_mem hmf)
                      have SUB := Lib.hid (fun w' => r2sub_any 0 f[m] w' (zero_fit (by decide)) (FQ.mono (by decide)) (((zero_fit (e := 1) (by decide)).sub FQ).mono (by decide)))
                      rw [txt0] at SUB
                      clear FQ
                      obtain ⟨g3, o3, rfl, _, p3⟩ := RL.get (RL.ext HL1.out HXv.out) hmf
                      generalize f[m] = q at *
                      generalize htq : ratText q = tq at *
                      have HTQ := Lib.hid htq
                      generalize hts : ratText (0 - q) = ts at *
                      have HTS := Lib.hid hts
                      clear htq hts
                      have hbt : (m + 1) * 16 ≤ 140737488355328 := by omega
                      by_cases hm0 : m = 0
                      · have d0 : ((m : Int) == 0) = true := by rw [beq_iff_eq]; omega
                        have HNY : Hid ((minus0 f).take (m + 1) = (minus0 f).take m ++ [0 - q]) := by rw [Hid, HNX.out, if_pos hm0]
                        clear hm0
                        go_wp2_with fail
                        refine (SUB.out wr).mono ?_
                        rintro e wx ⟨rfl, hxx⟩
                        have HRx := Lib.hid (own_extR HRv.out hxx)
                        have HCx : Hid (Ch (RatR wx) xv ((minus0 f).take m)) := HCv
                        have HXx := Lib.hid (HXv.out.trans hxx)
                        have hwx : wo.heap.size ≤ wx.heap.size := HXx.out.size
                        clear hxx p3
                        go_wp2_with (at_builtin; refine wpList_app1 rfl _ _ tRats rfl wo.heap.size rat_slice _ _ _ rfl HRx.out #[.string ⟨ts.toArray⟩] 1 1 rfl rfl rfl hbt hwx ?_)
                        intro v' wy ho hg _
                        have Oy : Hid (OwnL tRat 1 RatR wo.heap.size wy v' ((minus0 f).take (m + 1))) := by
                          rw [Hid, HNY.out]
                          exact OwnL.snoc (R := RatR) (x := 0 - q) RatR.stab (fun u hu => by cases hu) (by rw [HLv.out]; exact HRx.out) HCx.out (by rw [RatR, HTS.out]) (by rw [HLv.out]; exact ho) hg
                        have Xy := Lib.hid (HXx.out.grownO HRx.out hg)
                        clear ho hg
                        go_wp2
                        go_roundw
                        case rel => exact ⟨m + 1, by omega, by go_num, Oy, Xy⟩
                        case measure => simp [RowKit.intOf]; omega
                      · have d0 : ((m : Int) == 0) = false := by rw [beq_eq_false_iff_ne]; omega
                        have HNY : Hid ((minus0 f).take (m + 1) = (minus0 f).take m ++ [q]) := by rw [Hid, HNX.out, if_neg hm0]
                        clear hm0
                        have hwx : wo.heap.size ≤ wr.heap.size := HXv.out.size
                        go_wp2_with (at_builtin; refine wpList_app1 rfl _ _ tRats rfl wo.heap.size rat_slice _ _ _ rfl HRv.out #[.string ⟨tq.toArray⟩] 1 1 rfl rfl rfl hbt hwx ?_)
                        intro v' wy ho hg _
                        have Oy : Hid (OwnL tRat 1 RatR wo.heap.size wy v' ((minus0 f).take (m + 1))) := by
                          rw [Hid, HNY.out]
                          exact OwnL.snoc (R := RatR) (x := q) RatR.stab (fun u hu => by cases hu) (by rw [HLv.out]; exact HRv.out) HCv.out (by rw [RatR, HTQ.out]) (by rw [HLv.out]; exact ho) hg
                        have Xy := Lib.hid (HXv.out.grownO HRv.out hg)
                        clear ho hg
                        go_wp2
                        go_roundw
                        case rel => exact ⟨m + 1, by omega, by go_num, Oy, Xy⟩
                        case measure => simp [RowKit.intOf]; omega
                    · obtain rfl : m = r := by omega
                      rw [List.take_of_length_le (by rw [minus_length, HFR.out]; exact Nat.le_refl _)] at HOv
                      have HML : Hid ((minus0 f).length = m) := by rw [Hid, minus_length]; exact HFR.out
                      have HRv' := Lib.hid HOv.out.ls
                      rw [HML.out] at HRv'
                      have BNv := Lib.hid (HBN.out.ext HXv.out)
                      have HB8v := Lib.hid (HB8.out.ext HXv.out)
                      have HB10v := Lib.hid (HB10.out.ext HXv.out)
                      have HOMv := Lib.hid (HOM'.out.ext PR.stab HXv.out)
                      have HKAv : Hid (∀ u, tMach ≠ u → Kept u wm wr) := fun u hu => (HKA.out u hu).trans (.of_below HXv.out)
                      have HXx := Lib.hid (HXr.out.trans HXv.out)
                      have hwx : wm.heap.size ≤ wr.heap.size := Nat.le_trans hwr HXv.out.size
                      obtain ⟨xM', RM, CM⟩ := HOMv.out
                      rw [HLM.out] at RM
                      have hbt : (i + 1) * 24 ≤ 140737488355328 := by omega
                      clear HOv HRv HCv HBN HB8 HB10 HOM' HOMv HKA
                      have i3 := BNv.out.cell (i := 3) rfl
                      go_wp2_with (at_builtin; refine wpList_app1 rfl _ _ 31 rfl wm.heap.size rats_slice _ _ _ rfl RM #[.slice Av m cpv] 1 1 rfl rfl rfl hbt hwx ?_)
                      intro v' wz ho hg _
                      obtain ⟨Az, cz, rfl, _, _, _⟩ := own_parts ho
                      have hu' : PR wr [.slice Av m cpv] (minus0 f) := ⟨Av, cpv, by rw [HML.out], by rw [HML.out]; exact HRv'.out⟩
                      have Oz : Hid (OwnL tRats 1 PR wm.heap.size wz (.slice Az (i + 1) cz) ((fac.take (i + 1)).map minus0)) := by
                        rw [Hid, HNM.out]
                        exact OwnL.snoc (R := PR) (w := wr) (x := minus0 f) PR.stab (by decide) (by rw [HLM.out]; exact RM) CM hu' (by rw [HLM.out]; exact ho) hg
                      have KZ : Hid (∀ u, tMach ≠ u → Kept u wm wz) := fun u hu => (HKAv.out u hu).base RM hg (Nat.le_refl _)
                      have BZ := Lib.hid (blkG BNv.out RM hg (by omega))
                      have B8z := Lib.hid (blkG HB8v.out RM hg (by omega))
                      have B10z := Lib.hid (blkG HB10v.out RM hg (by omega))
                      have XZ := Lib.hid (grown_below HXx.out RM hg (by omega))
                      have hwz : wm.heap.size ≤ wz.heap.size := Nat.le_trans hwx hg.size
                      clear ho hg hu' RM CM i3
                      have i0 := BZ.out.cell (i := 3) rfl
                      have i1 := BZ.out.frozen 3
                      obtain ⟨Wy, hWy, By, Ky, Ny⟩ := put1 (i := 3) BZ.out (.slice Az (i + 1) cz)
                      have HWy := Lib.hid hWy
                      have Oy : Hid (OwnL tRats 1 PR wm.heap.size Wy (.slice Az (i + 1) cz) ((fac.take (i + 1)).map minus0)) := Oz.out.only PR.stab Ny.out (by omega) (fun u hu => Ky.out u (by rintro rfl; revert hu; decide))
                      have KY : Hid (∀ u, tMach ≠ u → Kept u wm Wy) := fun u hu => (KZ.out u hu).trans (Ky.out u hu)
                      have B8y := Lib.hid (B8z.out.only Ny.out (by omega))
                      have B10y := Lib.hid (B10z.out.only Ny.out hne)
                      have XY := Lib.hid (XZ.out.only Ny.out (by omega))
                      have hwy : wm.heap.size ≤ Wy.heap.size := Nat.le_trans hwz Ny.out.size
                      clear hWy
                      go_wp2_with fail
                      rw [HWy.out]
                      clear i0 i1 HWy
                      go_roundw
                      case rel => exact ⟨i + 1, _, by omega, by go_num, By, Oy, KY, B8y, B10y, XY, hwy⟩
                      case measure => simp [RowKit.intOf]; omega
                · obtain rfl : i = j := by omega
                  rw [List.take_of_length_le (by rw [HFL.out]; exact Nat.le_refl _)] at HOM'
                  have HPM := Lib.hid HOM'.out.ls
                  have HMVM : Hid (MV wr (.agg #[.slice A5 i c5, .string ⟨tc⟩, .slice Al i cl, .slice AM i cpM]) i cq lin (fac.map minus0)) :=
                    ⟨A5, c5, Al, cl, AM, cpM, by rw [HTC.out], Ls.kept IntR.stab HILm.out HKA.out (by decide), Ls.kept RatR.stab HLm.out HKA.out (by decide), HPM.out⟩
                  have HMV1 := Lib.hid (HMVm.out.kept HKA.out (by decide))
                  have HMV2 := Lib.hid (HMVt.out.kept HKA.out (by decide))
                  have HR1 : Hid (RL wr (.slice Aa i ca) a) := Ls.kept RatR.stab HRAm.out HKA.out (by decide)
                  have HR2 : Hid (RL wr (.slice AY i cpY) aT) := Ls.kept RatR.stab HYt.out HKA.out (by decide)
                  clear HOM' HPM HKA HMVm HMVt HRAm HYt HILm HLm HFm BMm BTm BNm HXm
                  generalize wr = wf at *
                  obtain ⟨k0, k1, k2, k3⟩ := HB8.out.four
                  go_wp2_with fail
                  refine (S1.out _ _ _ wf HMV1.out HR1.out (HT.out.ext HXr.out)).mono ?_
                  rintro e wg ⟨rfl, hxg⟩
                  have HXg := Lib.hid (HXr.out.trans hxg)
                  have B10g := Lib.hid (HB10.out.ext hxg)
                  have B11g := Lib.hid (HBN.out.ext hxg)
                  have HMV2g := Lib.hid (HMV2.out.ext hxg)
                  have HMVMg := Lib.hid (HMVM.out.ext hxg)
                  have HR1g := Lib.hid (RL.ext HR1.out hxg)
                  have HR2g := Lib.hid (RL.ext HR2.out hxg)
                  clear hxg k0 k1 k2 k3 HB8 HB10 HBN HMV1 HMV2 HMVM HR1 HR2 HXr
                  obtain ⟨k0, k1, k2, k3⟩ := B10g.out.four
                  go_wp2_with fail
                  refine (S2.out _ _ _ wg HMV2g.out HR2g.out (HT.out.ext HXg.out)).mono ?_
                  rintro e wh ⟨rfl, hxh⟩
                  have HXh := Lib.hid (HXg.out.trans hxh)
                  have B11h := Lib.hid (B11g.out.ext hxh)
                  have HMVMh := Lib.hid (HMVMg.out.ext hxh)
                  have HR1h := Lib.hid (RL.ext HR1g.out hxh)
                  clear hxh k0 k1 k2 k3 B10g B11g HMV2g HMVMg HR1g HR2g HXg
                  obtain ⟨k0, k1, k2, k3⟩ := B11h.out.four
                  go_wp2_with fail
                  refine (S3.out _ _ _ wh HMVMh.out HR1h.out (HT.out.ext HXh.out)).mono ?_
                  rintro e wi ⟨rfl, hxi⟩
                  have HXi := Lib.hid (HXh.out.trans hxi)
                  clear hxi k0 k1 k2 k3
                  go_wp2_with fail
                  refine (msane_any wi (HT.out.ext HXi.out)).mono ?_
                  rintro e wj ⟨rfl, hxj⟩
                  go_wp2
                  go_ret
                  exact ⟨rfl, HXi.out.trans hxj⟩
  · have hd : decide (zs.length ≤ 600) = false := decide_eq_false hl
    rw [hd]
    go_wp2_with fail
    refine (msane_any w HT.out).mono ?_
    rintro e w1 ⟨rfl, hx1⟩
    go_wp2
    go_ret
    exact ⟨rfl, hx1⟩
end Go.Proofs.YtemnoemjmeflbaaGreatDoor
