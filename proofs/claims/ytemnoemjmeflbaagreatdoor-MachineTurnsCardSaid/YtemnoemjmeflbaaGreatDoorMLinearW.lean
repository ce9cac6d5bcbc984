/- joinlearnlaw29.MachineLinear, walked. -/
import Derived.Test.YtemnoemjmeflbaaGreatDoorMSane
import Derived.Test.YtemnoemjmeflbaaGreatDoorMkM
namespace Go.Proofs.YtemnoemjmeflbaaGreatDoor
open Go.RowKit Go.Lib

theorem sc_fit2 {n r : Nat} {c : Rat} {lin : List Rat} {fac : List (List Rat)} {x : List Rat} (hm : MOk n r c lin fac) (hx : x.length = n) (fx : ∀ q ∈ x, FitQ 3 q) : FitQ 211 (sc c lin fac x) := by
  have h1 := score_fit (x := x) (l := termsF c lin fac n) (by rw [hx]; exact hm.n3) (terms_fit hm) fx (termsF c lin fac n).length (Nat.le_refl _)
  rw [List.take_of_length_le (Nat.le_refl _)] at h1
  have h2 := terms_length (c := c) (fac := fac) hm.ll hm.n3 n (Nat.le_refl _)
  have := hm.n3
  unfold sc
  rw [hm.ll]
  exact h1.mono (by omega)
theorem MV.kept {w w' : World} {v : Value} {n : Nat} {c : Rat} {lin : List Rat} {fac : List (List Rat)} (h : MV w v n c lin fac) {s : TypeId} (hk : ∀ u, s ≠ u → Kept u w w') (hs : s ≠ tInt ∧ s ≠ tRat ∧ s ≠ tRats) : MV w' v n c lin fac := by
  obtain ⟨Af, cf, Al, cl, Ax, cx, h1, h2, h3, h4⟩ := h
  exact ⟨Af, cf, Al, cl, Ax, cx, h1, Ls.kept IntR.stab h2 hk ⟨hs.1, fun u hu => by cases hu⟩, Ls.kept RatR.stab h3 hk ⟨hs.2.1, fun u hu => by cases hu⟩, Ls.kept PR.stab h4 hk ⟨hs.2.2, fun u hu => by simp only [List.mem_singleton] at hu; subst hu; exact hs.2.1⟩⟩
theorem MV.parts {w : World} {v : Value} {n : Nat} {c : Rat} {lin : List Rat} {fac : List (List Rat)} (h : MV w v n c lin fac) : ∃ Af cf tc Al cl Ax cx, v = .agg #[.slice Af n cf, .string ⟨tc⟩, .slice Al n cl, .slice Ax n cx] ∧ Hid (tc = (ratText c).toArray) ∧ Hid (MV w (.agg #[.slice Af n cf, .string ⟨tc⟩, .slice Al n cl, .slice Ax n cx]) n c lin fac) := by
  obtain ⟨Af, cf, Al, cl, Ax, cx, rfl, h2, h3, h4⟩ := h
  exact ⟨Af, cf, _, Al, cl, Ax, cx, rfl, rfl, Af, cf, Al, cl, Ax, cx, rfl, h2, h3, h4⟩
theorem sum_next {a b : List Rat} {k : Nat} (ha : k < a.length) (hb : k < b.length) : (List.zipWith (· + ·) a b).take (k + 1) = (List.zipWith (· + ·) a b).take k ++ [a[k] + b[k]] := by
  rw [List.take_succ_eq_append_getElem (by simp; omega)]
  simp
theorem intp_fit1 {q : Rat} (h : IntP q) : FitQ 1 q := by
  obtain ⟨r, h1, h2, rfl⟩ := h
  exact ⟨by rw [int_rat_num]; omega, by rw [int_rat_den]; decide⟩
theorem sum_fit {a b : List Rat} (fa : ∀ q ∈ a, IntP q) (fb : ∀ q ∈ b, IntP q) : ∀ q ∈ List.zipWith (· + ·) a b, FitQ 3 q := by
  intro q hq
  rw [List.mem_iff_getElem] at hq
  obtain ⟨i, hi, rfl⟩ := hq
  rw [List.getElem_zipWith]
  simp at hi
  exact (intp_fit1 (fa _ (List.getElem_mem _))).add (intp_fit1 (fb _ (List.getElem_mem _)))
set_option maxRecDepth 100000 in
set_option maxHeartbeats 4000000 in
theorem mlinear_walk (t : TypeId) (A : Option Addr) (zs : List Int) (c : Nat) (w : World) (hc : zs.length ≤ c) (hm : c ≤ 9223372036854775807) (hs : Sl w t A (zcells zs)) (hz : ∀ z ∈ zs, -9223372036854775808 ≤ z ∧ z ≤ 9223372036854775807) (ht : Tab w) :
    Calls Tryz.prog 4 #[.slice A zs.length c] w fun e w' => e = .returned (.bool true) ∧ Ext w w' := by
  have HS := Lib.hid hs
  have HZ := Lib.hid hz
  have HT := Lib.hid ht
  clear hs hz ht
  go_enter Tryz.func4, Tryz.ntmps4
  go_wp2_with fail
  refine (light_any A zs.length c w (by omega)).mono ?_
  rintro e w0 ⟨rfl, rfl⟩
  by_cases hl : zs.length ≤ 600
  · have hd : decide (zs.length ≤ 600) = true := decide_eq_true hl
    rw [hd]
    go_wp2_with fail
    refine (mnew_any t A zs c w hc hm hl HS.out HZ.out).mono ?_
    rintro e w1 ⟨rfl, hsrc1, hx1⟩
    clear hd
    go_wp2_with fail
    refine (range_any w.heap.size 1 3 w1 hsrc1 (by decide) (by decide)).mono ?_
    rintro e w2 ⟨n, hn1, hn3, rfl, hsrc2, ho2⟩
    have HX2 := Lib.hid (hx1.only ho2 (Nat.le_refl _))
    have HS2 := Lib.hid hsrc2
    have hg2 : w.heap.size < w2.heap.size := hsrc2.lt
    clear hx1 ho2 hsrc1 hl hsrc2
    go_wp2_with fail
    go_loopw [5, 6] (fun v5 v6 wr => ∃ k : Nat, k ≤ n ∧ v6 = .int .i64 k ∧ Hid (OwnL tInt 1 IntR w2.heap.size wr v5 (upto k)) ∧ Hid (SrcAt wr w.heap.size) ∧ Hid (Ext w2 wr)) (fun _ v6 _ => n - (RowKit.intOf v6).toNat)
    case atStart => exact ⟨0, Nat.zero_le _, rfl, OwnL.nil, HS2, Ext.refl _⟩
    case round =>
      obtain ⟨k, hk, rfl, HO, HSr, HXr⟩ := hrel
      have HLK := Lib.hid (upto_length k)
      obtain ⟨A5, c5, xs, rfl, hkc, hcm, HR, HC⟩ := HO.out.parts
      rw [HLK.out] at HR hkc ⊢
      by_cases hkn : k < n
      · have hw2 : w2.heap.size ≤ wr.heap.size := HXr.out.size
        have hbt : (k + 1) * 8 ≤ 140737488355328 := by omega
        go_wp2_with (at_builtin; refine wpList_app1 rfl _ _ 22 rfl w2.heap.size int_slice _ _ _ rfl HR.out #[.int .i64 k] 1 1 rfl rfl rfl hbt hw2 ?_)
        intro v' w3 ho3 hg3 _
        have O3 : Hid (OwnL tInt 1 IntR w2.heap.size w3 v' (upto (k + 1))) := by
          rw [Hid, upto_succ]
          exact OwnL.snoc (R := IntR) (x := (k : Int)) IntR.stab (fun u hu => by cases hu) (by rw [HLK.out]; exact HR.out) HC.out rfl (by rw [HLK.out]; exact ho3) hg3
        have S3 := Lib.hid (HSr.out.grown hg3 (fun k hk => by have := (HR.out.lt k hk).1; omega))
        have X3 := Lib.hid (HXr.out.grownO HR.out hg3)
        clear ho3 hg3
        go_wp2
        go_roundw
        case rel => exact ⟨k + 1, by omega, by go_num, O3, S3, X3⟩
        case measure => simp [RowKit.intOf]; omega
      · obtain rfl : k = n := by omega
        have HIL := Lib.hid HO.out.ls
        rw [HLK.out] at HIL
        have HX3 := Lib.hid (HX2.out.trans HXr.out)
        clear HO HC HR HXr
        generalize wr = w3 at *
        go_wp2_with fail
        refine (mmachine_any w.heap.size k 0 A5 c5 w3 HSr.out HIL.out hn1 hn3 (by decide)).mono ?_
        rintro e w4 ⟨vm, cq, lin, fac, hmo, rfl, hmv, hs4, ho4⟩
        obtain ⟨Af, cf, tc, Al, cl, Ax, cx, rfl, HTC, HMV⟩ := hmv.parts
        have HMO := Lib.hid hmo
        have HX4 := Lib.hid (HX3.out.only ho4 (Nat.le_refl _))
        clear hmo hmv ho4 HX3 HIL HSr
        go_upto_region 11 with fail
        refine box1 (P := fun W => Code.wp _ _ _ _ W) fun W5 HX5 BM => ?_
        have HMV5 := Lib.hid (HMV.out.ext HX5.out)
        have HS5 := Lib.hid (hs4.ext HX5.out)
        have HXW := Lib.hid (HX4.out.trans HX5.out)
        have hg5 : w.heap.size < w4.heap.size := hs4.lt
        clear hs4 HX4 HX5 HMV
        go_wp2_with fail
        refine (place_any w.heap.size k W5 HS5.out hn3).mono ?_
        rintro e w6 ⟨Aa, ca, a, hal, ha, rfl, hra, hs6, ho6⟩
        have HMV6 := Lib.hid (HMV5.out.kept (Src.keptA HS5.out ho6) (by decide))
        have BM6 := Lib.hid (BM.out.only ho6 (by omega))
        have HX6 := Lib.hid (HXW.out.only ho6 (Nat.le_refl _))
        have HAL := Lib.hid hal
        have HAI := Lib.hid ha
        have HRA := Lib.hid hra
        have HS6 := Lib.hid hs6
        clear ho6 HS5 HMV5 BM HXW hal ha hra hs6
        go_wp2_with fail
        refine (place_any w.heap.size k w6 HS6.out hn3).mono ?_
        rintro e w7 ⟨Ab, cb, b, hbl, hb, rfl, hrb, hs7, ho7⟩
        have HMV7 := Lib.hid (HMV6.out.kept (Src.keptA HS6.out ho7) (by decide))
        have BM7 := Lib.hid (BM6.out.only ho7 (by omega))
        have HX7 := Lib.hid (HX6.out.only ho7 (Nat.le_refl _))
        have HRA7 : Hid (RL w7 (.slice Aa k ca) a) := Ls.kept RatR.stab HRA.out (Src.keptA HS6.out ho7) (by decide)
        have HBL := Lib.hid hbl
        have HBI := Lib.hid hb
        have HRB := Lib.hid hrb
        obtain ⟨-, -, hca⟩ := cap_le HRA.out
        obtain ⟨-, -, hcb⟩ := cap_le hrb
        have hg7 : w4.heap.size < w7.heap.size := BM7.out.lt
        clear ho7 HS6 HMV6 BM6 HX6 HRA hbl hb hrb hs7
        go_wp2_with fail
        go_loopw [10, 11, 12, 13, 52] (fun v10 _ _ _ v52 wr => ∃ j : Nat, j ≤ k ∧ v52 = .int .i64 j ∧ Hid (OwnL tRat 1 RatR w7.heap.size wr v10 ((List.zipWith (· + ·) a b).take j)) ∧ Hid (Ext w7 wr)) (fun _ _ _ _ v52 _ => k - (RowKit.intOf v52).toNat)
        case atStart => exact ⟨0, Nat.zero_le _, rfl, OwnL.nil, Ext.refl _⟩
        case round =>
          obtain ⟨j, hj, rfl, HO, HXr⟩ := hrel
          have HLJ : Hid (((List.zipWith (· + ·) a b).take j).length = j) := by
            have h1 := HAL.out
            have h2 := HBL.out
            rw [Hid, List.length_take, List.length_zipWith]; omega
          obtain ⟨A10, c10, xs, rfl, _, _, HR, HC⟩ := HO.out.parts
          rw [HLJ.out] at HR ⊢
          by_cases hjk : j < k
          · have hja : j < a.length := by rw [HAL.out]; exact hjk
            have hjb : j < b.length := by rw [HBL.out]; exact hjk
            have HNX := Lib.hid (sum_next hja hjb)
            obtain ⟨g1, o1, rfl, hg1, p1⟩ := RL.get (RL.ext HRA7.out HXr.out) hja
            obtain ⟨g2, o2, rfl, hg2', p2⟩ := RL.get (RL.ext HRB.out HXr.out) hjb
            have fa := intp_fit1 (HAI.out _ (List.getElem_mem hja))
            have fb := intp_fit1 (HBI.out _ (List.getElem_mem hjb))
            have RA := Lib.hid (fun w' => r2add_any a[j] b[j] w' (fa.mono (by decide)) (fb.mono (by decide)) ((fa.add fb).mono (by decide)))
            clear fa fb
            generalize hsum : a[j] + b[j] = sab at *
            clear hsum
            generalize ratText a[j] = ta at *
            generalize ratText b[j] = tb at *
            generalize hts : ratText sab = ts at *
            have HTS := Lib.hid hts
            clear hts
            have hw7 : w7.heap.size ≤ wr.heap.size := HXr.out.size
            have hbt : (j + 1) * 16 ≤ 140737488355328 := by omega
            go_upto_region 16 with fail
            obtain ⟨S, hSd⟩ : ∃ S : World → Prop, S = fun w' => w'.cell? ⟨g1, o1 + j, none⟩ = some (.string ⟨ta.toArray⟩) ∧ w'.cell? ⟨g2, o2 + j, none⟩ = some (.string ⟨tb.toArray⟩) := ⟨_, rfl⟩
            have HSI : Hid (∀ w', S w' → w'.cell? ⟨g1, o1 + j, none⟩ = some (.string ⟨ta.toArray⟩) ∧ w'.cell? ⟨g2, o2 + j, none⟩ = some (.string ⟨tb.toArray⟩)) := by rw [Hid, hSd]; exact fun _ h => h
            have HSE : Hid (∀ w', Ext wr w' → S w') := by rw [Hid, hSd]; exact fun w' h => ⟨(h.cell (by assumption)).trans p1, (h.cell (by assumption)).trans p2⟩
            have HS0 : Hid (S wr.drew) := HSE.out _ (Ext.refl wr).drew
            clear hSd p1 p2
            refine AnyT.start (S := S) (T := fun _ => false) (by kernel_rfl) ?_
            refine AnyT.load 0 56 (.slice (some ⟨g1, o1, none⟩) k ca) rfl (by kernel_rfl) (by kernel_rfl) (by kernel_rfl) (by kernel_rfl) (by kernel_rfl) (fun _ _ _ h => h) HS0.out ?_ ?_
            · intro o ho
              simp only [List.getElem?_toArray, List.getElem?_cons_zero, Option.some.injEq] at ho
              subst ho
              refine ⟨rfl, rfl, fun w' hSw => ?_⟩
              have hs := HSI.out w' hSw
              go_split_ands
              go_simp
            simp only [Act.put, List.setIfInBounds_toArray, List.set_cons_zero, List.set_cons_succ]
            refine AnyT.load 1 57 (.int .i64 j) rfl (by kernel_rfl) (by kernel_rfl) (by kernel_rfl) (by kernel_rfl) (by kernel_rfl) (fun _ _ _ h => h) HS0.out ?_ ?_
            · intro o ho
              simp only [List.getElem?_toArray, List.getElem?_cons_succ, List.getElem?_cons_zero, Option.some.injEq] at ho
              subst ho
              refine ⟨rfl, rfl, fun w' hSw => ?_⟩
              have hs := HSI.out w' hSw
              go_split_ands
              go_simp
            simp only [Act.put, List.setIfInBounds_toArray, List.set_cons_zero, List.set_cons_succ]
            refine AnyT.load 2 58 (.pointer (some ⟨g1, o1 + j, none⟩)) rfl (by kernel_rfl) (by kernel_rfl) (by kernel_rfl) (by kernel_rfl) (by kernel_rfl) (fun _ _ _ h => h) HS0.out ?_ ?_
            · intro o ho
              simp only [List.getElem?_toArray, List.getElem?_cons_succ, List.getElem?_cons_zero, Option.some.injEq] at ho
              subst ho
              refine ⟨rfl, rfl, fun w' hSw => ?_⟩
              have hs := HSI.out w' hSw
              go_split_ands
              go_simp
            simp only [Act.put, List.setIfInBounds_toArray, List.set_cons_zero, List.set_cons_succ]
            refine AnyT.load 3 59 (.string ⟨ta.toArray⟩) rfl (by kernel_rfl) (by kernel_rfl) (by kernel_rfl) (by kernel_rfl) (by kernel_rfl) (fun _ _ _ h => h) HS0.out ?_ ?_
            · intro o ho
              simp only [List.getElem?_toArray, List.getElem?_cons_succ, List.getElem?_cons_zero, Option.some.injEq] at ho
              subst ho
              refine ⟨rfl, rfl, fun w' hSw => ?_⟩
              have hs := HSI.out w' hSw
              go_split_ands
              go_simp
            simp only [Act.put, List.setIfInBounds_toArray, List.set_cons_zero, List.set_cons_succ]
            refine AnyT.load 4 60 (.slice (some ⟨g2, o2, none⟩) k cb) rfl (by kernel_rfl) (by kernel_rfl) (by kernel_rfl) (by kernel_rfl) (by kernel_rfl) (fun _ _ _ h => h) HS0.out ?_ ?_
            · intro o ho
              simp only [List.getElem?_toArray, List.getElem?_cons_succ, List.getElem?_cons_zero, Option.some.injEq] at ho
              subst ho
              refine ⟨rfl, rfl, fun w' hSw => ?_⟩
              have hs := HSI.out w' hSw
              go_split_ands
              go_simp
            simp only [Act.put, List.setIfInBounds_toArray, List.set_cons_zero, List.set_cons_succ]
            refine AnyT.load 5 61 (.int .i64 j) rfl (by kernel_rfl) (by kernel_rfl) (by kernel_rfl) (by kernel_rfl) (by kernel_rfl) (fun _ _ _ h => h) HS0.out ?_ ?_
            · intro o ho
              simp only [List.getElem?_toArray, List.getElem?_cons_succ, List.getElem?_cons_zero, Option.some.injEq] at ho
              subst ho
              refine ⟨rfl, rfl, fun w' hSw => ?_⟩
              have hs := HSI.out w' hSw
              go_split_ands
              go_simp
            simp only [Act.put, List.setIfInBounds_toArray, List.set_cons_zero, List.set_cons_succ]
            refine AnyT.load 6 62 (.pointer (some ⟨g2, o2 + j, none⟩)) rfl (by kernel_rfl) (by kernel_rfl) (by kernel_rfl) (by kernel_rfl) (by kernel_rfl) (fun _ _ _ h => h) HS0.out ?_ ?_
            · intro o ho
              simp only [List.getElem?_toArray, List.getElem?_cons_succ, List.getElem?_cons_zero, Option.some.injEq] at ho
              subst ho
              refine ⟨rfl, rfl, fun w' hSw => ?_⟩
              have hs := HSI.out w' hSw
              go_split_ands
              go_simp
            simp only [Act.put, List.setIfInBounds_toArray, List.set_cons_zero, List.set_cons_succ]
            refine AnyT.load 7 63 (.string ⟨tb.toArray⟩) rfl (by kernel_rfl) (by kernel_rfl) (by kernel_rfl) (by kernel_rfl) (by kernel_rfl) (fun _ _ _ h => h) HS0.out ?_ ?_
            · intro o ho
              simp only [List.getElem?_toArray, List.getElem?_cons_succ, List.getElem?_cons_zero, Option.some.injEq] at ho
              subst ho
              refine ⟨rfl, rfl, fun w' hSw => ?_⟩
              have hs := HSI.out w' hSw
              go_split_ands
              go_simp
            simp only [Act.put, List.setIfInBounds_toArray, List.set_cons_zero, List.set_cons_succ]
            refine AnyT.step 8 (by kernel_rfl) ?_
            intro o ho K hK
            simp only [List.getElem?_toArray, List.getElem?_cons_succ, List.getElem?_cons_zero, Option.some.injEq] at ho
            subst ho
            go_simp
            refine (RA.out _).mono ?_
            rintro e w8 ⟨rfl, hx8⟩
            have hy8 := (Ext.refl wr).drew.trans hx8
            refine hK.out _ _ (fun _ => HSE.out _ hy8) ?_
            clear HS0
            have HS0 := Lib.hid (HSE.out _ hy8)
            refine AnyT.load 9 55 (.tuple #[.string ⟨ts.toArray⟩, .int .i64 0]) rfl (by kernel_rfl) (by kernel_rfl) (by kernel_rfl) (by kernel_rfl) (by kernel_rfl) (fun _ _ _ h => h) HS0.out ?_ ?_
            · intro o ho
              simp only [List.getElem?_toArray, List.getElem?_cons_succ, List.getElem?_cons_zero, Option.some.injEq] at ho
              subst ho
              refine ⟨rfl, rfl, fun w' hSw => ?_⟩
              have hs := HSI.out w' hSw
              go_split_ands
              go_simp
            simp only [Act.put, List.setIfInBounds_toArray, List.set_cons_zero, List.set_cons_succ]
            refine AnyT.load 10 65 (.string ⟨ts.toArray⟩) rfl (by kernel_rfl) (by kernel_rfl) (by kernel_rfl) (by kernel_rfl) (by kernel_rfl) (fun _ _ _ h => h) HS0.out ?_ ?_
            · intro o ho
              simp only [List.getElem?_toArray, List.getElem?_cons_succ, List.getElem?_cons_zero, Option.some.injEq] at ho
              subst ho
              refine ⟨rfl, rfl, fun w' hSw => ?_⟩
              have hs := HSI.out w' hSw
              go_split_ands
              go_simp
            simp only [Act.put, List.setIfInBounds_toArray, List.set_cons_zero, List.set_cons_succ]
            refine AnyT.load 11 66 (.int .i64 0) rfl (by kernel_rfl) (by kernel_rfl) (by kernel_rfl) (by kernel_rfl) (by kernel_rfl) (fun _ _ _ h => h) HS0.out ?_ ?_
            · intro o ho
              simp only [List.getElem?_toArray, List.getElem?_cons_succ, List.getElem?_cons_zero, Option.some.injEq] at ho
              subst ho
              refine ⟨rfl, rfl, fun w' hSw => ?_⟩
              have hs := HSI.out w' hSw
              go_split_ands
              go_simp
            simp only [Act.put, List.setIfInBounds_toArray, List.set_cons_zero, List.set_cons_succ]
            refine AnyT.step 12 (by kernel_rfl) ?_
            intro o ho K hK
            simp only [List.getElem?_toArray, List.getElem?_cons_succ, List.getElem?_cons_zero, Option.some.injEq] at ho
            subst ho
            go_simp
            refine hK.out _ _ (fun _ => HS0.out) ?_
            refine AnyT.step 13 (by kernel_rfl) ?_
            intro o ho K hK
            simp only [List.getElem?_toArray, List.getElem?_cons_succ, List.getElem?_cons_zero, Option.some.injEq] at ho
            subst ho
            go_simp
            refine hK.out _ _ (fun _ => HS0.out) ?_
            refine AnyT.done (by kernel_rfl) ?_
            have HO8 := Lib.hid (own_extR HR.out hy8)
            have HC8 : Hid (Ch (RatR w8) xs ((List.zipWith (· + ·) a b).take j)) := HC
            have hw8 : w7.heap.size ≤ w8.heap.size := Nat.le_trans hw7 hy8.size
            have HX8 := Lib.hid (HXr.out.trans hy8)
            clear hx8 hy8 HSI HSE HS0 HR HC HO RA
            go_wp2_with (at_builtin; refine wpList_app1 rfl _ _ tRats rfl w7.heap.size rat_slice _ _ _ rfl HO8.out #[.string ⟨ts.toArray⟩] 1 1 rfl rfl rfl hbt hw8 ?_)
            intro v' w9 ho9 hg9 _
            have O9 : Hid (OwnL tRat 1 RatR w7.heap.size w9 v' ((List.zipWith (· + ·) a b).take (j + 1))) := by
              rw [Hid, HNX.out]
              exact OwnL.snoc (R := RatR) (x := sab) RatR.stab (fun u hu => by cases hu) (by rw [HLJ.out]; exact HO8.out) HC8.out (by rw [RatR, HTS.out]) (by rw [HLJ.out]; exact ho9) hg9
            have X9 := Lib.hid (HX8.out.grownO HO8.out hg9)
            clear ho9 hg9
            go_wp2
            go_roundw
            case rel => exact ⟨j + 1, by omega, by go_num, O9, X9⟩
            case measure => simp [RowKit.intOf]; omega
          · obtain rfl : j = k := by omega
            have HZL : Hid ((List.zipWith (· + ·) a b).length = j) := by
              have h1 := HAL.out
              have h2 := HBL.out
              rw [Hid, List.length_zipWith]; omega
            rw [List.take_of_length_le (by rw [HZL.out]; exact Nat.le_refl _)] at HO
            have HRS := Lib.hid HO.out.ls
            rw [HZL.out] at HRS
            have h0 : ∀ f ∈ fac, f = [] := fun f hf => List.eq_nil_of_length_eq_zero (HMO.out.fr f hf)
            have HLIN := Lib.hid (sc_linear (c := cq) hn1 hn3 HMO.out.ll HMO.out.fl HAL.out HBL.out h0)
            have F3a : ∀ q ∈ a, FitQ 3 q := fun q hq => (intp_fit1 (HAI.out q hq)).mono (by decide)
            have F3b : ∀ q ∈ b, FitQ 3 q := fun q hq => (intp_fit1 (HBI.out q hq)).mono (by decide)
            have FZ := sum_fit HAI.out HBI.out
            have F1 := Lib.hid (sc_fit2 HMO.out HAL.out F3a)
            have F2 := Lib.hid (sc_fit2 HMO.out HBL.out F3b)
            have F3 := Lib.hid (sc_fit2 HMO.out HZL.out FZ)
            have S1 := Lib.hid (fun v A ca w' h hx ht => mScore_any v A ca j 0 cq lin fac a w' h hx HMO.out F3a ht)
            have S2 := Lib.hid (fun v A ca w' h hx ht => mScore_any v A ca j 0 cq lin fac b w' h hx HMO.out F3b ht)
            have S3 := Lib.hid (fun v A ca w' h hx ht => mScore_any v A ca j 0 cq lin fac _ w' h hx HMO.out FZ ht)
            have FC := Lib.hid HMO.out.fc
            clear h0 F3a F3b FZ
            generalize List.zipWith (· + ·) a b = ab at *
            generalize sc cq lin fac a = p at *
            generalize sc cq lin fac b = q at *
            generalize sc cq lin fac ab = r at *
            have FPQ : Hid (FitQ 400 (p + q)) := by
              have e : p + q = r + cq := by have := HLIN.out; grind
              rw [Hid, e]
              exact (F3.out.add FC.out).mono (by decide)
            have AD := Lib.hid (fun w' => r2add_any p q w' (F1.out.mono (by decide)) (F2.out.mono (by decide)) FPQ.out)
            have SB := Lib.hid (fun w' => r2sub_any (p + q) cq w' FPQ.out (FC.out.mono (by decide)) (by rw [← HLIN.out]; exact F3.out.mono (by decide)))
            rw [← HLIN.out] at SB
            rw [← HTC.out] at SB
            have BMr := Lib.hid (BM7.out.ext HXr.out)
            have HMVr := Lib.hid (HMV7.out.ext HXr.out)
            have HRAr := Lib.hid (RL.ext HRA7.out HXr.out)
            have HRBr := Lib.hid (RL.ext HRB.out HXr.out)
            have HXw := Lib.hid (HX7.out.trans HXr.out)
            clear HO HC HR HLJ BM7 HMV7 HRA7 HRB HXr HX7
            generalize ratText p = tp at *
            generalize ratText q = tq at *
            generalize ratText r = tr at *
            generalize ratText (p + q) = tpq at *
            generalize wr = w8 at *
            obtain ⟨k0, k1, k2, k3⟩ := BMr.out.four
            go_wp2_with fail
            refine (S1.out _ _ _ w8 HMVr.out HRAr.out (HT.out.ext HXw.out)).mono ?_
            rintro e w9 ⟨rfl, hx9⟩
            have BM9 := Lib.hid (BMr.out.ext hx9)
            have HMV9 := Lib.hid (HMVr.out.ext hx9)
            have HRB9 := Lib.hid (RL.ext HRBr.out hx9)
            have HRS9 := Lib.hid (RL.ext HRS.out hx9)
            have HX9 := Lib.hid (HXw.out.trans hx9)
            clear hx9 BMr HMVr HRBr HRAr HRS HXw k0 k1 k2 k3
            obtain ⟨k0, k1, k2, k3⟩ := BM9.out.four
            go_wp2_with fail
            refine (S2.out _ _ _ w9 HMV9.out HRB9.out (HT.out.ext HX9.out)).mono ?_
            rintro e w10 ⟨rfl, hx10⟩
            have BM10 := Lib.hid (BM9.out.ext hx10)
            have HMV10 := Lib.hid (HMV9.out.ext hx10)
            have HRS10 := Lib.hid (RL.ext HRS9.out hx10)
            have HX10 := Lib.hid (HX9.out.trans hx10)
            clear hx10 BM9 HMV9 HRB9 HRS9 HX9 k0 k1 k2 k3
            obtain ⟨k0, k1, k2, k3⟩ := BM10.out.four
            go_wp2_with fail
            refine (S3.out _ _ _ w10 HMV10.out HRS10.out (HT.out.ext HX10.out)).mono ?_
            rintro e w11 ⟨rfl, hx11⟩
            have BM11 := Lib.hid (BM10.out.ext hx11)
            have HX11 := Lib.hid (HX10.out.trans hx11)
            clear hx11 BM10 HMV10 HRS10 HX10 k0 k1 k2 k3
            go_wp2_with fail
            refine (AD.out w11).mono ?_
            rintro e w12 ⟨rfl, hx12⟩
            have BM12 := Lib.hid (BM11.out.ext hx12)
            have HX12 := Lib.hid (HX11.out.trans hx12)
            clear hx12 BM11 HX11
            obtain ⟨k0, k1, k2, k3⟩ := BM12.out.four
            go_wp2_with fail
            refine (SB.out w12).mono ?_
            rintro e w13 ⟨rfl, hx13⟩
            have HX13 := Lib.hid (HX12.out.trans hx13)
            clear hx13 BM12 HX12 k0 k1 k2 k3
            go_wp2_with fail
            refine (msane_any w13 (HT.out.ext HX13.out)).mono ?_
            rintro e w14 ⟨rfl, hx14⟩
            go_wp2
            go_ret
            exact ⟨rfl, HX13.out.trans hx14⟩
  · have hd : decide (zs.length ≤ 600) = false := decide_eq_false hl
    rw [hd]
    go_wp2_with fail
    refine (msane_any w HT.out).mono ?_
    rintro e w1 ⟨rfl, hx1⟩
    go_wp2
    go_ret
    exact ⟨rfl, hx1⟩
end Go.Proofs.YtemnoemjmeflbaaGreatDoor
