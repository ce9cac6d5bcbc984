/- rational.Compare; corepoint.masses. -/
import Derived.Test.YtkhmfgkbobblmaaGreatDoorLay
import Derived.Test.YtkhmfgkbobblmaaGreatDoorText
import Derived.Test.YtkhmfgkbobblmaaGreatDoorLit
namespace Go.Proofs.YtkhmfgkbobblmaaGreatDoor
open Go.RowKit Go.Lib

set_option maxRecDepth 100000 in
set_option maxHeartbeats 2000000 in
theorem vclos_any (q : Rat) (w : World) (hf : FitQ 400 q) :
    Calls Tryz.prog 110 #[.string ⟨(ratText q).toArray⟩] w fun e w' => e = .returned (.bool false) ∧ Ext w w' := by
  have V := Lib.hid (fun w => rvalid_any q w hf)
  generalize ratText q = t at *
  go_enter Tryz.func110, Tryz.ntmps110
  go_wp2_with fail
  refine (V.out w).mono ?_
  rintro e w1 ⟨rfl, hx1⟩
  go_wp2
  go_ret
  exact ⟨rfl, hx1⟩
set_option maxRecDepth 100000 in
set_option maxHeartbeats 2000000 in
theorem vindex_any (v : Value) (l : List Rat) (w : World) (h : RL w v l) (hf : ∀ q ∈ l, FitQ 400 q) (_hn : l.length ≤ 1000) :
    Calls Tryz.prog 123 #[v, .func (.func 110) #[] #[]] w fun e w' => e = .returned (.int .i64 (-1)) ∧ Ext w w' := by
  obtain ⟨A, ca, rfl, _, hca, HA⟩ := h.parts
  have hca : ca ≤ 9223372036854775807 := by unfold maxLen at hca; omega
  have HF := Lib.hid hf
  clear h hf
  go_enter Tryz.func123, Tryz.ntmps123
  go_wp2_with fail
  go_loopw [5, 8] (fun _ v8 wr => ∃ k : Nat, k ≤ l.length ∧ v8 = .int .i64 k ∧ Hid (Ext w wr)) (fun _ v8 _ => l.length - (RowKit.intOf v8).toNat)
  case atStart => exact ⟨0, Nat.zero_le _, rfl, Ext.refl _⟩
  case round =>
    obtain ⟨k, hk, rfl, HXr⟩ := hrel
    by_cases hkl : k < l.length
    · obtain ⟨g1, o1, rfl, _, c0⟩ := RL.get (RL.ext HA.out HXr.out) hkl
      have CL1 := Lib.hid (vclos_any l[k] wr (HF.out _ (List.getElem_mem hkl)))
      generalize ratText l[k] = t at *
      go_wp2_with fail
      refine CL1.out.mono ?_
      rintro e w2 ⟨rfl, hx2⟩
      have HX2 := Lib.hid (HXr.out.trans hx2)
      clear hx2 c0
      go_wp2
      go_roundw
      case rel => exact ⟨k + 1, by omega, by go_num, HX2⟩
      case measure => simp [RowKit.intOf]; omega
    · obtain rfl : k = l.length := by omega
      go_wp2
      go_ret
      exact ⟨rfl, HXr.out⟩
set_option maxRecDepth 100000 in
set_option maxHeartbeats 2000000 in
theorem vcont_any (v : Value) (l : List Rat) (w : World) (h : RL w v l) (hf : ∀ q ∈ l, FitQ 400 q) (hn : l.length ≤ 1000) :
    Calls Tryz.prog 109 #[v, .func (.func 110) #[] #[]] w fun e w' => e = .returned (.bool false) ∧ Ext w w' := by
  have IX := Lib.hid (vindex_any v l w h hf hn)
  clear h hf hn
  go_enter Tryz.func109, Tryz.ntmps109
  go_wp2_with fail
  refine IX.out.mono ?_
  rintro e w1 ⟨rfl, hx1⟩
  go_wp2
  go_ret
  exact ⟨rfl, hx1⟩
set_option maxRecDepth 100000 in
set_option maxHeartbeats 2000000 in
theorem rvalids_any (v : Value) (l : List Rat) (w : World) (h : RL w v l) (hf : ∀ q ∈ l, FitQ 400 q) (hn : l.length ≤ 1000) :
    Calls Tryz.prog 88 #[v] w fun e w' => e = .returned (.bool true) ∧ Ext w w' := by
  have IX := Lib.hid (vcont_any v l w h hf hn)
  clear h hf hn
  go_enter Tryz.func88, Tryz.ntmps88
  go_wp2_with fail
  refine IX.out.mono ?_
  rintro e w1 ⟨rfl, hx1⟩
  go_wp2
  go_ret
  exact ⟨rfl, hx1⟩
theorem rlT {w : World} {g : Nat} {q r : Rat} {t u : List UInt8} (h : Blk w g tRat [.string ⟨t.toArray⟩, .string ⟨u.toArray⟩]) (hq : ratText q = t) (hr : ratText r = u) : RL w (.slice (some ⟨g, 0, none⟩) 2 2) [q, r] :=
  Ls.of_blk (l := [q, r]) h ⟨[.string ⟨t.toArray⟩], _, rfl, by rw [RatR, hq], [.string ⟨u.toArray⟩], [], rfl, by rw [RatR, hr], rfl⟩ (by simp)
set_option maxRecDepth 100000 in
set_option maxHeartbeats 2000000 in
theorem rcmp_any (p q : Rat) (w : World) (fp : FitQ 400 p) (fq : FitQ 400 q) :
    Calls Tryz.prog 62 #[.string ⟨(ratText p).toArray⟩, .string ⟨(ratText q).toArray⟩] w fun e w' => e = .returned (.int .i64 (cmpQ p q)) ∧ Ext w w' := by
  have R1 := Lib.hid (fun w => fread_any p w (e := 399) fp (by decide))
  have R2 := Lib.hid (fun w => fread_any q w (e := 399) fq (by decide))
  have G := Lib.hid (fun va vb w' ha hb => fcompare_any va vb p q w' ha hb fp fq (by decide))
  have VS := Lib.hid (fun v w' h => rvalids_any v [p, q] w' h (fun x hx => by simp only [List.mem_cons, List.not_mem_nil, or_false] at hx; rcases hx with rfl | rfl <;> assumption) (by simp))
  generalize hp : ratText p = t at *
  generalize hq : ratText q = u at *
  have HP := Lib.hid hp
  have HQ := Lib.hid hq
  generalize cmpQ p q = z at *
  clear hp hq fp fq
  go_enter Tryz.func62, Tryz.ntmps62
  go_wp2_with fail
  refine box1 (P := fun W => Calls _ _ _ W _) fun W HX0 BL => ?_
  refine (VS.out _ W (rlT BL.out HP.out HQ.out)).mono ?_
  rintro e w1 ⟨rfl, hx1⟩
  have HX1 := Lib.hid (HX0.out.trans hx1)
  clear hx1 BL
  go_wp2_with fail
  refine (R1.out w1).mono ?_
  rintro e w2 ⟨v2, rfl, hv2, hx2⟩
  go_wp2_with fail
  refine (R2.out w2).mono ?_
  rintro e w3 ⟨v3, rfl, hv3, hx3⟩
  go_wp2_with fail
  refine (G.out v2 v3 w3 (hv2.ext hx3) hv3).mono ?_
  rintro e w4 ⟨rfl, hx4⟩
  go_wp2
  go_ret
  exact ⟨rfl, HX1.out.trans (hx2.trans (hx3.trans hx4))⟩
set_option maxRecDepth 100000 in
set_option maxHeartbeats 2000000 in
theorem masses_any (vl : Value) (l : List Ms) (k : Nat) (w : World) (h : ML w vl l) (hm : MsOk l) (ha : Asc l) (h1 : 1 ≤ k) (h4 : k ≤ 4) :
    Calls Tryz.prog 36 #[vl, .int .i64 k] w fun e w' => e = .returned (.int .i64 (if l.length = 0 then 12 else 0)) ∧ Ext w w' := by
  obtain ⟨A, ca, rfl, _, hca, HA⟩ := h.parts
  have hca : ca ≤ 9223372036854775807 := by unfold maxLen at hca; omega
  have HM := Lib.hid hm
  have HS := Lib.hid ha
  have hn8 := hm.1
  have d1 : decide ((k : Int) < 1) = false := decide_eq_false (by omega)
  have d2 : decide ((k : Int) > 4) = false := decide_eq_false (by omega)
  have d3 : decide ((l.length : Int) > 60) = false := decide_eq_false (by omega)
  obtain ⟨z, hz⟩ : ∃ z : Int, (if l.length = 0 then (12 : Int) else 0) = z := ⟨_, rfl⟩
  rw [hz]
  have HZ := Lib.hid hz
  clear h hm ha hz
  go_enter Tryz.func36, Tryz.ntmps36
  go_wp2_with fail
  clear d1 d2 d3
  go_loopw [5, 6, 20] (fun _ _ v20 wr => ∃ i : Nat, i ≤ l.length ∧ v20 = .int .i64 i ∧ Hid (Ext w wr)) (fun _ _ v20 _ => l.length - (RowKit.intOf v20).toNat)
  case atStart => exact ⟨0, Nat.zero_le _, rfl, Ext.refl _⟩
  case round =>
    obtain ⟨i, hi, rfl, HXr⟩ := hrel
    by_cases hil : i < l.length
    · have HG := HM.out.2 _ (List.getElem_mem hil)
      have FV := HG.val.1.fit (e := 4) (by decide) (by decide) (by decide)
      have FW := HG.val.2.fit (e := 4) (by decide) (by decide) (by decide)
      have RV := Lib.hid (fun w' => rvalid_any l[i].1 w' (FV.mono (by decide)))
      have RS := Lib.hid (fun w' => rsign_any l[i].2 w' (FW.mono (by decide)))
      have HPS : Hid (l[i].2.num.sign = 1) := Int.sign_eq_one_of_pos (by
        have h1 := (@Rat.num_nonneg l[i].2).2 (Rat.le_of_lt HG.pos)
        have h2 : l[i].2.num ≠ 0 := fun e => by have h3 := HG.pos; rw [Rat.num_eq_zero.1 e] at h3; exact absurd h3 (by grind)
        omega)
      rw [HPS.out] at RS
      have RC : Hid (0 < i → ∃ t : List UInt8, (∀ w' g o, A = some ⟨g, o, none⟩ → Ext w w' → w'.cell? ⟨g, o + (i - 1) * 2, none⟩ = some (.string ⟨t.toArray⟩)) ∧ ∃ z : Int, z < 0 ∧ ∀ w', Calls Tryz.prog 62 #[.string ⟨t.toArray⟩, .string ⟨(ratText l[i].1).toArray⟩] w' fun e w'' => e = .returned (.int .i64 z) ∧ Ext w' w'') := by
        intro hi0
        have hj : i - 1 < l.length := by omega
        have hlt : l[i - 1].1 < l[i].1 := List.pairwise_iff_getElem.1 HS.out (i - 1) i hj hil (by omega)
        refine ⟨ratText l[i - 1].1, fun w' g o hA hx => ?_, cmpQ l[i - 1].1 l[i].1, cmpQ_lt.2 hlt, fun w' => ?_⟩
        · obtain ⟨g', o', e, _, c, _⟩ := ML.get (ML.ext HA.out hx) hj
          rw [hA] at e
          injection e with e
          injection e with e1 e2
          subst e1 e2
          exact c
        · exact rcmp_any l[i - 1].1 l[i].1 w' (((HM.out.2 _ (List.getElem_mem hj)).val.1.fit (e := 4) (by decide) (by decide) (by decide)).mono (by decide)) (FV.mono (by decide))
      obtain ⟨g1, o1, rfl, _, p1, p2⟩ := ML.get (ML.ext HA.out HXr.out) hil
      clear FV FW HG HPS
      generalize ratText l[i].1 = t1 at *
      generalize ratText l[i].2 = t2 at *
      go_upto_region 8 with fail
      refine box1 (P := fun W => Code.wp _ _ _ _ W) fun W HX0 BM => ?_
      obtain ⟨k0, k1⟩ := BM.out.two
      clear p1 p2
      go_wp2_with fail
      refine (RV.out W).mono ?_
      rintro e w1 ⟨rfl, hx1⟩
      have BM1 := Lib.hid (BM.out.ext hx1)
      have HX1 := Lib.hid (HX0.out.trans hx1)
      clear k0 k1 hx1 BM
      obtain ⟨k0, k1⟩ := BM1.out.two
      go_wp2_with fail
      refine (RS.out w1).mono ?_
      rintro e w2 ⟨rfl, hx2⟩
      have BM2 := Lib.hid (BM1.out.ext hx2)
      have HX2 := Lib.hid (HX1.out.trans hx2)
      have HXw := Lib.hid (HXr.out.trans HX2.out)
      clear k0 k1 hx2 BM1
      by_cases hi0 : 0 < i
      · obtain ⟨t0, HC, z, hz, HCL⟩ := RC.out hi0
        have d5 : decide (z ≥ 0) = false := decide_eq_false (by omega)
        have c0 := HC w2 g1 o1 rfl HXw.out
        have d4 : decide ((i : Int) > 0) = true := decide_eq_true (by omega)
        have hjj : (i : Int) - 1 = ((i - 1 : Nat) : Int) := by omega
        have hji : i - 1 < l.length := by omega
        have hwj : IntKind.i64.wrap ((i - 1 : Nat) : Int) = ((i - 1 : Nat) : Int) := by rw [IntKind.wrap_i64]; omega
        have HCC := Lib.hid (fun w' hx => HC w' g1 o1 rfl hx)
        have HCLh := Lib.hid HCL
        clear HC HCL RC
        generalize i - 1 = j at *
        go_upto_region 10 with fail
        have HSI : Hid (∀ w', Ext w2 w' → w'.cell? ⟨g1, o1 + j * 2, none⟩ = some (.string ⟨t0.toArray⟩) ∧ w'.cell? ⟨wr.heap.size, 0, none⟩ = some (.string ⟨t1.toArray⟩)) := fun w' hx => ⟨HCC.out w' (HXw.out.trans hx), (BM2.out.ext hx).two.1⟩
        have HS0 : Hid (Ext w2 w2.drew) := (Ext.refl w2).drew
        refine AnyT.start (S := fun w' => Ext w2 w') (T := fun _ => false) (by kernel_rfl) ?_
        refine AnyT.ld 0 35 (.int .i64 i) _ rfl rfl (by kernel_rfl) (fun _ _ _ h => h) HS0.out rfl ?_ ?_
        focus (intro w' hSw; have hs := HSI.out w' hSw; go_split_ands; go_simp; try (first | exact rfl | omega | go_num | (intro hbd; exfalso; omega)))
        simp only [Act.put, List.setIfInBounds_toArray, List.set_cons_zero, List.set_cons_succ]
        refine AnyT.ld 1 36 (.bool true) _ rfl rfl (by kernel_rfl) (fun _ _ _ h => h) HS0.out rfl ?_ ?_
        focus (intro w' hSw; have hs := HSI.out w' hSw; go_split_ands; go_simp; try (first | exact rfl | omega | go_num | (intro hbd; exfalso; omega)))
        simp only [Act.put, List.setIfInBounds_toArray, List.set_cons_zero, List.set_cons_succ]
        refine AnyT.ld 2 37 (.bool true) _ rfl rfl (by kernel_rfl) (fun _ _ _ h => h) HS0.out rfl ?_ ?_
        focus (intro w' hSw; have hs := HSI.out w' hSw; go_split_ands; go_simp; try (first | exact rfl | omega | go_num | (intro hbd; exfalso; omega)))
        simp only [Act.put, List.setIfInBounds_toArray, List.set_cons_zero, List.set_cons_succ]
        refine AnyT.ld 3 38 (.slice (some ⟨g1, o1, none⟩) l.length ca) _ rfl rfl (by kernel_rfl) (fun _ _ _ h => h) HS0.out rfl ?_ ?_
        focus (intro w' hSw; have hs := HSI.out w' hSw; go_split_ands; go_simp; try (first | exact rfl | omega | go_num | (intro hbd; exfalso; omega)))
        simp only [Act.put, List.setIfInBounds_toArray, List.set_cons_zero, List.set_cons_succ]
        refine AnyT.ld 4 39 (.int .i64 i) _ rfl rfl (by kernel_rfl) (fun _ _ _ h => h) HS0.out rfl ?_ ?_
        focus (intro w' hSw; have hs := HSI.out w' hSw; go_split_ands; go_simp; try (first | exact rfl | omega | go_num | (intro hbd; exfalso; omega)))
        simp only [Act.put, List.setIfInBounds_toArray, List.set_cons_zero, List.set_cons_succ]
        refine AnyT.ld 5 40 (.int .i64 j) _ rfl rfl (by kernel_rfl) (fun _ _ _ h => h) HS0.out rfl ?_ ?_
        focus (intro w' hSw; have hs := HSI.out w' hSw; go_split_ands; go_simp; try (first | exact rfl | omega | go_num | (intro hbd; exfalso; omega)))
        simp only [Act.put, List.setIfInBounds_toArray, List.set_cons_zero, List.set_cons_succ]
        refine AnyT.ld 6 41 (.pointer (some ⟨g1, o1 + j * 2, none⟩)) _ rfl rfl (by kernel_rfl) (fun _ _ _ h => h) HS0.out rfl ?_ ?_
        focus (intro w' hSw; have hs := HSI.out w' hSw; go_split_ands; go_simp; try (first | exact rfl | omega | go_num | (intro hbd; exfalso; omega)))
        simp only [Act.put, List.setIfInBounds_toArray, List.set_cons_zero, List.set_cons_succ]
        refine AnyT.ld 7 42 (.pointer (some ⟨g1, o1 + j * 2, none⟩)) _ rfl rfl (by kernel_rfl) (fun _ _ _ h => h) HS0.out rfl ?_ ?_
        focus (intro w' hSw; have hs := HSI.out w' hSw; go_split_ands; go_simp; try (first | exact rfl | omega | go_num | (intro hbd; exfalso; omega)))
        simp only [Act.put, List.setIfInBounds_toArray, List.set_cons_zero, List.set_cons_succ]
        refine AnyT.ld 8 43 (.string ⟨t0.toArray⟩) _ rfl rfl (by kernel_rfl) (fun _ _ _ h => h) HS0.out rfl ?_ ?_
        focus (intro w' hSw; have hs := HSI.out w' hSw; go_split_ands; go_simp; try (first | exact rfl | omega | go_num | (intro hbd; exfalso; omega)))
        simp only [Act.put, List.setIfInBounds_toArray, List.set_cons_zero, List.set_cons_succ]
        refine AnyT.ld 9 44 (.pointer (some ⟨wr.heap.size, 0, none⟩)) _ rfl rfl (by kernel_rfl) (fun _ _ _ h => h) HS0.out rfl ?_ ?_
        focus (intro w' hSw; have hs := HSI.out w' hSw; go_split_ands; go_simp; try (first | exact rfl | omega | go_num | (intro hbd; exfalso; omega)))
        simp only [Act.put, List.setIfInBounds_toArray, List.set_cons_zero, List.set_cons_succ]
        refine AnyT.ld 10 45 (.string ⟨t1.toArray⟩) _ rfl rfl (by kernel_rfl) (fun _ _ _ h => h) HS0.out rfl ?_ ?_
        focus (intro w' hSw; have hs := HSI.out w' hSw; go_split_ands; go_simp; try (first | exact rfl | omega | go_num | (intro hbd; exfalso; omega)))
        simp only [Act.put, List.setIfInBounds_toArray, List.set_cons_zero, List.set_cons_succ]
        refine AnyT.step 11 (by kernel_rfl) ?_
        intro o ho K hK
        simp only [List.getElem?_toArray, List.getElem?_cons_succ, List.getElem?_cons_zero, Option.some.injEq] at ho
        subst ho
        go_simp
        refine (HCLh.out _).mono ?_
        rintro e w3 ⟨rfl, hx3⟩
        have hy3 := HS0.out.trans hx3
        refine hK.out _ _ (fun _ => hy3) ?_
        clear HS0
        have HS0 := Lib.hid hy3
        refine AnyT.ld 12 47 (.bool false) _ rfl rfl (by kernel_rfl) (fun _ _ _ h => h) HS0.out rfl ?_ ?_
        focus (intro w' hSw; have hs := HSI.out w' hSw; go_split_ands; go_simp; try (first | exact rfl | omega | go_num | (intro hbd; exfalso; omega)))
        simp only [Act.put, List.setIfInBounds_toArray, List.set_cons_zero, List.set_cons_succ]
        refine AnyT.step 13 (by kernel_rfl) ?_
        intro o ho K hK
        simp only [List.getElem?_toArray, List.getElem?_cons_succ, List.getElem?_cons_zero, Option.some.injEq] at ho
        subst ho
        go_simp
        refine hK.out _ _ (fun _ => HS0.out) ?_
        refine AnyT.done (by kernel_rfl) ?_
        have HXf := Lib.hid (HXw.out.trans hy3)
        clear c0 d4 d5 hjj HSI HS0 hx3 hy3 HCC HCLh
        go_wp2_with fail
        go_roundw
        case rel => exact ⟨i + 1, by omega, by go_num, HXf⟩
        case measure => simp [RowKit.intOf]; omega
      · have d4 : decide ((i : Int) > 0) = false := decide_eq_false (by omega)
        clear RC
        go_upto_region 10 with fail
        have HSI : Hid (∀ w', Ext w2 w' → True) := fun _ _ => trivial
        have HS0 : Hid (Ext w2 w2.drew) := (Ext.refl w2).drew
        refine AnyT.start (S := fun w' => Ext w2 w') (T := fun _ => false) (by kernel_rfl) ?_
        refine AnyT.ld 0 35 (.int .i64 i) _ rfl rfl (by kernel_rfl) (fun _ _ _ h => h) HS0.out rfl ?_ ?_
        focus (intro w' hSw; have hs := HSI.out w' hSw; go_split_ands; go_simp; try (first | exact rfl | omega | go_num | (intro hbd; exfalso; omega)))
        simp only [Act.put, List.setIfInBounds_toArray, List.set_cons_zero, List.set_cons_succ]
        refine AnyT.ld 1 36 (.bool false) _ rfl rfl (by kernel_rfl) (fun _ _ _ h => h) HS0.out rfl ?_ ?_
        focus (intro w' hSw; have hs := HSI.out w' hSw; go_split_ands; go_simp; try (first | exact rfl | omega | go_num | (intro hbd; exfalso; omega)))
        simp only [Act.put, List.setIfInBounds_toArray, List.set_cons_zero, List.set_cons_succ]
        refine AnyT.ld 2 37 (.bool false) _ rfl rfl (by kernel_rfl) (fun _ _ _ h => h) HS0.out rfl ?_ ?_
        focus (intro w' hSw; have hs := HSI.out w' hSw; go_split_ands; go_simp; try (first | exact rfl | omega | go_num | (intro hbd; exfalso; omega)))
        simp only [Act.put, List.setIfInBounds_toArray, List.set_cons_zero, List.set_cons_succ]
        refine AnyT.loadU 3 38 rfl (by kernel_rfl) (by kernel_rfl) (by kernel_rfl) (by kernel_rfl) (by kernel_rfl) (fun _ _ _ h => h) HS0.out ?_ ?_
        · intro o ho
          simp only [List.getElem?_toArray, List.getElem?_cons_succ, List.getElem?_cons_zero, Option.some.injEq] at ho
          subst ho
          exact ⟨rfl, rfl⟩
        simp only [Act.put, List.setIfInBounds_toArray, List.set_cons_zero, List.set_cons_succ]
        refine AnyT.loadU 4 39 rfl (by kernel_rfl) (by kernel_rfl) (by kernel_rfl) (by kernel_rfl) (by kernel_rfl) (fun _ _ _ h => h) HS0.out ?_ ?_
        · intro o ho
          simp only [List.getElem?_toArray, List.getElem?_cons_succ, List.getElem?_cons_zero, Option.some.injEq] at ho
          subst ho
          exact ⟨rfl, rfl⟩
        simp only [Act.put, List.setIfInBounds_toArray, List.set_cons_zero, List.set_cons_succ]
        refine AnyT.loadU 5 40 rfl (by kernel_rfl) (by kernel_rfl) (by kernel_rfl) (by kernel_rfl) (by kernel_rfl) (fun _ _ _ h => h) HS0.out ?_ ?_
        · intro o ho
          simp only [List.getElem?_toArray, List.getElem?_cons_succ, List.getElem?_cons_zero, Option.some.injEq] at ho
          subst ho
          exact ⟨rfl, rfl⟩
        simp only [Act.put, List.setIfInBounds_toArray, List.set_cons_zero, List.set_cons_succ]
        refine AnyT.loadU 6 41 rfl (by kernel_rfl) (by kernel_rfl) (by kernel_rfl) (by kernel_rfl) (by kernel_rfl) (fun _ _ _ h => h) HS0.out ?_ ?_
        · intro o ho
          simp only [List.getElem?_toArray, List.getElem?_cons_succ, List.getElem?_cons_zero, Option.some.injEq] at ho
          subst ho
          exact ⟨rfl, rfl⟩
        simp only [Act.put, List.setIfInBounds_toArray, List.set_cons_zero, List.set_cons_succ]
        refine AnyT.loadU 7 42 rfl (by kernel_rfl) (by kernel_rfl) (by kernel_rfl) (by kernel_rfl) (by kernel_rfl) (fun _ _ _ h => h) HS0.out ?_ ?_
        · intro o ho
          simp only [List.getElem?_toArray, List.getElem?_cons_succ, List.getElem?_cons_zero, Option.some.injEq] at ho
          subst ho
          exact ⟨rfl, rfl⟩
        simp only [Act.put, List.setIfInBounds_toArray, List.set_cons_zero, List.set_cons_succ]
        refine AnyT.loadU 8 43 rfl (by kernel_rfl) (by kernel_rfl) (by kernel_rfl) (by kernel_rfl) (by kernel_rfl) (fun _ _ _ h => h) HS0.out ?_ ?_
        · intro o ho
          simp only [List.getElem?_toArray, List.getElem?_cons_succ, List.getElem?_cons_zero, Option.some.injEq] at ho
          subst ho
          exact ⟨rfl, rfl⟩
        simp only [Act.put, List.setIfInBounds_toArray, List.set_cons_zero, List.set_cons_succ]
        refine AnyT.loadU 9 44 rfl (by kernel_rfl) (by kernel_rfl) (by kernel_rfl) (by kernel_rfl) (by kernel_rfl) (fun _ _ _ h => h) HS0.out ?_ ?_
        · intro o ho
          simp only [List.getElem?_toArray, List.getElem?_cons_succ, List.getElem?_cons_zero, Option.some.injEq] at ho
          subst ho
          exact ⟨rfl, rfl⟩
        simp only [Act.put, List.setIfInBounds_toArray, List.set_cons_zero, List.set_cons_succ]
        refine AnyT.loadU 10 45 rfl (by kernel_rfl) (by kernel_rfl) (by kernel_rfl) (by kernel_rfl) (by kernel_rfl) (fun _ _ _ h => h) HS0.out ?_ ?_
        · intro o ho
          simp only [List.getElem?_toArray, List.getElem?_cons_succ, List.getElem?_cons_zero, Option.some.injEq] at ho
          subst ho
          exact ⟨rfl, rfl⟩
        simp only [Act.put, List.setIfInBounds_toArray, List.set_cons_zero, List.set_cons_succ]
        refine AnyT.loadU 11 46 rfl (by kernel_rfl) (by kernel_rfl) (by kernel_rfl) (by kernel_rfl) (by kernel_rfl) (fun _ _ _ h => h) HS0.out ?_ ?_
        · intro o ho
          simp only [List.getElem?_toArray, List.getElem?_cons_succ, List.getElem?_cons_zero, Option.some.injEq] at ho
          subst ho
          exact ⟨rfl, rfl⟩
        simp only [Act.put, List.setIfInBounds_toArray, List.set_cons_zero, List.set_cons_succ]
        refine AnyT.loadU 12 47 rfl (by kernel_rfl) (by kernel_rfl) (by kernel_rfl) (by kernel_rfl) (by kernel_rfl) (fun _ _ _ h => h) HS0.out ?_ ?_
        · intro o ho
          simp only [List.getElem?_toArray, List.getElem?_cons_succ, List.getElem?_cons_zero, Option.some.injEq] at ho
          subst ho
          exact ⟨rfl, rfl⟩
        simp only [Act.put, List.setIfInBounds_toArray, List.set_cons_zero, List.set_cons_succ]
        refine AnyT.step 13 (by kernel_rfl) ?_
        intro o ho K hK
        simp only [List.getElem?_toArray, List.getElem?_cons_succ, List.getElem?_cons_zero, Option.some.injEq] at ho
        subst ho
        go_simp
        refine hK.out _ _ (fun _ => HS0.out) ?_
        refine AnyT.done (by kernel_rfl) ?_
        have HXf := Lib.hid (HXw.out.drew)
        clear d4 HSI HS0
        go_wp2_with fail
        go_roundw
        case rel => exact ⟨i + 1, by omega, by go_num, HXf⟩
        case measure => simp [RowKit.intOf]; omega
    · obtain rfl : i = l.length := by omega
      by_cases h0 : l.length = 0
      · obtain rfl : (12 : Int) = z := by rw [← HZ.out, if_pos h0]
        have d6 : ((l.length : Int) == 0) = true := by rw [beq_iff_eq]; omega
        go_wp2
        go_ret
        exact ⟨rfl, HXr.out⟩
      · obtain rfl : (0 : Int) = z := by rw [← HZ.out, if_neg h0]
        have d6 : ((l.length : Int) == 0) = false := by rw [beq_eq_false_iff_ne]; omega
        have d7 : ¬ ((l.length : Int) = 0) := by omega
        have d8 : ¬ (l = []) := fun e => h0 (by rw [e]; rfl)
        go_wp2
        go_ret
        exact ⟨rfl, HXr.out⟩
end Go.Proofs.YtkhmfgkbobblmaaGreatDoor
