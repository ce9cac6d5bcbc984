/- joinlearnlaw27.CorepointGrids, walked: it returns true. -/
import Derived.Test.YtkhmfgkbobblmaaGreatDoorLineN
namespace Go.Proofs.YtkhmfgkbobblmaaGreatDoor
open Go.RowKit Go.Lib

set_option maxRecDepth 100000 in
set_option maxHeartbeats 1000000 in
theorem cgrids_walk (t : TypeId) (A : Option Addr) (zs : List Int) (c : Nat) (w : World) (hc : zs.length ≤ c) (hm : c ≤ 9223372036854775807) (hs : Sl w t A (zcells zs)) (hz : ∀ z ∈ zs, -9223372036854775808 ≤ z ∧ z ≤ 9223372036854775807) (ht : Tab w) :
    Calls Tryz.prog 4 #[.slice A zs.length c] w fun e w' => e = .returned (.bool true) ∧ Ext w w' := by
  have HS := Lib.hid hs
  have HZ := Lib.hid hz
  have HT := Lib.hid ht
  clear hs hz ht
  go_enter Tryz.func4, Tryz.ntmps4
  go_wp2_with fail
  refine (light_any A zs.length c w (by omega)).mono ?_
  rintro e w0 ⟨rfl, rfl⟩
  by_cases hl : zs.length ≤ 600
  · have hd : decide (zs.length ≤ 600) = true := decide_eq_true hl
    rw [hd]
    go_wp2_with fail
    refine (mnew_any t A zs c w hc hm hl HS.out HZ.out).mono ?_
    rintro e w1 ⟨rfl, hsrc1, hx1⟩
    clear hd
    go_wp2_with fail
    refine (mmasses_any w.heap.size 8 w1 hsrc1 (by decide)).mono ?_
    rintro e w2 ⟨Al, cl, l, hl8, hok, hasc, rfl, hml, hs2, ho2⟩
    have HX2 := Lib.hid (hx1.only ho2 (Nat.le_refl _))
    have HOK := Lib.hid hok
    have HAS := Lib.hid hasc
    clear hx1 ho2 hsrc1 hl hok hasc
    go_wp2_with fail
    refine (range_any w.heap.size 1 4 w2 hs2 (by decide) (by decide)).mono ?_
    rintro e w3 ⟨k, hk1, hk4, rfl, hs3, ho3⟩
    have HX3 := Lib.hid (HX2.out.only ho3 (Nat.le_refl _))
    have HML : Hid (ML w3 (.slice Al l.length cl) l) := Ls.kept MaR.stab hml (Src.keptA hs2 ho3) (by decide)
    obtain ⟨-, -, hcm⟩ := cap_le HML.out
    clear ho3 hs2 hs3 hml HX2
    by_cases hn0 : l = []
    · subst hn0
      have LN := Lib.hid (line_nil _ k w3 HML.out hk1 hk4)
      go_wp2_with fail
      refine LN.out.mono ?_
      rintro e w4 ⟨rfl, hx4⟩
      go_wp2_with fail
      refine (lsane_any w4 (HT.out.ext (HX3.out.trans hx4))).mono ?_
      rintro e w5 ⟨rfl, hx5⟩
      go_wp2
      go_ret
      exact ⟨rfl, HX3.out.trans (hx4.trans hx5)⟩
    · have h0 : 0 < l.length := by
        rcases l with _ | ⟨x, l⟩
        · exact absurd rfl hn0
        · simp
      obtain ⟨z, hz⟩ : ∃ z, l.length - 1 = z := ⟨_, rfl⟩
      have hll : z < l.length := by omega
      have hl1' : ((l.length : Nat) : Int) - 1 = (z : Int) := by omega
      have hlz : l.length ≤ z + 1 := by omega
      clear hz
      have hwz : IntKind.i64.wrap (z : Int) = (z : Int) := by rw [IntKind.wrap_i64]; omega
      have LA := Lib.hid (line_any _ l k w3 HML.out HOK.out HAS.out hn0 hk1 hk4 (HT.out.ext HX3.out))
      have hp := HOK.out.pos
      have hpl := lp_lt h0 hk1
      have CA := Lib.hid (lcen_asc hp HAS.out h0 hk1)
      have CG := Lib.hid (cen_ge (lp l k) l hp (by omega) l[0].1 (asc_ge HAS.out h0))
      have CL := Lib.hid (cen_le (lp l k) l hp (by omega) l[z].1 (asc_le HAS.out hll hlz))
      have CF := Lib.hid (cen_fit (lp l k) l HOK.out (by omega))
      have F0 := Lib.hid ((HOK.out.2 _ (List.getElem_mem h0)).val.1.fit (e := 4) (by decide) (by decide) (by decide))
      have FL := Lib.hid ((HOK.out.2 _ (List.getElem_mem hll)).val.1.fit (e := 4) (by decide) (by decide) (by decide))
      have CN := Lib.hid (lcost_nonneg hp h0 hk1)
      have CF' : Hid (FitQ 400 (lcost l k)) := (dv_fit (lp l k) l HOK.out (by omega)).mono (by omega)
      have CZ := Lib.hid (lcost_zero hp HAS.out h0 hk1)
      have hlen := lcen_length l k
      have HLC : Hid (cen (lp l k) l = lcen l k) := rfl
      rw [HLC.out] at CG CL CF
      obtain ⟨g, o, rfl, _, hm0, _⟩ := ML.get HML.out h0
      obtain ⟨g', o', e', hgw, hmL, _⟩ := ML.get HML.out hll
      injection e' with e'
      injection e' with e1 e2
      subst e1 e2
      have HMC : Hid (∀ w', Ext w3 w' → w'.cell? ⟨g, o, none⟩ = some (.string ⟨(ratText l[0].1).toArray⟩) ∧ w'.cell? ⟨g, o + z * 2, none⟩ = some (.string ⟨(ratText l[z].1).toArray⟩)) := by
        rw [Nat.zero_mul, Nat.add_zero] at hm0
        exact fun w' hx => ⟨(hx.cell (p := ⟨g, o, none⟩) hgw).trans hm0, (hx.cell (p := ⟨g, o + z * 2, none⟩) hgw).trans hmL⟩
      clear hm0 hmL hgw HLC hp
      generalize l[0].1 = v0 at *
      generalize l[z].1 = vL at *
      obtain ⟨L, hL⟩ : ∃ L, lcen l k = L := ⟨_, rfl⟩
      rw [hL] at LA CA CG CL CF CZ hlen
      clear hL
      generalize lcost l k = lc at *
      have hln : L.length ≤ min k l.length := by omega
      have hl1 : 1 ≤ L.length := by omega
      clear hlen hpl
      generalize lp l k = p at *
      obtain ⟨m, hm⟩ : ∃ m, L.length = m := ⟨_, rfl⟩
      rw [hm] at LA hln hl1 CZ
      have HLM := Lib.hid hm
      clear hm
      go_wp2_with fail
      refine LA.out.mono ?_
      rintro e w4 ⟨Ac, cc, rfl, hrl, hx4⟩
      obtain ⟨-, -, hccm⟩ := cap_le hrl
      have HX4 := Lib.hid (HX3.out.trans hx4)
      have HRL := Lib.hid hrl
      have HX34 := Lib.hid hx4
      clear hx4 hrl LA
      go_wp2_with fail
      go_loopw [9, 37] (fun _ v37 wr => ∃ i : Nat, i ≤ m ∧ v37 = .int .i64 i ∧ Hid (Ext w4 wr)) (fun _ v37 _ => m - (RowKit.intOf v37).toNat)
      case atStart => exact ⟨0, Nat.zero_le _, rfl, Ext.refl _⟩
      case round =>
        obtain ⟨i, hi, rfl, HXr⟩ := hrel
        by_cases him : i < m
        · have hiL : i < L.length := by rw [HLM.out]; exact him
          obtain ⟨g5, o5, rfl, _, hci⟩ := RL.get (RL.ext HRL.out HXr.out) hiL
          have HCI : Hid (∀ w', Ext wr w' → w'.cell? ⟨g5, o5 + i, none⟩ = some (.string ⟨(ratText L[i]).toArray⟩)) := fun w' hx => by
            obtain ⟨g6, o6, e', _, h⟩ := RL.get (RL.ext HRL.out (HXr.out.trans hx)) hiL
            injection e' with e'
            injection e' with e1 e2
            subst e1 e2
            exact h
          have hmi := List.getElem_mem hiL
          have C1 := Lib.hid (fun w' => cmp_ge ((CF.out _ hmi).mono (by decide)) (F0.out.mono (by decide)) (CG.out _ hmi) w')
          have C2 := Lib.hid (fun w' => cmp_le ((CF.out _ hmi).mono (by decide)) (FL.out.mono (by decide)) (CL.out _ hmi) w')
          clear hci
          by_cases hi0 : 0 < i
          · obtain ⟨j, rfl⟩ : ∃ j, i = j + 1 := ⟨i - 1, by omega⟩
            have hjL : j < L.length := by omega
            have hi1' : ((j + 1 : Nat) : Int) - 1 = (j : Int) := by omega
            have hjm : j < m := by omega
            have hwj : IntKind.i64.wrap (j : Int) = (j : Int) := by rw [IntKind.wrap_i64]; omega
            have HCJ : Hid (∀ w', Ext wr w' → w'.cell? ⟨g5, o5 + j, none⟩ = some (.string ⟨(ratText L[j]).toArray⟩)) := fun w' hx => by
              obtain ⟨g6, o6, e', _, h⟩ := RL.get (RL.ext HRL.out (HXr.out.trans hx)) hjL
              injection e' with e'
              injection e' with e1 e2
              subst e1 e2
              exact h
            have hmj := List.getElem_mem hjL
            have C3 := Lib.hid (fun w' => cmp_lt ((CF.out _ hmj).mono (by decide)) ((CF.out _ hmi).mono (by decide)) (List.pairwise_iff_getElem.1 CA.out j (j + 1) hjL hiL (by omega)) w')
            clear hmi hmj
            generalize L[j] = cj at *
            generalize L[j + 1] = ci at *
            clear hiL hjL
            go_upto_region 11 with fail
            generalize ratText ci = ti at *
            generalize ratText cj = tj at *
            generalize ratText v0 = t0 at *
            generalize ratText vL = tL at *
            have HSI : Hid (∀ w', Ext wr w' → w'.cell? ⟨g, o, none⟩ = some (.string ⟨t0.toArray⟩) ∧ w'.cell? ⟨g, o + z * 2, none⟩ = some (.string ⟨tL.toArray⟩) ∧ w'.cell? ⟨g5, o5 + (j + 1), none⟩ = some (.string ⟨ti.toArray⟩) ∧ w'.cell? ⟨g5, o5 + j, none⟩ = some (.string ⟨tj.toArray⟩)) := fun w' hx => ⟨(HMC.out w' (HX34.out.trans (HXr.out.trans hx))).1, (HMC.out w' (HX34.out.trans (HXr.out.trans hx))).2, HCI.out w' hx, HCJ.out w' hx⟩
            have HS0 : Hid (Ext wr wr.drew) := (Ext.refl wr).drew
            refine AnyT.start (S := fun w' => Ext wr w') (T := fun _ => false) (by kernel_rfl) ?_
            refine AnyT.loadD 0 40 ?_ rfl (by kernel_rfl) (by kernel_rfl) (by kernel_rfl) (by kernel_rfl) (by kernel_rfl) (fun _ _ _ h => h) HS0.out ?_ ?_
            rotate_left
            · intro o ho
              simp only [List.getElem?_toArray, List.getElem?_cons_zero, Option.some.injEq] at ho
              subst ho
              refine ⟨rfl, rfl, fun w' hSw => ?_⟩
              have hs := HSI.out w' hSw
              go_split_ands
              go_simp
              try (first | exact rfl | omega | go_num | (intro hbd; exfalso; omega))
            simp only [Act.put, List.setIfInBounds_toArray, List.set_cons_zero, List.set_cons_succ]
            refine AnyT.loadD 1 41 ?_ rfl (by kernel_rfl) (by kernel_rfl) (by kernel_rfl) (by kernel_rfl) (by kernel_rfl) (fun _ _ _ h => h) HS0.out ?_ ?_
            rotate_left
            · intro o ho
              simp only [List.getElem?_toArray, List.getElem?_cons_succ, List.getElem?_cons_zero, Option.some.injEq] at ho
              subst ho
              refine ⟨rfl, rfl, fun w' hSw => ?_⟩
              have hs := HSI.out w' hSw
              go_split_ands
              go_simp
              try (first | exact rfl | omega | go_num | (intro hbd; exfalso; omega))
            simp only [Act.put, List.setIfInBounds_toArray, List.set_cons_zero, List.set_cons_succ]
            refine AnyT.loadD 2 42 ?_ rfl (by kernel_rfl) (by kernel_rfl) (by kernel_rfl) (by kernel_rfl) (by kernel_rfl) (fun _ _ _ h => h) HS0.out ?_ ?_
            rotate_left
            · intro o ho
              simp only [List.getElem?_toArray, List.getElem?_cons_succ, List.getElem?_cons_zero, Option.some.injEq] at ho
              subst ho
              refine ⟨rfl, rfl, fun w' hSw => ?_⟩
              have hs := HSI.out w' hSw
              go_split_ands
              go_simp
              try (first | exact rfl | omega | go_num | (intro hbd; exfalso; omega))
            simp only [Act.put, List.setIfInBounds_toArray, List.set_cons_zero, List.set_cons_succ]
            refine AnyT.loadD 3 43 ?_ rfl (by kernel_rfl) (by kernel_rfl) (by kernel_rfl) (by kernel_rfl) (by kernel_rfl) (fun _ _ _ h => h) HS0.out ?_ ?_
            rotate_left
            · intro o ho
              simp only [List.getElem?_toArray, List.getElem?_cons_succ, List.getElem?_cons_zero, Option.some.injEq] at ho
              subst ho
              refine ⟨rfl, rfl, fun w' hSw => ?_⟩
              have hs := HSI.out w' hSw
              go_split_ands
              go_simp
              try (first | exact rfl | omega | go_num | (intro hbd; exfalso; omega))
            simp only [Act.put, List.setIfInBounds_toArray, List.set_cons_zero, List.set_cons_succ]
            refine AnyT.loadD 4 44 ?_ rfl (by kernel_rfl) (by kernel_rfl) (by kernel_rfl) (by kernel_rfl) (by kernel_rfl) (fun _ _ _ h => h) HS0.out ?_ ?_
            rotate_left
            · intro o ho
              simp only [List.getElem?_toArray, List.getElem?_cons_succ, List.getElem?_cons_zero, Option.some.injEq] at ho
              subst ho
              refine ⟨rfl, rfl, fun w' hSw => ?_⟩
              have hs := HSI.out w' hSw
              go_split_ands
              go_simp
              try (first | exact rfl | omega | go_num | (intro hbd; exfalso; omega))
            simp only [Act.put, List.setIfInBounds_toArray, List.set_cons_zero, List.set_cons_succ]
            refine AnyT.loadD 5 45 ?_ rfl (by kernel_rfl) (by kernel_rfl) (by kernel_rfl) (by kernel_rfl) (by kernel_rfl) (fun _ _ _ h => h) HS0.out ?_ ?_
            rotate_left
            · intro o ho
              simp only [List.getElem?_toArray, List.getElem?_cons_succ, List.getElem?_cons_zero, Option.some.injEq] at ho
              subst ho
              refine ⟨rfl, rfl, fun w' hSw => ?_⟩
              have hs := HSI.out w' hSw
              go_split_ands
              go_simp
              try (first | exact rfl | omega | go_num | (intro hbd; exfalso; omega))
            simp only [Act.put, List.setIfInBounds_toArray, List.set_cons_zero, List.set_cons_succ]
            refine AnyT.loadD 6 46 ?_ rfl (by kernel_rfl) (by kernel_rfl) (by kernel_rfl) (by kernel_rfl) (by kernel_rfl) (fun _ _ _ h => h) HS0.out ?_ ?_
            rotate_left
            · intro o ho
              simp only [List.getElem?_toArray, List.getElem?_cons_succ, List.getElem?_cons_zero, Option.some.injEq] at ho
              subst ho
              refine ⟨rfl, rfl, fun w' hSw => ?_⟩
              have hs := HSI.out w' hSw
              go_split_ands
              go_simp
              try (first | exact rfl | omega | go_num | (intro hbd; exfalso; omega))
            simp only [Act.put, List.setIfInBounds_toArray, List.set_cons_zero, List.set_cons_succ]
            refine AnyT.loadD 7 47 ?_ rfl (by kernel_rfl) (by kernel_rfl) (by kernel_rfl) (by kernel_rfl) (by kernel_rfl) (fun _ _ _ h => h) HS0.out ?_ ?_
            rotate_left
            · intro o ho
              simp only [List.getElem?_toArray, List.getElem?_cons_succ, List.getElem?_cons_zero, Option.some.injEq] at ho
              subst ho
              refine ⟨rfl, rfl, fun w' hSw => ?_⟩
              have hs := HSI.out w' hSw
              go_split_ands
              go_simp
              try (first | exact rfl | omega | go_num | (intro hbd; exfalso; omega))
            simp only [Act.put, List.setIfInBounds_toArray, List.set_cons_zero, List.set_cons_succ]
            refine AnyT.step 8 (by kernel_rfl) ?_
            intro o ho K hK
            simp only [List.getElem?_toArray, List.getElem?_cons_succ, List.getElem?_cons_zero, Option.some.injEq] at ho
            subst ho
            go_simp
            refine (C1.out _).mono ?_
            rintro e wx ⟨s1, hss1, rfl, hxx⟩
            have hyy := HS0.out.trans hxx
            refine hK.out _ _ (fun _ => hyy) ?_
            clear HS0
            have HS0 := Lib.hid hyy
            clear hxx hyy
            refine AnyT.loadD 9 49 (.bool false) rfl (by kernel_rfl) (by kernel_rfl) (by kernel_rfl) (by kernel_rfl) (by kernel_rfl) (fun _ _ _ h => h) HS0.out ?_ ?_
            · intro o ho
              simp only [List.getElem?_toArray, List.getElem?_cons_succ, List.getElem?_cons_zero, Option.some.injEq] at ho
              subst ho
              refine ⟨rfl, rfl, fun w' hSw => ?_⟩
              have hs := HSI.out w' hSw
              go_split_ands
              go_simp
              try (first | omega | go_num | (intro hbd; exfalso; omega))
            simp only [Act.put, List.setIfInBounds_toArray, List.set_cons_zero, List.set_cons_succ]
            refine AnyT.loadD 10 50 ?_ rfl (by kernel_rfl) (by kernel_rfl) (by kernel_rfl) (by kernel_rfl) (by kernel_rfl) (fun _ _ _ h => h) HS0.out ?_ ?_
            rotate_left
            · intro o ho
              simp only [List.getElem?_toArray, List.getElem?_cons_succ, List.getElem?_cons_zero, Option.some.injEq] at ho
              subst ho
              refine ⟨rfl, rfl, fun w' hSw => ?_⟩
              have hs := HSI.out w' hSw
              go_split_ands
              go_simp
              try (first | exact rfl | omega | go_num | (intro hbd; exfalso; omega))
            simp only [Act.put, List.setIfInBounds_toArray, List.set_cons_zero, List.set_cons_succ]
            refine AnyT.loadD 11 51 ?_ rfl (by kernel_rfl) (by kernel_rfl) (by kernel_rfl) (by kernel_rfl) (by kernel_rfl) (fun _ _ _ h => h) HS0.out ?_ ?_
            rotate_left
            · intro o ho
              simp only [List.getElem?_toArray, List.getElem?_cons_succ, List.getElem?_cons_zero, Option.some.injEq] at ho
              subst ho
              refine ⟨rfl, rfl, fun w' hSw => ?_⟩
              have hs := HSI.out w' hSw
              go_split_ands
              go_simp
              try (first | exact rfl | omega | go_num | (intro hbd; exfalso; omega))
            simp only [Act.put, List.setIfInBounds_toArray, List.set_cons_zero, List.set_cons_succ]
            refine AnyT.loadD 12 52 ?_ rfl (by kernel_rfl) (by kernel_rfl) (by kernel_rfl) (by kernel_rfl) (by kernel_rfl) (fun _ _ _ h => h) HS0.out ?_ ?_
            rotate_left
            · intro o ho
              simp only [List.getElem?_toArray, List.getElem?_cons_succ, List.getElem?_cons_zero, Option.some.injEq] at ho
              subst ho
              refine ⟨rfl, rfl, fun w' hSw => ?_⟩
              have hs := HSI.out w' hSw
              go_split_ands
              go_simp
              try (first | exact rfl | omega | go_num | (intro hbd; exfalso; omega))
            simp only [Act.put, List.setIfInBounds_toArray, List.set_cons_zero, List.set_cons_succ]
            refine AnyT.loadD 13 53 ?_ rfl (by kernel_rfl) (by kernel_rfl) (by kernel_rfl) (by kernel_rfl) (by kernel_rfl) (fun _ _ _ h => h) HS0.out ?_ ?_
            rotate_left
            · intro o ho
              simp only [List.getElem?_toArray, List.getElem?_cons_succ, List.getElem?_cons_zero, Option.some.injEq] at ho
              subst ho
              refine ⟨rfl, rfl, fun w' hSw => ?_⟩
              have hs := HSI.out w' hSw
              go_split_ands
              go_simp
              try (first | exact rfl | omega | go_num | (intro hbd; exfalso; omega))
            simp only [Act.put, List.setIfInBounds_toArray, List.set_cons_zero, List.set_cons_succ]
            refine AnyT.loadD 14 54 ?_ rfl (by kernel_rfl) (by kernel_rfl) (by kernel_rfl) (by kernel_rfl) (by kernel_rfl) (fun _ _ _ h => h) HS0.out ?_ ?_
            rotate_left
            · intro o ho
              simp only [List.getElem?_toArray, List.getElem?_cons_succ, List.getElem?_cons_zero, Option.some.injEq] at ho
              subst ho
              refine ⟨rfl, rfl, fun w' hSw => ?_⟩
              have hs := HSI.out w' hSw
              go_split_ands
              go_simp
              try (first | exact rfl | omega | go_num | (intro hbd; exfalso; omega))
            simp only [Act.put, List.setIfInBounds_toArray, List.set_cons_zero, List.set_cons_succ]
            refine AnyT.loadD 15 55 ?_ rfl (by kernel_rfl) (by kernel_rfl) (by kernel_rfl) (by kernel_rfl) (by kernel_rfl) (fun _ _ _ h => h) HS0.out ?_ ?_
            rotate_left
            · intro o ho
              simp only [List.getElem?_toArray, List.getElem?_cons_succ, List.getElem?_cons_zero, Option.some.injEq] at ho
              subst ho
              refine ⟨rfl, rfl, fun w' hSw => ?_⟩
              have hs := HSI.out w' hSw
              go_split_ands
              go_simp
              try (first | exact rfl | omega | go_num | (intro hbd; exfalso; omega))
            simp only [Act.put, List.setIfInBounds_toArray, List.set_cons_zero, List.set_cons_succ]
            refine AnyT.loadD 16 56 ?_ rfl (by kernel_rfl) (by kernel_rfl) (by kernel_rfl) (by kernel_rfl) (by kernel_rfl) (fun _ _ _ h => h) HS0.out ?_ ?_
            rotate_left
            · intro o ho
              simp only [List.getElem?_toArray, List.getElem?_cons_succ, List.getElem?_cons_zero, Option.some.injEq] at ho
              subst ho
              refine ⟨rfl, rfl, fun w' hSw => ?_⟩
              have hs := HSI.out w' hSw
              go_split_ands
              go_simp
              try (first | exact rfl | omega | go_num | (intro hbd; exfalso; omega))
            simp only [Act.put, List.setIfInBounds_toArray, List.set_cons_zero, List.set_cons_succ]
            refine AnyT.loadD 17 57 ?_ rfl (by kernel_rfl) (by kernel_rfl) (by kernel_rfl) (by kernel_rfl) (by kernel_rfl) (fun _ _ _ h => h) HS0.out ?_ ?_
            rotate_left
            · intro o ho
              simp only [List.getElem?_toArray, List.getElem?_cons_succ, List.getElem?_cons_zero, Option.some.injEq] at ho
              subst ho
              refine ⟨rfl, rfl, fun w' hSw => ?_⟩
              have hs := HSI.out w' hSw
              go_split_ands
              go_simp
              try (first | exact rfl | omega | go_num | (intro hbd; exfalso; omega))
            simp only [Act.put, List.setIfInBounds_toArray, List.set_cons_zero, List.set_cons_succ]
            refine AnyT.loadD 18 58 (.int .i64 z) rfl (by kernel_rfl) (by kernel_rfl) (by kernel_rfl) (by kernel_rfl) (by kernel_rfl) (fun _ _ _ h => h) HS0.out ?_ ?_
            · intro o ho
              simp only [List.getElem?_toArray, List.getElem?_cons_succ, List.getElem?_cons_zero, Option.some.injEq] at ho
              subst ho
              refine ⟨rfl, rfl, fun w' hSw => ?_⟩
              have hs := HSI.out w' hSw
              go_split_ands
              go_simp
              try (first | omega | go_num | (intro hbd; exfalso; omega))
            simp only [Act.put, List.setIfInBounds_toArray, List.set_cons_zero, List.set_cons_succ]
            refine AnyT.loadD 19 59 ?_ rfl (by kernel_rfl) (by kernel_rfl) (by kernel_rfl) (by kernel_rfl) (by kernel_rfl) (fun _ _ _ h => h) HS0.out ?_ ?_
            rotate_left
            · intro o ho
              simp only [List.getElem?_toArray, List.getElem?_cons_succ, List.getElem?_cons_zero, Option.some.injEq] at ho
              subst ho
              refine ⟨rfl, rfl, fun w' hSw => ?_⟩
              have hs := HSI.out w' hSw
              go_split_ands
              go_simp
              try (first | exact rfl | omega | go_num | (intro hbd; exfalso; omega))
            simp only [Act.put, List.setIfInBounds_toArray, List.set_cons_zero, List.set_cons_succ]
            refine AnyT.loadD 20 60 ?_ rfl (by kernel_rfl) (by kernel_rfl) (by kernel_rfl) (by kernel_rfl) (by kernel_rfl) (fun _ _ _ h => h) HS0.out ?_ ?_
            rotate_left
            · intro o ho
              simp only [List.getElem?_toArray, List.getElem?_cons_succ, List.getElem?_cons_zero, Option.some.injEq] at ho
              subst ho
              refine ⟨rfl, rfl, fun w' hSw => ?_⟩
              have hs := HSI.out w' hSw
              go_split_ands
              go_simp
              try (first | exact rfl | omega | go_num | (intro hbd; exfalso; omega))
            simp only [Act.put, List.setIfInBounds_toArray, List.set_cons_zero, List.set_cons_succ]
            refine AnyT.loadD 21 61 ?_ rfl (by kernel_rfl) (by kernel_rfl) (by kernel_rfl) (by kernel_rfl) (by kernel_rfl) (fun _ _ _ h => h) HS0.out ?_ ?_
            rotate_left
            · intro o ho
              simp only [List.getElem?_toArray, List.getElem?_cons_succ, List.getElem?_cons_zero, Option.some.injEq] at ho
              subst ho
              refine ⟨rfl, rfl, fun w' hSw => ?_⟩
              have hs := HSI.out w' hSw
              go_split_ands
              go_simp
              try (first | exact rfl | omega | go_num | (intro hbd; exfalso; omega))
            simp only [Act.put, List.setIfInBounds_toArray, List.set_cons_zero, List.set_cons_succ]
            refine AnyT.step 22 (by kernel_rfl) ?_
            intro o ho K hK
            simp only [List.getElem?_toArray, List.getElem?_cons_succ, List.getElem?_cons_zero, Option.some.injEq] at ho
            subst ho
            go_simp
            refine (C2.out _).mono ?_
            rintro e wx ⟨s2, hss2, rfl, hxx⟩
            have hyy := HS0.out.trans hxx
            refine hK.out _ _ (fun _ => hyy) ?_
            clear HS0
            have HS0 := Lib.hid hyy
            clear hxx hyy
            refine AnyT.loadD 23 63 (.bool false) rfl (by kernel_rfl) (by kernel_rfl) (by kernel_rfl) (by kernel_rfl) (by kernel_rfl) (fun _ _ _ h => h) HS0.out ?_ ?_
            · intro o ho
              simp only [List.getElem?_toArray, List.getElem?_cons_succ, List.getElem?_cons_zero, Option.some.injEq] at ho
              subst ho
              refine ⟨rfl, rfl, fun w' hSw => ?_⟩
              have hs := HSI.out w' hSw
              go_split_ands
              go_simp
              try (first | omega | go_num | (intro hbd; exfalso; omega))
            simp only [Act.put, List.setIfInBounds_toArray, List.set_cons_zero, List.set_cons_succ]
            refine AnyT.loadD 24 64 ?_ rfl (by kernel_rfl) (by kernel_rfl) (by kernel_rfl) (by kernel_rfl) (by kernel_rfl) (fun _ _ _ h => h) HS0.out ?_ ?_
            rotate_left
            · intro o ho
              simp only [List.getElem?_toArray, List.getElem?_cons_succ, List.getElem?_cons_zero, Option.some.injEq] at ho
              subst ho
              refine ⟨rfl, rfl, fun w' hSw => ?_⟩
              have hs := HSI.out w' hSw
              go_split_ands
              go_simp
              try (first | exact rfl | omega | go_num | (intro hbd; exfalso; omega))
            simp only [Act.put, List.setIfInBounds_toArray, List.set_cons_zero, List.set_cons_succ]
            refine AnyT.loadD 25 65 ?_ rfl (by kernel_rfl) (by kernel_rfl) (by kernel_rfl) (by kernel_rfl) (by kernel_rfl) (fun _ _ _ h => h) HS0.out ?_ ?_
            rotate_left
            · intro o ho
              simp only [List.getElem?_toArray, List.getElem?_cons_succ, List.getElem?_cons_zero, Option.some.injEq] at ho
              subst ho
              refine ⟨rfl, rfl, fun w' hSw => ?_⟩
              have hs := HSI.out w' hSw
              go_split_ands
              go_simp
              try (first | exact rfl | omega | go_num | (intro hbd; exfalso; omega))
            simp only [Act.put, List.setIfInBounds_toArray, List.set_cons_zero, List.set_cons_succ]
            refine AnyT.loadD 26 66 ?_ rfl (by kernel_rfl) (by kernel_rfl) (by kernel_rfl) (by kernel_rfl) (by kernel_rfl) (fun _ _ _ h => h) HS0.out ?_ ?_
            rotate_left
            · intro o ho
              simp only [List.getElem?_toArray, List.getElem?_cons_succ, List.getElem?_cons_zero, Option.some.injEq] at ho
              subst ho
              refine ⟨rfl, rfl, fun w' hSw => ?_⟩
              have hs := HSI.out w' hSw
              go_split_ands
              go_simp
              try (first | exact rfl | omega | go_num | (intro hbd; exfalso; omega))
            simp only [Act.put, List.setIfInBounds_toArray, List.set_cons_zero, List.set_cons_succ]
            refine AnyT.loadD 27 67 (.bool true) rfl (by kernel_rfl) (by kernel_rfl) (by kernel_rfl) (by kernel_rfl) (by kernel_rfl) (fun _ _ _ h => h) HS0.out ?_ ?_
            · intro o ho
              simp only [List.getElem?_toArray, List.getElem?_cons_succ, List.getElem?_cons_zero, Option.some.injEq] at ho
              subst ho
              refine ⟨rfl, rfl, fun w' hSw => ?_⟩
              have hs := HSI.out w' hSw
              go_split_ands
              go_simp
              try (first | omega | go_num | (intro hbd; exfalso; omega))
            simp only [Act.put, List.setIfInBounds_toArray, List.set_cons_zero, List.set_cons_succ]
            refine AnyT.loadD 28 68 ?_ rfl (by kernel_rfl) (by kernel_rfl) (by kernel_rfl) (by kernel_rfl) (by kernel_rfl) (fun _ _ _ h => h) HS0.out ?_ ?_
            rotate_left
            · intro o ho
              simp only [List.getElem?_toArray, List.getElem?_cons_succ, List.getElem?_cons_zero, Option.some.injEq] at ho
              subst ho
              refine ⟨rfl, rfl, fun w' hSw => ?_⟩
              have hs := HSI.out w' hSw
              go_split_ands
              go_simp
              try (first | exact rfl | omega | go_num | (intro hbd; exfalso; omega))
            simp only [Act.put, List.setIfInBounds_toArray, List.set_cons_zero, List.set_cons_succ]
            refine AnyT.loadD 29 69 ?_ rfl (by kernel_rfl) (by kernel_rfl) (by kernel_rfl) (by kernel_rfl) (by kernel_rfl) (fun _ _ _ h => h) HS0.out ?_ ?_
            rotate_left
            · intro o ho
              simp only [List.getElem?_toArray, List.getElem?_cons_succ, List.getElem?_cons_zero, Option.some.injEq] at ho
              subst ho
              refine ⟨rfl, rfl, fun w' hSw => ?_⟩
              have hs := HSI.out w' hSw
              go_split_ands
              go_simp
              try (first | exact rfl | omega | go_num | (intro hbd; exfalso; omega))
            simp only [Act.put, List.setIfInBounds_toArray, List.set_cons_zero, List.set_cons_succ]
            refine AnyT.loadD 30 70 ?_ rfl (by kernel_rfl) (by kernel_rfl) (by kernel_rfl) (by kernel_rfl) (by kernel_rfl) (fun _ _ _ h => h) HS0.out ?_ ?_
            rotate_left
            · intro o ho
              simp only [List.getElem?_toArray, List.getElem?_cons_succ, List.getElem?_cons_zero, Option.some.injEq] at ho
              subst ho
              refine ⟨rfl, rfl, fun w' hSw => ?_⟩
              have hs := HSI.out w' hSw
              go_split_ands
              go_simp
              try (first | exact rfl | omega | go_num | (intro hbd; exfalso; omega))
            simp only [Act.put, List.setIfInBounds_toArray, List.set_cons_zero, List.set_cons_succ]
            refine AnyT.loadD 31 71 (.int .i64 j) rfl (by kernel_rfl) (by kernel_rfl) (by kernel_rfl) (by kernel_rfl) (by kernel_rfl) (fun _ _ _ h => h) HS0.out ?_ ?_
            · intro o ho
              simp only [List.getElem?_toArray, List.getElem?_cons_succ, List.getElem?_cons_zero, Option.some.injEq] at ho
              subst ho
              refine ⟨rfl, rfl, fun w' hSw => ?_⟩
              have hs := HSI.out w' hSw
              go_split_ands
              go_simp
              try (first | omega | go_num | (intro hbd; exfalso; omega))
            simp only [Act.put, List.setIfInBounds_toArray, List.set_cons_zero, List.set_cons_succ]
            refine AnyT.loadD 32 72 ?_ rfl (by kernel_rfl) (by kernel_rfl) (by kernel_rfl) (by kernel_rfl) (by kernel_rfl) (fun _ _ _ h => h) HS0.out ?_ ?_
            rotate_left
            · intro o ho
              simp only [List.getElem?_toArray, List.getElem?_cons_succ, List.getElem?_cons_zero, Option.some.injEq] at ho
              subst ho
              refine ⟨rfl, rfl, fun w' hSw => ?_⟩
              have hs := HSI.out w' hSw
              go_split_ands
              go_simp
              try (first | exact rfl | omega | go_num | (intro hbd; exfalso; omega))
            simp only [Act.put, List.setIfInBounds_toArray, List.set_cons_zero, List.set_cons_succ]
            refine AnyT.loadD 33 73 ?_ rfl (by kernel_rfl) (by kernel_rfl) (by kernel_rfl) (by kernel_rfl) (by kernel_rfl) (fun _ _ _ h => h) HS0.out ?_ ?_
            rotate_left
            · intro o ho
              simp only [List.getElem?_toArray, List.getElem?_cons_succ, List.getElem?_cons_zero, Option.some.injEq] at ho
              subst ho
              refine ⟨rfl, rfl, fun w' hSw => ?_⟩
              have hs := HSI.out w' hSw
              go_split_ands
              go_simp
              try (first | exact rfl | omega | go_num | (intro hbd; exfalso; omega))
            simp only [Act.put, List.setIfInBounds_toArray, List.set_cons_zero, List.set_cons_succ]
            refine AnyT.loadD 34 74 ?_ rfl (by kernel_rfl) (by kernel_rfl) (by kernel_rfl) (by kernel_rfl) (by kernel_rfl) (fun _ _ _ h => h) HS0.out ?_ ?_
            rotate_left
            · intro o ho
              simp only [List.getElem?_toArray, List.getElem?_cons_succ, List.getElem?_cons_zero, Option.some.injEq] at ho
              subst ho
              refine ⟨rfl, rfl, fun w' hSw => ?_⟩
              have hs := HSI.out w' hSw
              go_split_ands
              go_simp
              try (first | exact rfl | omega | go_num | (intro hbd; exfalso; omega))
            simp only [Act.put, List.setIfInBounds_toArray, List.set_cons_zero, List.set_cons_succ]
            refine AnyT.loadD 35 75 ?_ rfl (by kernel_rfl) (by kernel_rfl) (by kernel_rfl) (by kernel_rfl) (by kernel_rfl) (fun _ _ _ h => h) HS0.out ?_ ?_
            rotate_left
            · intro o ho
              simp only [List.getElem?_toArray, List.getElem?_cons_succ, List.getElem?_cons_zero, Option.some.injEq] at ho
              subst ho
              refine ⟨rfl, rfl, fun w' hSw => ?_⟩
              have hs := HSI.out w' hSw
              go_split_ands
              go_simp
              try (first | exact rfl | omega | go_num | (intro hbd; exfalso; omega))
            simp only [Act.put, List.setIfInBounds_toArray, List.set_cons_zero, List.set_cons_succ]
            refine AnyT.loadD 36 76 ?_ rfl (by kernel_rfl) (by kernel_rfl) (by kernel_rfl) (by kernel_rfl) (by kernel_rfl) (fun _ _ _ h => h) HS0.out ?_ ?_
            rotate_left
            · intro o ho
              simp only [List.getElem?_toArray, List.getElem?_cons_succ, List.getElem?_cons_zero, Option.some.injEq] at ho
              subst ho
              refine ⟨rfl, rfl, fun w' hSw => ?_⟩
              have hs := HSI.out w' hSw
              go_split_ands
              go_simp
              try (first | exact rfl | omega | go_num | (intro hbd; exfalso; omega))
            simp only [Act.put, List.setIfInBounds_toArray, List.set_cons_zero, List.set_cons_succ]
            refine AnyT.loadD 37 77 ?_ rfl (by kernel_rfl) (by kernel_rfl) (by kernel_rfl) (by kernel_rfl) (by kernel_rfl) (fun _ _ _ h => h) HS0.out ?_ ?_
            rotate_left
            · intro o ho
              simp only [List.getElem?_toArray, List.getElem?_cons_succ, List.getElem?_cons_zero, Option.some.injEq] at ho
              subst ho
              refine ⟨rfl, rfl, fun w' hSw => ?_⟩
              have hs := HSI.out w' hSw
              go_split_ands
              go_simp
              try (first | exact rfl | omega | go_num | (intro hbd; exfalso; omega))
            simp only [Act.put, List.setIfInBounds_toArray, List.set_cons_zero, List.set_cons_succ]
            refine AnyT.step 38 (by kernel_rfl) ?_
            intro o ho K hK
            simp only [List.getElem?_toArray, List.getElem?_cons_succ, List.getElem?_cons_zero, Option.some.injEq] at ho
            subst ho
            go_simp
            refine (C3.out _).mono ?_
            rintro e wx ⟨s3, hss3, rfl, hxx⟩
            have hyy := HS0.out.trans hxx
            refine hK.out _ _ (fun _ => hyy) ?_
            clear HS0
            have HS0 := Lib.hid hyy
            clear hxx hyy
            refine AnyT.loadD 39 79 (.bool false) rfl (by kernel_rfl) (by kernel_rfl) (by kernel_rfl) (by kernel_rfl) (by kernel_rfl) (fun _ _ _ h => h) HS0.out ?_ ?_
            · intro o ho
              simp only [List.getElem?_toArray, List.getElem?_cons_succ, List.getElem?_cons_zero, Option.some.injEq] at ho
              subst ho
              refine ⟨rfl, rfl, fun w' hSw => ?_⟩
              have hs := HSI.out w' hSw
              go_split_ands
              go_simp
              try (first | omega | go_num | (intro hbd; exfalso; omega))
            simp only [Act.put, List.setIfInBounds_toArray, List.set_cons_zero, List.set_cons_succ]
            refine AnyT.loadD 40 80 ?_ rfl (by kernel_rfl) (by kernel_rfl) (by kernel_rfl) (by kernel_rfl) (by kernel_rfl) (fun _ _ _ h => h) HS0.out ?_ ?_
            rotate_left
            · intro o ho
              simp only [List.getElem?_toArray, List.getElem?_cons_succ, List.getElem?_cons_zero, Option.some.injEq] at ho
              subst ho
              refine ⟨rfl, rfl, fun w' hSw => ?_⟩
              have hs := HSI.out w' hSw
              go_split_ands
              go_simp
              try (first | exact rfl | omega | go_num | (intro hbd; exfalso; omega))
            simp only [Act.put, List.setIfInBounds_toArray, List.set_cons_zero, List.set_cons_succ]
            refine AnyT.loadD 41 81 ?_ rfl (by kernel_rfl) (by kernel_rfl) (by kernel_rfl) (by kernel_rfl) (by kernel_rfl) (fun _ _ _ h => h) HS0.out ?_ ?_
            rotate_left
            · intro o ho
              simp only [List.getElem?_toArray, List.getElem?_cons_succ, List.getElem?_cons_zero, Option.some.injEq] at ho
              subst ho
              refine ⟨rfl, rfl, fun w' hSw => ?_⟩
              have hs := HSI.out w' hSw
              go_split_ands
              go_simp
              try (first | exact rfl | omega | go_num | (intro hbd; exfalso; omega))
            simp only [Act.put, List.setIfInBounds_toArray, List.set_cons_zero, List.set_cons_succ]
            refine AnyT.done (by kernel_rfl) ?_
            have HXn := Lib.hid (HXr.out.trans HS0.out)
            clear HSI HS0 HCI HCJ C1 C2 C3
            go_wp2_with fail
            go_roundw
            case rel => exact ⟨j + 1 + 1, by omega, by go_num, HXn⟩
            case measure => simp [RowKit.intOf]; omega
          · obtain rfl : i = 0 := by omega
            clear hmi hi0
            generalize L[0] = ci at *
            clear hiL
            go_upto_region 11 with fail
            generalize ratText ci = ti at *
            generalize ratText v0 = t0 at *
            generalize ratText vL = tL at *
            have HSI : Hid (∀ w', Ext wr w' → w'.cell? ⟨g, o, none⟩ = some (.string ⟨t0.toArray⟩) ∧ w'.cell? ⟨g, o + z * 2, none⟩ = some (.string ⟨tL.toArray⟩) ∧ w'.cell? ⟨g5, o5, none⟩ = some (.string ⟨ti.toArray⟩)) := fun w' hx => ⟨(HMC.out w' (HX34.out.trans (HXr.out.trans hx))).1, (HMC.out w' (HX34.out.trans (HXr.out.trans hx))).2, HCI.out w' hx⟩
            have HS0 : Hid (Ext wr wr.drew) := (Ext.refl wr).drew
            refine AnyT.start (S := fun w' => Ext wr w') (T := fun _ => false) (by kernel_rfl) ?_
            refine AnyT.loadD 0 40 ?_ rfl (by kernel_rfl) (by kernel_rfl) (by kernel_rfl) (by kernel_rfl) (by kernel_rfl) (fun _ _ _ h => h) HS0.out ?_ ?_
            rotate_left
            · intro o ho
              simp only [List.getElem?_toArray, List.getElem?_cons_zero, Option.some.injEq] at ho
              subst ho
              refine ⟨rfl, rfl, fun w' hSw => ?_⟩
              have hs := HSI.out w' hSw
              go_split_ands
              go_simp
              try (first | exact rfl | omega | go_num | (intro hbd; exfalso; omega))
            simp only [Act.put, List.setIfInBounds_toArray, List.set_cons_zero, List.set_cons_succ]
            refine AnyT.loadD 1 41 ?_ rfl (by kernel_rfl) (by kernel_rfl) (by kernel_rfl) (by kernel_rfl) (by kernel_rfl) (fun _ _ _ h => h) HS0.out ?_ ?_
            rotate_left
            · intro o ho
              simp only [List.getElem?_toArray, List.getElem?_cons_succ, List.getElem?_cons_zero, Option.some.injEq] at ho
              subst ho
              refine ⟨rfl, rfl, fun w' hSw => ?_⟩
              have hs := HSI.out w' hSw
              go_split_ands
              go_simp
              try (first | exact rfl | omega | go_num | (intro hbd; exfalso; omega))
            simp only [Act.put, List.setIfInBounds_toArray, List.set_cons_zero, List.set_cons_succ]
            refine AnyT.loadD 2 42 ?_ rfl (by kernel_rfl) (by kernel_rfl) (by kernel_rfl) (by kernel_rfl) (by kernel_rfl) (fun _ _ _ h => h) HS0.out ?_ ?_
            rotate_left
            · intro o ho
              simp only [List.getElem?_toArray, List.getElem?_cons_succ, List.getElem?_cons_zero, Option.some.injEq] at ho
              subst ho
              refine ⟨rfl, rfl, fun w' hSw => ?_⟩
              have hs := HSI.out w' hSw
              go_split_ands
              go_simp
              try (first | exact rfl | omega | go_num | (intro hbd; exfalso; omega))
            simp only [Act.put, List.setIfInBounds_toArray, List.set_cons_zero, List.set_cons_succ]
            refine AnyT.loadD 3 43 ?_ rfl (by kernel_rfl) (by kernel_rfl) (by kernel_rfl) (by kernel_rfl) (by kernel_rfl) (fun _ _ _ h => h) HS0.out ?_ ?_
            rotate_left
            · intro o ho
              simp only [List.getElem?_toArray, List.getElem?_cons_succ, List.getElem?_cons_zero, Option.some.injEq] at ho
              subst ho
              refine ⟨rfl, rfl, fun w' hSw => ?_⟩
              have hs := HSI.out w' hSw
              go_split_ands
              go_simp
              try (first | exact rfl | omega | go_num | (intro hbd; exfalso; omega))
            simp only [Act.put, List.setIfInBounds_toArray, List.set_cons_zero, List.set_cons_succ]
            refine AnyT.loadD 4 44 ?_ rfl (by kernel_rfl) (by kernel_rfl) (by kernel_rfl) (by kernel_rfl) (by kernel_rfl) (fun _ _ _ h => h) HS0.out ?_ ?_
            rotate_left
            · intro o ho
              simp only [List.getElem?_toArray, List.getElem?_cons_succ, List.getElem?_cons_zero, Option.some.injEq] at ho
              subst ho
              refine ⟨rfl, rfl, fun w' hSw => ?_⟩
              have hs := HSI.out w' hSw
              go_split_ands
              go_simp
              try (first | exact rfl | omega | go_num | (intro hbd; exfalso; omega))
            simp only [Act.put, List.setIfInBounds_toArray, List.set_cons_zero, List.set_cons_succ]
            refine AnyT.loadD 5 45 ?_ rfl (by kernel_rfl) (by kernel_rfl) (by kernel_rfl) (by kernel_rfl) (by kernel_rfl) (fun _ _ _ h => h) HS0.out ?_ ?_
            rotate_left
            · intro o ho
              simp only [List.getElem?_toArray, List.getElem?_cons_succ, List.getElem?_cons_zero, Option.some.injEq] at ho
              subst ho
              refine ⟨rfl, rfl, fun w' hSw => ?_⟩
              have hs := HSI.out w' hSw
              go_split_ands
              go_simp
              try (first | exact rfl | omega | go_num | (intro hbd; exfalso; omega))
            simp only [Act.put, List.setIfInBounds_toArray, List.set_cons_zero, List.set_cons_succ]
            refine AnyT.loadD 6 46 ?_ rfl (by kernel_rfl) (by kernel_rfl) (by kernel_rfl) (by kernel_rfl) (by kernel_rfl) (fun _ _ _ h => h) HS0.out ?_ ?_
            rotate_left
            · intro o ho
              simp only [List.getElem?_toArray, List.getElem?_cons_succ, List.getElem?_cons_zero, Option.some.injEq] at ho
              subst ho
              refine ⟨rfl, rfl, fun w' hSw => ?_⟩
              have hs := HSI.out w' hSw
              go_split_ands
              go_simp
              try (first | exact rfl | omega | go_num | (intro hbd; exfalso; omega))
            simp only [Act.put, List.setIfInBounds_toArray, List.set_cons_zero, List.set_cons_succ]
            refine AnyT.loadD 7 47 ?_ rfl (by kernel_rfl) (by kernel_rfl) (by kernel_rfl) (by kernel_rfl) (by kernel_rfl) (fun _ _ _ h => h) HS0.out ?_ ?_
            rotate_left
            · intro o ho
              simp only [List.getElem?_toArray, List.getElem?_cons_succ, List.getElem?_cons_zero, Option.some.injEq] at ho
              subst ho
              refine ⟨rfl, rfl, fun w' hSw => ?_⟩
              have hs := HSI.out w' hSw
              go_split_ands
              go_simp
              try (first | exact rfl | omega | go_num | (intro hbd; exfalso; omega))
            simp only [Act.put, List.setIfInBounds_toArray, List.set_cons_zero, List.set_cons_succ]
            refine AnyT.step 8 (by kernel_rfl) ?_
            intro o ho K hK
            simp only [List.getElem?_toArray, List.getElem?_cons_succ, List.getElem?_cons_zero, Option.some.injEq] at ho
            subst ho
            go_simp
            refine (C1.out _).mono ?_
            rintro e wx ⟨s1, hss1, rfl, hxx⟩
            have hyy := HS0.out.trans hxx
            refine hK.out _ _ (fun _ => hyy) ?_
            clear HS0
            have HS0 := Lib.hid hyy
            clear hxx hyy
            refine AnyT.loadD 9 49 (.bool false) rfl (by kernel_rfl) (by kernel_rfl) (by kernel_rfl) (by kernel_rfl) (by kernel_rfl) (fun _ _ _ h => h) HS0.out ?_ ?_
            · intro o ho
              simp only [List.getElem?_toArray, List.getElem?_cons_succ, List.getElem?_cons_zero, Option.some.injEq] at ho
              subst ho
              refine ⟨rfl, rfl, fun w' hSw => ?_⟩
              have hs := HSI.out w' hSw
              go_split_ands
              go_simp
              try (first | omega | go_num | (intro hbd; exfalso; omega))
            simp only [Act.put, List.setIfInBounds_toArray, List.set_cons_zero, List.set_cons_succ]
            refine AnyT.loadD 10 50 ?_ rfl (by kernel_rfl) (by kernel_rfl) (by kernel_rfl) (by kernel_rfl) (by kernel_rfl) (fun _ _ _ h => h) HS0.out ?_ ?_
            rotate_left
            · intro o ho
              simp only [List.getElem?_toArray, List.getElem?_cons_succ, List.getElem?_cons_zero, Option.some.injEq] at ho
              subst ho
              refine ⟨rfl, rfl, fun w' hSw => ?_⟩
              have hs := HSI.out w' hSw
              go_split_ands
              go_simp
              try (first | exact rfl | omega | go_num | (intro hbd; exfalso; omega))
            simp only [Act.put, List.setIfInBounds_toArray, List.set_cons_zero, List.set_cons_succ]
            refine AnyT.loadD 11 51 ?_ rfl (by kernel_rfl) (by kernel_rfl) (by kernel_rfl) (by kernel_rfl) (by kernel_rfl) (fun _ _ _ h => h) HS0.out ?_ ?_
            rotate_left
            · intro o ho
              simp only [List.getElem?_toArray, List.getElem?_cons_succ, List.getElem?_cons_zero, Option.some.injEq] at ho
              subst ho
              refine ⟨rfl, rfl, fun w' hSw => ?_⟩
              have hs := HSI.out w' hSw
              go_split_ands
              go_simp
              try (first | exact rfl | omega | go_num | (intro hbd; exfalso; omega))
            simp only [Act.put, List.setIfInBounds_toArray, List.set_cons_zero, List.set_cons_succ]
            refine AnyT.loadD 12 52 ?_ rfl (by kernel_rfl) (by kernel_rfl) (by kernel_rfl) (by kernel_rfl) (by kernel_rfl) (fun _ _ _ h => h) HS0.out ?_ ?_
            rotate_left
            · intro o ho
              simp only [List.getElem?_toArray, List.getElem?_cons_succ, List.getElem?_cons_zero, Option.some.injEq] at ho
              subst ho
              refine ⟨rfl, rfl, fun w' hSw => ?_⟩
              have hs := HSI.out w' hSw
              go_split_ands
              go_simp
              try (first | exact rfl | omega | go_num | (intro hbd; exfalso; omega))
            simp only [Act.put, List.setIfInBounds_toArray, List.set_cons_zero, List.set_cons_succ]
            refine AnyT.loadD 13 53 ?_ rfl (by kernel_rfl) (by kernel_rfl) (by kernel_rfl) (by kernel_rfl) (by kernel_rfl) (fun _ _ _ h => h) HS0.out ?_ ?_
            rotate_left
            · intro o ho
              simp only [List.getElem?_toArray, List.getElem?_cons_succ, List.getElem?_cons_zero, Option.some.injEq] at ho
              subst ho
              refine ⟨rfl, rfl, fun w' hSw => ?_⟩
              have hs := HSI.out w' hSw
              go_split_ands
              go_simp
              try (first | exact rfl | omega | go_num | (intro hbd; exfalso; omega))
            simp only [Act.put, List.setIfInBounds_toArray, List.set_cons_zero, List.set_cons_succ]
            refine AnyT.loadD 14 54 ?_ rfl (by kernel_rfl) (by kernel_rfl) (by kernel_rfl) (by kernel_rfl) (by kernel_rfl) (fun _ _ _ h => h) HS0.out ?_ ?_
            rotate_left
            · intro o ho
              simp only [List.getElem?_toArray, List.getElem?_cons_succ, List.getElem?_cons_zero, Option.some.injEq] at ho
              subst ho
              refine ⟨rfl, rfl, fun w' hSw => ?_⟩
              have hs := HSI.out w' hSw
              go_split_ands
              go_simp
              try (first | exact rfl | omega | go_num | (intro hbd; exfalso; omega))
            simp only [Act.put, List.setIfInBounds_toArray, List.set_cons_zero, List.set_cons_succ]
            refine AnyT.loadD 15 55 ?_ rfl (by kernel_rfl) (by kernel_rfl) (by kernel_rfl) (by kernel_rfl) (by kernel_rfl) (fun _ _ _ h => h) HS0.out ?_ ?_
            rotate_left
            · intro o ho
              simp only [List.getElem?_toArray, List.getElem?_cons_succ, List.getElem?_cons_zero, Option.some.injEq] at ho
              subst ho
              refine ⟨rfl, rfl, fun w' hSw => ?_⟩
              have hs := HSI.out w' hSw
              go_split_ands
              go_simp
              try (first | exact rfl | omega | go_num | (intro hbd; exfalso; omega))
            simp only [Act.put, List.setIfInBounds_toArray, List.set_cons_zero, List.set_cons_succ]
            refine AnyT.loadD 16 56 ?_ rfl (by kernel_rfl) (by kernel_rfl) (by kernel_rfl) (by kernel_rfl) (by kernel_rfl) (fun _ _ _ h => h) HS0.out ?_ ?_
            rotate_left
            · intro o ho
              simp only [List.getElem?_toArray, List.getElem?_cons_succ, List.getElem?_cons_zero, Option.some.injEq] at ho
              subst ho
              refine ⟨rfl, rfl, fun w' hSw => ?_⟩
              have hs := HSI.out w' hSw
              go_split_ands
              go_simp
              try (first | exact rfl | omega | go_num | (intro hbd; exfalso; omega))
            simp only [Act.put, List.setIfInBounds_toArray, List.set_cons_zero, List.set_cons_succ]
            refine AnyT.loadD 17 57 ?_ rfl (by kernel_rfl) (by kernel_rfl) (by kernel_rfl) (by kernel_rfl) (by kernel_rfl) (fun _ _ _ h => h) HS0.out ?_ ?_
            rotate_left
            · intro o ho
              simp only [List.getElem?_toArray, List.getElem?_cons_succ, List.getElem?_cons_zero, Option.some.injEq] at ho
              subst ho
              refine ⟨rfl, rfl, fun w' hSw => ?_⟩
              have hs := HSI.out w' hSw
              go_split_ands
              go_simp
              try (first | exact rfl | omega | go_num | (intro hbd; exfalso; omega))
            simp only [Act.put, List.setIfInBounds_toArray, List.set_cons_zero, List.set_cons_succ]
            refine AnyT.loadD 18 58 (.int .i64 z) rfl (by kernel_rfl) (by kernel_rfl) (by kernel_rfl) (by kernel_rfl) (by kernel_rfl) (fun _ _ _ h => h) HS0.out ?_ ?_
            · intro o ho
              simp only [List.getElem?_toArray, List.getElem?_cons_succ, List.getElem?_cons_zero, Option.some.injEq] at ho
              subst ho
              refine ⟨rfl, rfl, fun w' hSw => ?_⟩
              have hs := HSI.out w' hSw
              go_split_ands
              go_simp
              try (first | omega | go_num | (intro hbd; exfalso; omega))
            simp only [Act.put, List.setIfInBounds_toArray, List.set_cons_zero, List.set_cons_succ]
            refine AnyT.loadD 19 59 ?_ rfl (by kernel_rfl) (by kernel_rfl) (by kernel_rfl) (by kernel_rfl) (by kernel_rfl) (fun _ _ _ h => h) HS0.out ?_ ?_
            rotate_left
            · intro o ho
              simp only [List.getElem?_toArray, List.getElem?_cons_succ, List.getElem?_cons_zero, Option.some.injEq] at ho
              subst ho
              refine ⟨rfl, rfl, fun w' hSw => ?_⟩
              have hs := HSI.out w' hSw
              go_split_ands
              go_simp
              try (first | exact rfl | omega | go_num | (intro hbd; exfalso; omega))
            simp only [Act.put, List.setIfInBounds_toArray, List.set_cons_zero, List.set_cons_succ]
            refine AnyT.loadD 20 60 ?_ rfl (by kernel_rfl) (by kernel_rfl) (by kernel_rfl) (by kernel_rfl) (by kernel_rfl) (fun _ _ _ h => h) HS0.out ?_ ?_
            rotate_left
            · intro o ho
              simp only [List.getElem?_toArray, List.getElem?_cons_succ, List.getElem?_cons_zero, Option.some.injEq] at ho
              subst ho
              refine ⟨rfl, rfl, fun w' hSw => ?_⟩
              have hs := HSI.out w' hSw
              go_split_ands
              go_simp
              try (first | exact rfl | omega | go_num | (intro hbd; exfalso; omega))
            simp only [Act.put, List.setIfInBounds_toArray, List.set_cons_zero, List.set_cons_succ]
            refine AnyT.loadD 21 61 ?_ rfl (by kernel_rfl) (by kernel_rfl) (by kernel_rfl) (by kernel_rfl) (by kernel_rfl) (fun _ _ _ h => h) HS0.out ?_ ?_
            rotate_left
            · intro o ho
              simp only [List.getElem?_toArray, List.getElem?_cons_succ, List.getElem?_cons_zero, Option.some.injEq] at ho
              subst ho
              refine ⟨rfl, rfl, fun w' hSw => ?_⟩
              have hs := HSI.out w' hSw
              go_split_ands
              go_simp
              try (first | exact rfl | omega | go_num | (intro hbd; exfalso; omega))
            simp only [Act.put, List.setIfInBounds_toArray, List.set_cons_zero, List.set_cons_succ]
            refine AnyT.step 22 (by kernel_rfl) ?_
            intro o ho K hK
            simp only [List.getElem?_toArray, List.getElem?_cons_succ, List.getElem?_cons_zero, Option.some.injEq] at ho
            subst ho
            go_simp
            refine (C2.out _).mono ?_
            rintro e wx ⟨s2, hss2, rfl, hxx⟩
            have hyy := HS0.out.trans hxx
            refine hK.out _ _ (fun _ => hyy) ?_
            clear HS0
            have HS0 := Lib.hid hyy
            clear hxx hyy
            refine AnyT.loadD 23 63 (.bool false) rfl (by kernel_rfl) (by kernel_rfl) (by kernel_rfl) (by kernel_rfl) (by kernel_rfl) (fun _ _ _ h => h) HS0.out ?_ ?_
            · intro o ho
              simp only [List.getElem?_toArray, List.getElem?_cons_succ, List.getElem?_cons_zero, Option.some.injEq] at ho
              subst ho
              refine ⟨rfl, rfl, fun w' hSw => ?_⟩
              have hs := HSI.out w' hSw
              go_split_ands
              go_simp
              try (first | omega | go_num | (intro hbd; exfalso; omega))
            simp only [Act.put, List.setIfInBounds_toArray, List.set_cons_zero, List.set_cons_succ]
            refine AnyT.loadD 24 64 ?_ rfl (by kernel_rfl) (by kernel_rfl) (by kernel_rfl) (by kernel_rfl) (by kernel_rfl) (fun _ _ _ h => h) HS0.out ?_ ?_
            rotate_left
            · intro o ho
              simp only [List.getElem?_toArray, List.getElem?_cons_succ, List.getElem?_cons_zero, Option.some.injEq] at ho
              subst ho
              refine ⟨rfl, rfl, fun w' hSw => ?_⟩
              have hs := HSI.out w' hSw
              go_split_ands
              go_simp
              try (first | exact rfl | omega | go_num | (intro hbd; exfalso; omega))
            simp only [Act.put, List.setIfInBounds_toArray, List.set_cons_zero, List.set_cons_succ]
            refine AnyT.loadD 25 65 ?_ rfl (by kernel_rfl) (by kernel_rfl) (by kernel_rfl) (by kernel_rfl) (by kernel_rfl) (fun _ _ _ h => h) HS0.out ?_ ?_
            rotate_left
            · intro o ho
              simp only [List.getElem?_toArray, List.getElem?_cons_succ, List.getElem?_cons_zero, Option.some.injEq] at ho
              subst ho
              refine ⟨rfl, rfl, fun w' hSw => ?_⟩
              have hs := HSI.out w' hSw
              go_split_ands
              go_simp
              try (first | exact rfl | omega | go_num | (intro hbd; exfalso; omega))
            simp only [Act.put, List.setIfInBounds_toArray, List.set_cons_zero, List.set_cons_succ]
            refine AnyT.loadD 26 66 ?_ rfl (by kernel_rfl) (by kernel_rfl) (by kernel_rfl) (by kernel_rfl) (by kernel_rfl) (fun _ _ _ h => h) HS0.out ?_ ?_
            rotate_left
            · intro o ho
              simp only [List.getElem?_toArray, List.getElem?_cons_succ, List.getElem?_cons_zero, Option.some.injEq] at ho
              subst ho
              refine ⟨rfl, rfl, fun w' hSw => ?_⟩
              have hs := HSI.out w' hSw
              go_split_ands
              go_simp
              try (first | exact rfl | omega | go_num | (intro hbd; exfalso; omega))
            simp only [Act.put, List.setIfInBounds_toArray, List.set_cons_zero, List.set_cons_succ]
            refine AnyT.loadD 27 67 (.bool false) rfl (by kernel_rfl) (by kernel_rfl) (by kernel_rfl) (by kernel_rfl) (by kernel_rfl) (fun _ _ _ h => h) HS0.out ?_ ?_
            · intro o ho
              simp only [List.getElem?_toArray, List.getElem?_cons_succ, List.getElem?_cons_zero, Option.some.injEq] at ho
              subst ho
              refine ⟨rfl, rfl, fun w' hSw => ?_⟩
              have hs := HSI.out w' hSw
              go_split_ands
              go_simp
              try (first | omega | go_num | (intro hbd; exfalso; omega))
            simp only [Act.put, List.setIfInBounds_toArray, List.set_cons_zero, List.set_cons_succ]
            refine AnyT.loadD 28 68 ?_ rfl (by kernel_rfl) (by kernel_rfl) (by kernel_rfl) (by kernel_rfl) (by kernel_rfl) (fun _ _ _ h => h) HS0.out ?_ ?_
            rotate_left
            · intro o ho
              simp only [List.getElem?_toArray, List.getElem?_cons_succ, List.getElem?_cons_zero, Option.some.injEq] at ho
              subst ho
              refine ⟨rfl, rfl, fun w' hSw => ?_⟩
              have hs := HSI.out w' hSw
              go_split_ands
              go_simp
              try (first | exact rfl | omega | go_num | (intro hbd; exfalso; omega))
            simp only [Act.put, List.setIfInBounds_toArray, List.set_cons_zero, List.set_cons_succ]
            refine AnyT.loadU 29 69 rfl (by kernel_rfl) (by kernel_rfl) (by kernel_rfl) (by kernel_rfl) (by kernel_rfl) (fun _ _ _ h => h) HS0.out ?_ ?_
            · intro o ho
              simp only [List.getElem?_toArray, List.getElem?_cons_succ, List.getElem?_cons_zero, Option.some.injEq] at ho
              subst ho
              exact ⟨rfl, rfl⟩
            simp only [Act.put, List.setIfInBounds_toArray, List.set_cons_zero, List.set_cons_succ]
            refine AnyT.loadU 30 70 rfl (by kernel_rfl) (by kernel_rfl) (by kernel_rfl) (by kernel_rfl) (by kernel_rfl) (fun _ _ _ h => h) HS0.out ?_ ?_
            · intro o ho
              simp only [List.getElem?_toArray, List.getElem?_cons_succ, List.getElem?_cons_zero, Option.some.injEq] at ho
              subst ho
              exact ⟨rfl, rfl⟩
            simp only [Act.put, List.setIfInBounds_toArray, List.set_cons_zero, List.set_cons_succ]
            refine AnyT.loadU 31 71 rfl (by kernel_rfl) (by kernel_rfl) (by kernel_rfl) (by kernel_rfl) (by kernel_rfl) (fun _ _ _ h => h) HS0.out ?_ ?_
            · intro o ho
              simp only [List.getElem?_toArray, List.getElem?_cons_succ, List.getElem?_cons_zero, Option.some.injEq] at ho
              subst ho
              exact ⟨rfl, rfl⟩
            simp only [Act.put, List.setIfInBounds_toArray, List.set_cons_zero, List.set_cons_succ]
            refine AnyT.loadU 32 72 rfl (by kernel_rfl) (by kernel_rfl) (by kernel_rfl) (by kernel_rfl) (by kernel_rfl) (fun _ _ _ h => h) HS0.out ?_ ?_
            · intro o ho
              simp only [List.getElem?_toArray, List.getElem?_cons_succ, List.getElem?_cons_zero, Option.some.injEq] at ho
              subst ho
              exact ⟨rfl, rfl⟩
            simp only [Act.put, List.setIfInBounds_toArray, List.set_cons_zero, List.set_cons_succ]
            refine AnyT.loadU 33 73 rfl (by kernel_rfl) (by kernel_rfl) (by kernel_rfl) (by kernel_rfl) (by kernel_rfl) (fun _ _ _ h => h) HS0.out ?_ ?_
            · intro o ho
              simp only [List.getElem?_toArray, List.getElem?_cons_succ, List.getElem?_cons_zero, Option.some.injEq] at ho
              subst ho
              exact ⟨rfl, rfl⟩
            simp only [Act.put, List.setIfInBounds_toArray, List.set_cons_zero, List.set_cons_succ]
            refine AnyT.loadU 34 74 rfl (by kernel_rfl) (by kernel_rfl) (by kernel_rfl) (by kernel_rfl) (by kernel_rfl) (fun _ _ _ h => h) HS0.out ?_ ?_
            · intro o ho
              simp only [List.getElem?_toArray, List.getElem?_cons_succ, List.getElem?_cons_zero, Option.some.injEq] at ho
              subst ho
              exact ⟨rfl, rfl⟩
            simp only [Act.put, List.setIfInBounds_toArray, List.set_cons_zero, List.set_cons_succ]
            refine AnyT.loadU 35 75 rfl (by kernel_rfl) (by kernel_rfl) (by kernel_rfl) (by kernel_rfl) (by kernel_rfl) (fun _ _ _ h => h) HS0.out ?_ ?_
            · intro o ho
              simp only [List.getElem?_toArray, List.getElem?_cons_succ, List.getElem?_cons_zero, Option.some.injEq] at ho
              subst ho
              exact ⟨rfl, rfl⟩
            simp only [Act.put, List.setIfInBounds_toArray, List.set_cons_zero, List.set_cons_succ]
            refine AnyT.loadU 36 76 rfl (by kernel_rfl) (by kernel_rfl) (by kernel_rfl) (by kernel_rfl) (by kernel_rfl) (fun _ _ _ h => h) HS0.out ?_ ?_
            · intro o ho
              simp only [List.getElem?_toArray, List.getElem?_cons_succ, List.getElem?_cons_zero, Option.some.injEq] at ho
              subst ho
              exact ⟨rfl, rfl⟩
            simp only [Act.put, List.setIfInBounds_toArray, List.set_cons_zero, List.set_cons_succ]
            refine AnyT.loadU 37 77 rfl (by kernel_rfl) (by kernel_rfl) (by kernel_rfl) (by kernel_rfl) (by kernel_rfl) (fun _ _ _ h => h) HS0.out ?_ ?_
            · intro o ho
              simp only [List.getElem?_toArray, List.getElem?_cons_succ, List.getElem?_cons_zero, Option.some.injEq] at ho
              subst ho
              exact ⟨rfl, rfl⟩
            simp only [Act.put, List.setIfInBounds_toArray, List.set_cons_zero, List.set_cons_succ]
            refine AnyT.loadU 38 78 rfl (by kernel_rfl) (by kernel_rfl) (by kernel_rfl) (by kernel_rfl) (by kernel_rfl) (fun _ _ _ h => h) HS0.out ?_ ?_
            · intro o ho
              simp only [List.getElem?_toArray, List.getElem?_cons_succ, List.getElem?_cons_zero, Option.some.injEq] at ho
              subst ho
              exact ⟨rfl, rfl⟩
            simp only [Act.put, List.setIfInBounds_toArray, List.set_cons_zero, List.set_cons_succ]
            refine AnyT.loadU 39 79 rfl (by kernel_rfl) (by kernel_rfl) (by kernel_rfl) (by kernel_rfl) (by kernel_rfl) (fun _ _ _ h => h) HS0.out ?_ ?_
            · intro o ho
              simp only [List.getElem?_toArray, List.getElem?_cons_succ, List.getElem?_cons_zero, Option.some.injEq] at ho
              subst ho
              exact ⟨rfl, rfl⟩
            simp only [Act.put, List.setIfInBounds_toArray, List.set_cons_zero, List.set_cons_succ]
            refine AnyT.loadD 40 80 ?_ rfl (by kernel_rfl) (by kernel_rfl) (by kernel_rfl) (by kernel_rfl) (by kernel_rfl) (fun _ _ _ h => h) HS0.out ?_ ?_
            rotate_left
            · intro o ho
              simp only [List.getElem?_toArray, List.getElem?_cons_succ, List.getElem?_cons_zero, Option.some.injEq] at ho
              subst ho
              refine ⟨rfl, rfl, fun w' hSw => ?_⟩
              have hs := HSI.out w' hSw
              go_split_ands
              go_simp
              try (first | exact rfl | omega | go_num | (intro hbd; exfalso; omega))
            simp only [Act.put, List.setIfInBounds_toArray, List.set_cons_zero, List.set_cons_succ]
            refine AnyT.loadD 41 81 ?_ rfl (by kernel_rfl) (by kernel_rfl) (by kernel_rfl) (by kernel_rfl) (by kernel_rfl) (fun _ _ _ h => h) HS0.out ?_ ?_
            rotate_left
            · intro o ho
              simp only [List.getElem?_toArray, List.getElem?_cons_succ, List.getElem?_cons_zero, Option.some.injEq] at ho
              subst ho
              refine ⟨rfl, rfl, fun w' hSw => ?_⟩
              have hs := HSI.out w' hSw
              go_split_ands
              go_simp
              try (first | exact rfl | omega | go_num | (intro hbd; exfalso; omega))
            simp only [Act.put, List.setIfInBounds_toArray, List.set_cons_zero, List.set_cons_succ]
            refine AnyT.done (by kernel_rfl) ?_
            have HXn := Lib.hid (HXr.out.trans HS0.out)
            clear HSI HS0 HCI C1 C2
            go_wp2_with fail
            go_roundw
            case rel => exact ⟨1, by omega, by go_num, HXn⟩
            case measure => simp [RowKit.intOf]; omega
        · obtain rfl : i = m := by omega
          have SG := Lib.hid (fun w' => r2sign_any lc w' CF'.out)
          have hsg := num_sign_ge CN.out
          have HTC : Hid (ratText lc = [48] ↔ lc = 0) := ratText_zero
          generalize lc.num.sign = s at *
          generalize ratText lc = tc at *
          have hm1 : decide (i ≥ 1) = true := decide_eq_true hl1
          have hmk : i ≤ k := by omega
          have hml : i ≤ l.length := by omega
          by_cases hlm : i = l.length
          · have htc : tc = [48] := HTC.out.2 (CZ.out.2 hlm)
            subst htc
            go_wp2_with fail
            refine (SG.out _).mono ?_
            rintro e w6 ⟨rfl, hx6⟩
            have hx6' := HX4.out.trans (HXr.out.trans hx6)
            go_wp2_with fail
            refine (lsane_any w6 (HT.out.ext hx6')).mono ?_
            rintro e w7 ⟨rfl, hx7⟩
            go_wp2
            go_ret
            exact ⟨rfl, hx6'.trans hx7⟩
          · have htc : ¬ tc = [48] := fun h => hlm (CZ.out.1 (HTC.out.1 h))
            have htc' : (tc == [48]) = false := by rw [beq_eq_false_iff_ne]; exact htc
            have hlm' : ((i : Int) == (l.length : Int)) = false := by rw [beq_eq_false_iff_ne]; omega
            go_wp2_with fail
            refine (SG.out _).mono ?_
            rintro e w6 ⟨rfl, hx6⟩
            have hx6' := HX4.out.trans (HXr.out.trans hx6)
            go_wp2_with fail
            refine (lsane_any w6 (HT.out.ext hx6')).mono ?_
            rintro e w7 ⟨rfl, hx7⟩
            go_wp2
            go_ret
            exact ⟨rfl, hx6'.trans hx7⟩
  · have hd : decide (zs.length ≤ 600) = false := decide_eq_false hl
    rw [hd]
    go_wp2_with fail
    refine (lsane_any w HT.out).mono ?_
    rintro e w1 ⟨rfl, hx1⟩
    go_wp2
    go_ret
    exact ⟨rfl, hx1⟩
end Go.Proofs.YtkhmfgkbobblmaaGreatDoor
