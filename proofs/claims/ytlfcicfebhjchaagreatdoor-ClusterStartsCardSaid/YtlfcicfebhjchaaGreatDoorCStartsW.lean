/- joinlearnlaw28.ClusterStarts, walked: it returns true. -/
import Derived.Test.YtlfcicfebhjchaaGreatDoorCSane
import Derived.Test.YtlfcicfebhjchaaGreatDoorStart
namespace Go.Proofs.YtlfcicfebhjchaaGreatDoor
open Go.RowKit Go.Lib

def wt (l : List Pt) (j : Nat) : Rat := (l.getD j ([], 0)).2
theorem wt_get {l : List Pt} {j : Nat} (h : j < l.length) : wt l j = l[j].2 := by
  unfold wt
  rw [List.getD_eq_getElem?_getD, List.getElem?_eq_getElem h]
  rfl
/-- the first of the heaviest of t points -/
def Top (l : List Pt) (t h : Nat) : Prop := (h < t ∨ h = 0) ∧ (∀ j, j < t → wt l j ≤ wt l h) ∧ ∀ j, j < h → wt l j < wt l h
theorem Top.zero (l : List Pt) : Top l 0 0 := ⟨.inr rfl, fun j h => by omega, fun j h => by omega⟩
theorem Top.take {l : List Pt} {t h : Nat} (H : Top l t h) (hv : wt l h < wt l t) : Top l (t + 1) t := by
  refine ⟨.inl (by omega), fun j hj => ?_, fun j hj => lt_of_le_lt (H.2.1 j hj) hv⟩
  by_cases e : j = t
  · subst e; exact Rat.le_refl
  · exact Rat.le_of_lt (lt_of_le_lt (H.2.1 j (by omega)) hv)
theorem Top.skip {l : List Pt} {t h : Nat} (H : Top l t h) (hv : ¬ wt l h < wt l t) : Top l (t + 1) h := by
  refine ⟨H.1.elim (fun h => .inl (by omega)) .inr, fun j hj => ?_, H.2.2⟩
  by_cases e : j = t
  · subst e; exact Rat.not_lt.1 hv
  · exact H.2.1 j (by omega)
theorem Top.first {l : List Pt} {cs : List (List Rat)} {h : Nat} (H : Top l l.length h) (hg : Greedy l cs) (h0 : 0 < cs.length) (hl : h < l.length) : cs[0] = l[h].1 :=
  hg.first h0 hl (fun j hj => by rw [← wt_get hj, ← wt_get hl]; exact H.2.1 j hj) (fun j hj hjh => by rw [← wt_get hj, ← wt_get hl]; exact H.2.2 j hjh)
def found (l : List Pt) (x : List Rat) (t : Nat) : Bool := (l.take t).any fun p => decide (p.1 = x)
theorem found_next {l : List Pt} {x : List Rat} {t : Nat} (h : t < l.length) : found l x (t + 1) = (found l x t || decide (l[t].1 = x)) := by
  unfold found
  rw [List.take_succ_eq_append_getElem h, List.any_append]
  simp
theorem found_all {l : List Pt} {x : List Rat} (h : ∃ p ∈ l, p.1 = x) : found l x l.length = true := by
  unfold found
  rw [List.take_of_length_le (Nat.le_refl _), List.any_eq_true]
  obtain ⟨p, hp, e⟩ := h
  exact ⟨p, hp, decide_eq_true e⟩
theorem sub_pos {p q : Rat} : 0 < (p - q).num.sign ↔ q < p := by
  constructor
  · intro h
    have h1 : 0 < (p - q).num := by
      rcases Int.lt_trichotomy (p - q).num 0 with h' | h' | h'
      · rw [Int.sign_eq_neg_one_of_neg h'] at h; omega
      · rw [h'] at h; simp at h
      · exact h'
    have := pos_of_num h1
    grind
  · intro h
    rw [Int.sign_eq_one_of_pos (num_pos (by grind))]
    decide
set_option maxRecDepth 100000 in
set_option maxHeartbeats 8000000 in
theorem cstarts_walk (t : TypeId) (A : Option Addr) (zs : List Int) (c : Nat) (w : World) (hc : zs.length ≤ c) (hm : c ≤ 9223372036854775807) (hs : Sl w t A (zcells zs)) (hz : ∀ z ∈ zs, -9223372036854775808 ≤ z ∧ z ≤ 9223372036854775807) (ht : Tab w) :
    Calls Tryz.prog 5 #[.slice A zs.length c] w fun e w' => e = .returned (.bool true) ∧ Ext w w' := by
  have HS := Lib.hid hs
  have HZ := Lib.hid hz
  have HT := Lib.hid ht
  clear hs hz ht
  go_enter Tryz.func5, Tryz.ntmps5
  go_wp2_with fail
  refine (light_any A zs.length c w (by omega)).mono ?_
  rintro e w0 ⟨rfl, rfl⟩
  by_cases hl : zs.length ≤ 600
  · have hd : decide (zs.length ≤ 600) = true := decide_eq_true hl
    rw [hd]
    go_wp2_with fail
    refine (mnew_any t A zs c w hc hm hl HS.out HZ.out).mono ?_
    rintro e w1 ⟨rfl, hsrc1, hx1⟩
    clear hd
    go_wp2_with fail
    refine (range_any w.heap.size 1 2 w1 hsrc1 (by decide) (by decide)).mono ?_
    rintro e w2 ⟨n, hn1, hn2, rfl, hsrc2, ho2⟩
    have hn3 : n ≤ 3 := by omega
    have HX2 := Lib.hid (hx1.only ho2 (Nat.le_refl _))
    clear hx1 ho2 hsrc1 hl
    go_wp2_with fail
    refine (cores_any w.heap.size n 6 w2 hsrc2 hn3 (by decide)).mono ?_
    rintro e w3 ⟨Al, cl, l, hll, hml, rfl, hcl, hs3, ho3⟩
    have HX3 := Lib.hid (HX2.out.only ho3 (Nat.le_refl _))
    have HML : Hid (MadeL n l) := hml
    clear ho3 hsrc2 hml
    go_wp2_with fail
    refine (range_any w.heap.size 0 4 w3 hs3 (by decide) (by decide)).mono ?_
    rintro e w4 ⟨k, _, hk4, rfl, hs4, ho4⟩
    have HX4 := Lib.hid (HX3.out.only ho4 (Nat.le_refl _))
    have hk4' := Src.kept (t := tRat) hs3 ho4 (by decide)
    have hk4'' := Src.kept (t := tCore) hs3 ho4 (by decide)
    have hcl4 : CL w4 (.slice Al l.length cl) l := hcl.keep CoR.stab (fun u hu => by
      simp only [List.mem_cons, List.not_mem_nil, or_false] at hu
      rcases hu with rfl | rfl
      · exact hk4''
      · exact hk4')
    have HG0 := Lib.hid (good_made (cs := []) hn1 hn3 (by omega) (by decide) HML.out (fun c hc => by cases hc))
    clear ho4 hs3 hk4' hk4'' hcl hs4
    go_wp2_with fail
    refine (start_any _ n l k w4 hcl4 HG0.out hk4).mono ?_
    rintro e w5 ⟨Ac, cc, cs, rfl, hck, hgr, hend, hpl, hx5⟩
    have HX5 := Lib.hid (HX4.out.trans hx5)
    have HCL := Lib.hid (CL.ext hcl4 hx5)
    have HPL := Lib.hid hpl
    have HGR := Lib.hid hgr
    have HEND := Lib.hid hend
    have HG := Lib.hid (good_greedy HG0.out hgr (by omega))
    have hcl' : cl ≤ 9223372036854775807 := by
      obtain ⟨_, _, e, _, h, _⟩ := hcl4.parts
      injection e with _ _ e
      subst e
      unfold maxLen at h; omega
    have hcc' : cs.length ≤ cc ∧ cc ≤ 9223372036854775807 := by
      obtain ⟨_, _, e, h', h, _⟩ := hpl.parts
      injection e with _ _ e
      subst e
      unfold maxLen at h; omega
    obtain ⟨hcc1, hcc2⟩ := hcc'
    clear hcl4 hpl hgr hend hx5 HX2 HX3 HX4 HG0
    go_wp2_with fail
    go_loopw [7, 8, 33] (fun v7 _ v33 wr => ∃ t h : Nat, t ≤ l.length ∧ v33 = .int .i64 t ∧ v7 = .int .i64 h ∧ Hid (Top l t h) ∧ Hid (Ext w5 wr)) (fun _ _ v33 _ => l.length - (RowKit.intOf v33).toNat)
    case atStart => exact ⟨0, 0, Nat.zero_le _, rfl, rfl, Top.zero l, Ext.refl _⟩
    case round =>
      obtain ⟨t, h, htl, rfl, rfl, HTP, HXr⟩ := hrel
      by_cases hkl : t < l.length
      · have hhl : h < l.length := by rcases HTP.out.1 with h' | h' <;> omega
        obtain ⟨g1, o1, A1, c1, rfl, _, _, _, hp1⟩ := CL.get (CL.ext HCL.out HXr.out) hkl
        have HC1 : Hid (∀ w', Ext wr w' → w'.cell? ⟨g1, o1 + t * 2 + 1, none⟩ = some (.string ⟨(ratText l[t].2).toArray⟩) ∧ w'.cell? ⟨g1, o1 + h * 2 + 1, none⟩ = some (.string ⟨(ratText l[h].2).toArray⟩)) := fun w' hx => by
          obtain ⟨g3, o3, _, _, e, _, _, _, h3⟩ := CL.get (CL.ext HCL.out (HXr.out.trans hx)) hkl
          obtain ⟨g4, o4, _, _, e', _, _, _, h4⟩ := CL.get (CL.ext HCL.out (HXr.out.trans hx)) hhl
          injection e with e
          injection e with e1 e2
          subst e1 e2
          injection e' with e
          injection e with e1 e2
          subst e1 e2
          exact ⟨h3, h4⟩
        have RC := Lib.hid (fun w' => r2compare_any l[t].2 l[h].2 w' (HG.out.wf _ (List.getElem_mem hkl)) (HG.out.wf _ (List.getElem_mem hhl)))
        have HTK : Hid (l[h].2 < l[t].2 → Top l (t + 1) t) := fun hv => HTP.out.take (by rw [wt_get hkl, wt_get hhl]; exact hv)
        have HSK : Hid (¬ l[h].2 < l[t].2 → Top l (t + 1) h) := fun hv => HTP.out.skip (by rw [wt_get hkl, wt_get hhl]; exact hv)
        clear hp1
        generalize l[t].2 = qx at *
        generalize l[h].2 = qy at *
        generalize ratText qx = tx at *
        generalize ratText qy = ty at *
        go_upto_region 11 with fail
        obtain ⟨S, hSd⟩ : ∃ S : World → Prop, S = fun w' => w'.cell? ⟨g1, o1 + t * 2 + 1, none⟩ = some (.string ⟨tx.toArray⟩) ∧ w'.cell? ⟨g1, o1 + h * 2 + 1, none⟩ = some (.string ⟨ty.toArray⟩) := ⟨_, rfl⟩
        have HSI : Hid (∀ w', S w' → w'.cell? ⟨g1, o1 + t * 2 + 1, none⟩ = some (.string ⟨tx.toArray⟩) ∧ w'.cell? ⟨g1, o1 + h * 2 + 1, none⟩ = some (.string ⟨ty.toArray⟩)) := by rw [Hid, hSd]; exact fun _ h => h
        have HSE : Hid (∀ w', Ext wr w' → S w') := by rw [Hid, hSd]; exact fun w' h => HC1.out w' h
        have HS0 : Hid (S wr.drew) := HSE.out _ (Ext.refl wr).drew
        clear hSd
        refine AnyT.start (S := S) (T := fun _ => false) (by kernel_rfl) ?_
        refine AnyT.load 0 36 (.slice (some ⟨g1, o1, none⟩) l.length cl) rfl (by kernel_rfl) (by kernel_rfl) (by kernel_rfl) (by kernel_rfl) (by kernel_rfl) (fun _ _ _ h => h) HS0.out ?_ ?_
        · intro o ho
          simp only [List.getElem?_toArray, List.getElem?_cons_zero, Option.some.injEq] at ho
          subst ho
          refine ⟨rfl, rfl, fun w' hSw => ?_⟩
          have hs := HSI.out w' hSw
          go_split_ands
          go_simp
        simp only [Act.put, List.setIfInBounds_toArray, List.set_cons_zero, List.set_cons_succ]
        refine AnyT.load 1 37 (.int .i64 t) rfl (by kernel_rfl) (by kernel_rfl) (by kernel_rfl) (by kernel_rfl) (by kernel_rfl) (fun _ _ _ h => h) HS0.out ?_ ?_
        · intro o ho
          simp only [List.getElem?_toArray, List.getElem?_cons_succ, List.getElem?_cons_zero, Option.some.injEq] at ho
          subst ho
          refine ⟨rfl, rfl, fun w' hSw => ?_⟩
          have hs := HSI.out w' hSw
          go_split_ands
          go_simp
        simp only [Act.put, List.setIfInBounds_toArray, List.set_cons_zero, List.set_cons_succ]
        refine AnyT.load 2 38 (.pointer (some ⟨g1, o1 + t * 2, none⟩)) rfl (by kernel_rfl) (by kernel_rfl) (by kernel_rfl) (by kernel_rfl) (by kernel_rfl) (fun _ _ _ h => h) HS0.out ?_ ?_
        · intro o ho
          simp only [List.getElem?_toArray, List.getElem?_cons_succ, List.getElem?_cons_zero, Option.some.injEq] at ho
          subst ho
          refine ⟨rfl, rfl, fun w' hSw => ?_⟩
          have hs := HSI.out w' hSw
          go_split_ands
          go_simp
        simp only [Act.put, List.setIfInBounds_toArray, List.set_cons_zero, List.set_cons_succ]
        refine AnyT.load 3 39 (.pointer (some ⟨g1, o1 + t * 2 + 1, none⟩)) rfl (by kernel_rfl) (by kernel_rfl) (by kernel_rfl) (by kernel_rfl) (by kernel_rfl) (fun _ _ _ h => h) HS0.out ?_ ?_
        · intro o ho
          simp only [List.getElem?_toArray, List.getElem?_cons_succ, List.getElem?_cons_zero, Option.some.injEq] at ho
          subst ho
          refine ⟨rfl, rfl, fun w' hSw => ?_⟩
          have hs := HSI.out w' hSw
          go_split_ands
          go_simp
        simp only [Act.put, List.setIfInBounds_toArray, List.set_cons_zero, List.set_cons_succ]
        refine AnyT.load 4 40 (.string ⟨tx.toArray⟩) rfl (by kernel_rfl) (by kernel_rfl) (by kernel_rfl) (by kernel_rfl) (by kernel_rfl) (fun _ _ _ h => h) HS0.out ?_ ?_
        · intro o ho
          simp only [List.getElem?_toArray, List.getElem?_cons_succ, List.getElem?_cons_zero, Option.some.injEq] at ho
          subst ho
          refine ⟨rfl, rfl, fun w' hSw => ?_⟩
          have hs := HSI.out w' hSw
          go_split_ands
          go_simp
        simp only [Act.put, List.setIfInBounds_toArray, List.set_cons_zero, List.set_cons_succ]
        refine AnyT.load 5 41 (.slice (some ⟨g1, o1, none⟩) l.length cl) rfl (by kernel_rfl) (by kernel_rfl) (by kernel_rfl) (by kernel_rfl) (by kernel_rfl) (fun _ _ _ h => h) HS0.out ?_ ?_
        · intro o ho
          simp only [List.getElem?_toArray, List.getElem?_cons_succ, List.getElem?_cons_zero, Option.some.injEq] at ho
          subst ho
          refine ⟨rfl, rfl, fun w' hSw => ?_⟩
          have hs := HSI.out w' hSw
          go_split_ands
          go_simp
        simp only [Act.put, List.setIfInBounds_toArray, List.set_cons_zero, List.set_cons_succ]
        refine AnyT.load 6 42 (.int .i64 h) rfl (by kernel_rfl) (by kernel_rfl) (by kernel_rfl) (by kernel_rfl) (by kernel_rfl) (fun _ _ _ h => h) HS0.out ?_ ?_
        · intro o ho
          simp only [List.getElem?_toArray, List.getElem?_cons_succ, List.getElem?_cons_zero, Option.some.injEq] at ho
          subst ho
          refine ⟨rfl, rfl, fun w' hSw => ?_⟩
          have hs := HSI.out w' hSw
          go_split_ands
          go_simp
        simp only [Act.put, List.setIfInBounds_toArray, List.set_cons_zero, List.set_cons_succ]
        refine AnyT.load 7 43 (.pointer (some ⟨g1, o1 + h * 2, none⟩)) rfl (by kernel_rfl) (by kernel_rfl) (by kernel_rfl) (by kernel_rfl) (by kernel_rfl) (fun _ _ _ h => h) HS0.out ?_ ?_
        · intro o ho
          simp only [List.getElem?_toArray, List.getElem?_cons_succ, List.getElem?_cons_zero, Option.some.injEq] at ho
          subst ho
          refine ⟨rfl, rfl, fun w' hSw => ?_⟩
          have hs := HSI.out w' hSw
          go_split_ands
          go_simp
        simp only [Act.put, List.setIfInBounds_toArray, List.set_cons_zero, List.set_cons_succ]
        refine AnyT.load 8 44 (.pointer (some ⟨g1, o1 + h * 2 + 1, none⟩)) rfl (by kernel_rfl) (by kernel_rfl) (by kernel_rfl) (by kernel_rfl) (by kernel_rfl) (fun _ _ _ h => h) HS0.out ?_ ?_
        · intro o ho
          simp only [List.getElem?_toArray, List.getElem?_cons_succ, List.getElem?_cons_zero, Option.some.injEq] at ho
          subst ho
          refine ⟨rfl, rfl, fun w' hSw => ?_⟩
          have hs := HSI.out w' hSw
          go_split_ands
          go_simp
        simp only [Act.put, List.setIfInBounds_toArray, List.set_cons_zero, List.set_cons_succ]
        refine AnyT.load 9 45 (.string ⟨ty.toArray⟩) rfl (by kernel_rfl) (by kernel_rfl) (by kernel_rfl) (by kernel_rfl) (by kernel_rfl) (fun _ _ _ h => h) HS0.out ?_ ?_
        · intro o ho
          simp only [List.getElem?_toArray, List.getElem?_cons_succ, List.getElem?_cons_zero, Option.some.injEq] at ho
          subst ho
          refine ⟨rfl, rfl, fun w' hSw => ?_⟩
          have hs := HSI.out w' hSw
          go_split_ands
          go_simp
        simp only [Act.put, List.setIfInBounds_toArray, List.set_cons_zero, List.set_cons_succ]
        refine AnyT.step 10 (by kernel_rfl) ?_
        intro o ho K hK
        simp only [List.getElem?_toArray, List.getElem?_cons_succ, List.getElem?_cons_zero, Option.some.injEq] at ho
        subst ho
        go_simp
        refine (RC.out _).mono ?_
        rintro e w6 ⟨rfl, hx6⟩
        have hy6 := (Ext.refl wr).drew.trans hx6
        refine hK.out _ _ (fun _ => HSE.out _ hy6) ?_
        have HX6 := Lib.hid (HXr.out.trans hy6)
        have HS6 := Lib.hid (HSE.out _ hy6)
        clear hx6 hy6
        by_cases hlt : qy < qx
        · have hd2 : decide ((qx - qy).num.sign > 0) = true := decide_eq_true (sub_pos.2 hlt)
          have HT2 := Lib.hid (HTK.out hlt)
          clear hlt
          generalize (qx - qy).num.sign = cq at *
          refine AnyT.step 11 (by kernel_rfl) ?_
          intro o ho K hK
          simp only [List.getElem?_toArray, List.getElem?_cons_succ, List.getElem?_cons_zero, Option.some.injEq] at ho
          subst ho
          go_simp
          refine hK.out _ _ (fun _ => HS6.out) ?_
          refine AnyT.done (by kernel_rfl) ?_
          go_wp2_with fail
          go_roundw
          case rel => exact ⟨t + 1, t, by omega, by go_num, rfl, HT2, HX6⟩
          case measure => simp [RowKit.intOf]; omega
        · have hd2 : decide ((qx - qy).num.sign > 0) = false := decide_eq_false (fun h => hlt (sub_pos.1 h))
          have HT2 := Lib.hid (HSK.out hlt)
          clear hlt
          generalize (qx - qy).num.sign = cq at *
          refine AnyT.step 11 (by kernel_rfl) ?_
          intro o ho K hK
          simp only [List.getElem?_toArray, List.getElem?_cons_succ, List.getElem?_cons_zero, Option.some.injEq] at ho
          subst ho
          go_simp
          refine hK.out _ _ (fun _ => HS6.out) ?_
          refine AnyT.done (by kernel_rfl) ?_
          go_wp2_with fail
          go_roundw
          case rel => exact ⟨t + 1, h, by omega, by go_num, rfl, HT2, HX6⟩
          case measure => simp [RowKit.intOf]; omega
      · obtain rfl : t = l.length := by omega
        generalize wr = wa at *
        by_cases hc0 : 0 < cs.length
        · have hd0 : decide (cs.length > 0) = true := decide_eq_true hc0
          have hl0 : 0 < l.length := by
            obtain ⟨b, hb, _⟩ := HGR.out 0 hc0
            omega
          have hhl : h < l.length := by rcases HTP.out.1 with h' | h' <;> omega
          obtain ⟨g1, o1, A1, c1, rfl, _, HL1, hp1, _⟩ := CL.get (CL.ext HCL.out HXr.out) hhl
          obtain ⟨g2, o2, A2, c2, rfl, _, HL2, hp2⟩ := OneR.get (PL.ext HPL.out HXr.out) hc0
          have HSM : Hid (∀ n, Calls Tryz.prog 24 #[.slice A2 cs[0].length c2, .slice A1 l[h].1.length c1] (wa.drewN n) fun e w' => e = .returned (.bool true) ∧ ∃ m, w' = wa.drewN m) := fun n => by
            have h1 := same_any _ _ cs[0] l[h].1 (wa.drewN n) (RL.ext HL2.out ((Ext.refl wa).drewN n)) (RL.ext HL1.out ((Ext.refl wa).drewN n))
            rw [decide_eq_true (HTP.out.first HGR.out hc0 hhl)] at h1
            refine h1.mono ?_
            rintro e w' ⟨h1, m, rfl⟩
            exact ⟨h1, _, drewN_add _ _ _⟩
          rw [Nat.add_zero] at hp2
          generalize cs[0] = x at *
          generalize l[h] = y at *
          generalize x.length = nx at *
          generalize y.1.length = ny at *
          go_wp2_with fail
          go_quiet ((go_at_call 24; exact HSM.out _))
          have HXB := Lib.hid (HXr.out.drewN nq)
          clear hp1 hp2 hd0
          generalize wa.drewN nq = wb at *
          clear HL1 HL2 HSM HTP HXr hc0 hl0 hhl
          generalize (some ⟨g1, o1, none⟩ : Option Addr) = Al at *
          generalize (some ⟨g2, o2, none⟩ : Option Addr) = Ac at *
          go_wp2_with fail
          go_loopw [9, 10, 11, 13, 15, 67] (fun _ _ _ _ _ v67 wr => ∃ t : Nat, t ≤ cs.length ∧ v67 = .int .i64 t ∧ Hid (Ext w5 wr)) (fun _ _ _ _ _ v67 _ => cs.length - (RowKit.intOf v67).toNat)
          case atStart => exact ⟨0, Nat.zero_le _, rfl, HXB⟩
          case round =>
            obtain ⟨t, htc, rfl, HXr⟩ := hrel
            by_cases hkc : t < cs.length
            · obtain ⟨g2, o2, A2, c2, rfl, _, HL2, hp2⟩ := OneR.get (PL.ext HPL.out HXr.out) hkc
              have HFA : Hid (found l cs[t] l.length = true) := found_all (HGR.out.mem _ (List.getElem_mem hkc))
              have HDF : Hid (∀ s (h : s < t), ¬ cs[t] = cs[s]) := fun s hs => HGR.out.diff (fun x hx => pos_of_num (HG.out.wp x hx)) s t hs hkc
              have HCG : Hid (∀ w' s (h : s < t), Ext wr w' → ∃ A3 c3, Hid (RL w' (.slice A3 cs[s].length c3) cs[s]) ∧ w'.cell? ⟨g2, o2 + s, none⟩ = some (.slice A3 cs[s].length c3)) := fun w' s hs hx => by
                obtain ⟨g3, o3, A3, c3, e, _, h1, h2⟩ := OneR.get (PL.ext HPL.out (HXr.out.trans hx)) (show s < cs.length by omega)
                injection e with e
                injection e with e1 e2
                subst e1 e2
                exact ⟨A3, c3, h1, h2⟩
              generalize cs[t] = x at *
              generalize wr = wo at *
              go_wp2_with fail
              clear hp2
              go_loopw [11, 13, 74] (fun v11 _ v74 wr => ∃ s : Nat, s ≤ l.length ∧ v74 = .int .i64 s ∧ v11 = .bool (found l x s) ∧ Hid (Ext wo wr)) (fun _ _ v74 _ => l.length - (RowKit.intOf v74).toNat)
              case atStart => exact ⟨0, Nat.zero_le _, rfl, rfl, Ext.refl _⟩
              case round =>
                obtain ⟨s, hsl, rfl, rfl, HXS⟩ := hrel
                by_cases hs : s < l.length
                · obtain ⟨g1, o1, A1, c1, rfl, _, HL1, hp0, hp1⟩ := CL.get (CL.ext HCL.out (HXr.out.trans HXS.out)) hs
                  have HNX := Lib.hid (found_next (x := x) hs)
                  have SM : Hid (∀ w', Ext wr w' → Calls Tryz.prog 24 #[.slice A1 l[s].1.length c1, .slice A2 x.length c2] w' fun e w'' => e = .returned (.bool (decide (l[s].1 = x))) ∧ ∃ m, w'' = w'.drewN m) := fun w' hx => same_any _ _ l[s].1 x w' (RL.ext HL1.out hx) (RL.ext HL2.out (HXS.out.trans hx))
                  generalize l[s] = y at *
                  generalize y.1.length = ny at *
                  generalize decide (y.1 = x) = dy at *
                  generalize ratText y.2 = ty at *
                  generalize found l x s = b at *
                  go_upto_region 23 with fail
                  refine box1 (P := fun W => Code.wp _ _ _ _ W) fun W2 HX2 BX => ?_
                  have j0 := BX.out.cell (i := 0) rfl
                  clear hp0 hp1
                  cases b
                  · go_wp2_with fail
                    refine (SM.out W2 HX2.out).mono ?_
                    rintro e w7 ⟨rfl, m, rfl⟩
                    have HX7 := Lib.hid ((HXS.out.trans HX2.out).drewN m)
                    clear j0
                    go_wp2
                    go_roundw
                    case rel => exact ⟨s + 1, by omega, by go_num, by rw [HNX.out]; rfl, HX7⟩
                    case measure => simp [RowKit.intOf]; omega
                  · have HX7 := Lib.hid (HXS.out.trans HX2.out)
                    go_wp2
                    go_roundw
                    case rel => exact ⟨s + 1, by omega, by go_num, by rw [HNX.out]; rfl, HX7⟩
                    case measure => simp [RowKit.intOf]; omega
                · obtain rfl : s = l.length := by omega
                  rw [HFA.out]
                  generalize wr = wp at *
                  go_wp2_with fail
                  go_loopw [15, 90] (fun _ v90 wr => ∃ s : Nat, s ≤ t ∧ v90 = .int .i64 s ∧ Hid (Ext wo wr)) (fun _ v90 _ => t - (RowKit.intOf v90).toNat)
                  case atStart => exact ⟨0, Nat.zero_le _, rfl, HXS⟩
                  case round =>
                    obtain ⟨s, hst, rfl, HXT⟩ := hrel
                    by_cases hs : s < t
                    · obtain ⟨A3, c3, HL3, hp3⟩ := HCG.out wr s hs HXT.out
                      have SM := Lib.hid (same_any _ _ x cs[s] wr (RL.ext HL2.out HXT.out) HL3.out)
                      rw [decide_eq_false (HDF.out s hs)] at SM
                      generalize cs[s].length = ny at *
                      go_wp2_with fail
                      refine SM.out.mono ?_
                      rintro e w7 ⟨rfl, m, rfl⟩
                      have HX7 := Lib.hid (HXT.out.drewN m)
                      clear hp3
                      go_wp2
                      go_roundw
                      case rel => exact ⟨s + 1, by omega, by go_num, HX7⟩
                      case measure => simp [RowKit.intOf]; omega
                    · obtain rfl : s = t := by omega
                      have HX7 := Lib.hid (HXr.out.trans HXT.out)
                      go_wp2
                      go_roundw
                      case rel => exact ⟨s + 1, by omega, by go_num, HX7⟩
                      case measure => simp [RowKit.intOf]; omega
            · obtain rfl : t = cs.length := by omega
              have hd1 : decide ((cs.length : Int) ≤ (k : Int)) = true := decide_eq_true (by omega)
              by_cases hk : cs.length = k
              · have hd2 : ((cs.length : Int) == (k : Int)) = true := by simp [hk]
                have HXE := Lib.hid (HX5.out.trans HXr.out)
                clear hk
                go_wp2_with fail
                refine (csane_any wr (HT.out.ext HXE.out)).mono ?_
                rintro e wz ⟨rfl, hxz⟩
                go_wp2
                go_ret
                exact ⟨rfl, HXE.out.trans hxz⟩
              · have hd2 : ((cs.length : Int) == (k : Int)) = false := by rw [beq_eq_false_iff_ne]; omega
                by_cases hl0 : l.length = 0
                · have hd3 : ((l.length : Int) == 0) = true := by simp [hl0]
                  have HXE := Lib.hid (HX5.out.trans HXr.out)
                  clear hk hl0
                  go_wp2_with fail
                  refine (csane_any wr (HT.out.ext HXE.out)).mono ?_
                  rintro e wz ⟨rfl, hxz⟩
                  go_wp2
                  go_ret
                  exact ⟨rfl, HXE.out.trans hxz⟩
                · have hd3 : ((l.length : Int) == 0) = false := by simp [hl0]
                  have HC0 : Hid (cost l cs = 0) := HGR.out.end_ HG.out.pn (fun x hx => pos_of_num (HG.out.wp x hx)) (by omega) (HEND.out.resolve_left hk)
                  have CO := Lib.hid (cost_any _ _ n l cs wr (CL.ext HCL.out HXr.out) (PL.ext HPL.out HXr.out) HG.out (by omega) (by rw [HC0.out]; exact zero_fit (by decide)) (HT.out.ext (HX5.out.trans HXr.out)))
                  rw [HC0.out, txt0] at CO
                  clear hk hl0
                  go_wp2_with fail
                  refine CO.out.mono ?_
                  rintro e w7 ⟨rfl, hx7⟩
                  have HXE := Lib.hid (HX5.out.trans (HXr.out.trans hx7))
                  go_wp2_with fail
                  refine (csane_any w7 (HT.out.ext HXE.out)).mono ?_
                  rintro e wz ⟨rfl, hxz⟩
                  go_wp2
                  go_ret
                  exact ⟨rfl, HXE.out.trans hxz⟩
        · have hd0 : decide (cs.length > 0) = false := decide_eq_false hc0
          go_wp2_with fail
          go_quiet (fail)
          have HXB := Lib.hid (HXr.out.drewN nq)
          generalize wa.drewN nq = wb at *
          clear hd0 hc0 HTP HXr
          go_wp2_with fail
          go_loopw [9, 10, 11, 13, 15, 67] (fun _ _ _ _ _ v67 wr => ∃ t : Nat, t ≤ cs.length ∧ v67 = .int .i64 t ∧ Hid (Ext w5 wr)) (fun _ _ _ _ _ v67 _ => cs.length - (RowKit.intOf v67).toNat)
          case atStart => exact ⟨0, Nat.zero_le _, rfl, HXB⟩
          case round =>
            obtain ⟨t, htc, rfl, HXr⟩ := hrel
            by_cases hkc : t < cs.length
            · obtain ⟨g2, o2, A2, c2, rfl, _, HL2, hp2⟩ := OneR.get (PL.ext HPL.out HXr.out) hkc
              have HFA : Hid (found l cs[t] l.length = true) := found_all (HGR.out.mem _ (List.getElem_mem hkc))
              have HDF : Hid (∀ s (h : s < t), ¬ cs[t] = cs[s]) := fun s hs => HGR.out.diff (fun x hx => pos_of_num (HG.out.wp x hx)) s t hs hkc
              have HCG : Hid (∀ w' s (h : s < t), Ext wr w' → ∃ A3 c3, Hid (RL w' (.slice A3 cs[s].length c3) cs[s]) ∧ w'.cell? ⟨g2, o2 + s, none⟩ = some (.slice A3 cs[s].length c3)) := fun w' s hs hx => by
                obtain ⟨g3, o3, A3, c3, e, _, h1, h2⟩ := OneR.get (PL.ext HPL.out (HXr.out.trans hx)) (show s < cs.length by omega)
                injection e with e
                injection e with e1 e2
                subst e1 e2
                exact ⟨A3, c3, h1, h2⟩
              generalize cs[t] = x at *
              generalize wr = wo at *
              go_wp2_with fail
              clear hp2
              go_loopw [11, 13, 74] (fun v11 _ v74 wr => ∃ s : Nat, s ≤ l.length ∧ v74 = .int .i64 s ∧ v11 = .bool (found l x s) ∧ Hid (Ext wo wr)) (fun _ _ v74 _ => l.length - (RowKit.intOf v74).toNat)
              case atStart => exact ⟨0, Nat.zero_le _, rfl, rfl, Ext.refl _⟩
              case round =>
                obtain ⟨s, hsl, rfl, rfl, HXS⟩ := hrel
                by_cases hs : s < l.length
                · obtain ⟨g1, o1, A1, c1, rfl, _, HL1, hp0, hp1⟩ := CL.get (CL.ext HCL.out (HXr.out.trans HXS.out)) hs
                  have HNX := Lib.hid (found_next (x := x) hs)
                  have SM : Hid (∀ w', Ext wr w' → Calls Tryz.prog 24 #[.slice A1 l[s].1.length c1, .slice A2 x.length c2] w' fun e w'' => e = .returned (.bool (decide (l[s].1 = x))) ∧ ∃ m, w'' = w'.drewN m) := fun w' hx => same_any _ _ l[s].1 x w' (RL.ext HL1.out hx) (RL.ext HL2.out (HXS.out.trans hx))
                  generalize l[s] = y at *
                  generalize y.1.length = ny at *
                  generalize decide (y.1 = x) = dy at *
                  generalize ratText y.2 = ty at *
                  generalize found l x s = b at *
                  go_upto_region 23 with fail
                  refine box1 (P := fun W => Code.wp _ _ _ _ W) fun W2 HX2 BX => ?_
                  have j0 := BX.out.cell (i := 0) rfl
                  clear hp0 hp1
                  cases b
                  · go_wp2_with fail
                    refine (SM.out W2 HX2.out).mono ?_
                    rintro e w7 ⟨rfl, m, rfl⟩
                    have HX7 := Lib.hid ((HXS.out.trans HX2.out).drewN m)
                    clear j0
                    go_wp2
                    go_roundw
                    case rel => exact ⟨s + 1, by omega, by go_num, by rw [HNX.out]; rfl, HX7⟩
                    case measure => simp [RowKit.intOf]; omega
                  · have HX7 := Lib.hid (HXS.out.trans HX2.out)
                    go_wp2
                    go_roundw
                    case rel => exact ⟨s + 1, by omega, by go_num, by rw [HNX.out]; rfl, HX7⟩
                    case measure => simp [RowKit.intOf]; omega
                · obtain rfl : s = l.length := by omega
                  rw [HFA.out]
                  generalize wr = wp at *
                  go_wp2_with fail
                  go_loopw [15, 90] (fun _ v90 wr => ∃ s : Nat, s ≤ t ∧ v90 = .int .i64 s ∧ Hid (Ext wo wr)) (fun _ v90 _ => t - (RowKit.intOf v90).toNat)
                  case atStart => exact ⟨0, Nat.zero_le _, rfl, HXS⟩
                  case round =>
                    obtain ⟨s, hst, rfl, HXT⟩ := hrel
                    by_cases hs : s < t
                    · obtain ⟨A3, c3, HL3, hp3⟩ := HCG.out wr s hs HXT.out
                      have SM := Lib.hid (same_any _ _ x cs[s] wr (RL.ext HL2.out HXT.out) HL3.out)
                      rw [decide_eq_false (HDF.out s hs)] at SM
                      generalize cs[s].length = ny at *
                      go_wp2_with fail
                      refine SM.out.mono ?_
                      rintro e w7 ⟨rfl, m, rfl⟩
                      have HX7 := Lib.hid (HXT.out.drewN m)
                      clear hp3
                      go_wp2
                      go_roundw
                      case rel => exact ⟨s + 1, by omega, by go_num, HX7⟩
                      case measure => simp [RowKit.intOf]; omega
                    · obtain rfl : s = t := by omega
                      have HX7 := Lib.hid (HXr.out.trans HXT.out)
                      go_wp2
                      go_roundw
                      case rel => exact ⟨s + 1, by omega, by go_num, HX7⟩
                      case measure => simp [RowKit.intOf]; omega
            · obtain rfl : t = cs.length := by omega
              have hd1 : decide ((cs.length : Int) ≤ (k : Int)) = true := decide_eq_true (by omega)
              by_cases hk : cs.length = k
              · have hd2 : ((cs.length : Int) == (k : Int)) = true := by simp [hk]
                have HXE := Lib.hid (HX5.out.trans HXr.out)
                clear hk
                go_wp2_with fail
                refine (csane_any wr (HT.out.ext HXE.out)).mono ?_
                rintro e wz ⟨rfl, hxz⟩
                go_wp2
                go_ret
                exact ⟨rfl, HXE.out.trans hxz⟩
              · have hd2 : ((cs.length : Int) == (k : Int)) = false := by rw [beq_eq_false_iff_ne]; omega
                by_cases hl0 : l.length = 0
                · have hd3 : ((l.length : Int) == 0) = true := by simp [hl0]
                  have HXE := Lib.hid (HX5.out.trans HXr.out)
                  clear hk hl0
                  go_wp2_with fail
                  refine (csane_any wr (HT.out.ext HXE.out)).mono ?_
                  rintro e wz ⟨rfl, hxz⟩
                  go_wp2
                  go_ret
                  exact ⟨rfl, HXE.out.trans hxz⟩
                · have hd3 : ((l.length : Int) == 0) = false := by simp [hl0]
                  have HC0 : Hid (cost l cs = 0) := HGR.out.end_ HG.out.pn (fun x hx => pos_of_num (HG.out.wp x hx)) (by omega) (HEND.out.resolve_left hk)
                  have CO := Lib.hid (cost_any _ _ n l cs wr (CL.ext HCL.out HXr.out) (PL.ext HPL.out HXr.out) HG.out (by omega) (by rw [HC0.out]; exact zero_fit (by decide)) (HT.out.ext (HX5.out.trans HXr.out)))
                  rw [HC0.out, txt0] at CO
                  clear hk hl0
                  go_wp2_with fail
                  refine CO.out.mono ?_
                  rintro e w7 ⟨rfl, hx7⟩
                  have HXE := Lib.hid (HX5.out.trans (HXr.out.trans hx7))
                  go_wp2_with fail
                  refine (csane_any w7 (HT.out.ext HXE.out)).mono ?_
                  rintro e wz ⟨rfl, hxz⟩
                  go_wp2
                  go_ret
                  exact ⟨rfl, HXE.out.trans hxz⟩
  · have hd : decide (zs.length ≤ 600) = false := decide_eq_false hl
    rw [hd]
    go_wp2_with fail
    refine (csane_any w HT.out).mono ?_
    rintro e w1 ⟨rfl, hx1⟩
    go_wp2
    go_ret
    exact ⟨rfl, hx1⟩
end Go.Proofs.YtlfcicfebhjchaaGreatDoor
