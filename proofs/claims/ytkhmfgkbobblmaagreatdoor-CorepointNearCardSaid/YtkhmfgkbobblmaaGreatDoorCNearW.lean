/- joinlearnlaw27.CorepointNear, walked: it returns true. -/
import Derived.Test.YtkhmfgkbobblmaaGreatDoorCNear
import Derived.Test.YtkhmfgkbobblmaaGreatDoorLSane
namespace Go.Proofs.YtkhmfgkbobblmaaGreatDoor
open Go.RowKit Go.Lib

theorem near_first (p : List Rat) (cs : List (List Rat)) : ∀ k, 0 < k → k ≤ cs.length → ∃ i, ∃ h : i < cs.length, i < k ∧ (near p (cs.take k)).1 = (i : Int) ∧ (near p (cs.take k)).2 = dist p cs[i] ∧ (∀ j (hj : j < cs.length), j < k → dist p cs[i] ≤ dist p cs[j]) ∧ ∀ j (hj : j < cs.length), j < i → dist p cs[i] < dist p cs[j]
  | 0, h, _ => absurd h (by omega)
  | k + 1, _, h => by
    rw [near_next (by omega)]
    rcases Nat.eq_zero_or_pos k with h0 | h0
    · subst h0
      have e : near p (cs.take 0) = (-1, 0) := rfl
      rw [nearer_pos (by rw [e]; exact Or.inl (by decide))]
      refine ⟨0, by omega, by omega, rfl, rfl, fun j hj hj1 => ?_, fun j hj hj1 => by omega⟩
      obtain rfl : j = 0 := by omega
      exact Rat.le_refl
    · obtain ⟨i, hi, h1, h2, h3, h4, h5⟩ := near_first p cs k h0 (by omega)
      by_cases hc : dist p cs[k] < (near p (cs.take k)).2
      · rw [nearer_pos (Or.inr hc)]
        rw [h3] at hc
        refine ⟨k, by omega, by omega, rfl, rfl, fun j hj hj1 => ?_, fun j hj hj1 => ?_⟩
        · rcases Nat.lt_or_ge j k with hjk | hjk
          · have := h4 j hj hjk
            grind
          · obtain rfl : j = k := by omega
            exact Rat.le_refl
        · have := h4 j hj hj1
          grind
      · rw [nearer_neg (fun hh => hh.elim (fun hh => by omega) hc)]
        rw [h3] at hc
        refine ⟨i, hi, by omega, h2, h3, fun j hj hj1 => ?_, h5⟩
        rcases Nat.lt_or_ge j k with hjk | hjk
        · exact h4 j hj hjk
        · obtain rfl : j = k := by omega
          exact Rat.not_lt.1 hc
theorem dist_one (x y : Rat) : dist [x] [y] = (x - y) * (x - y) := by
  show 0 + _ = _
  rw [Rat.zero_add]
theorem sgn_ge {q : Rat} (h : 0 ≤ q) : ¬ q.num.sign < 0 := by
  have h1 := (@Rat.num_nonneg q).2 h
  rcases Int.lt_trichotomy q.num 0 with h' | h' | h'
  · omega
  · rw [h']; decide
  · rw [Int.sign_eq_one_of_pos h']; decide
theorem sgn_ne {q : Rat} (h : 0 < q) : q.num.sign ≠ 0 := by
  rw [Int.sign_eq_one_of_pos (ratP_num h)]; decide
theorem near_law {l : List Rat} {x : Rat} (h : 0 < l.length) : ∃ k, ∃ hk : k < l.length, (near [x] (pts l)).1 = (k : Int) ∧ ∀ i (hi : i < l.length), ¬ ((l[i] - x) * (l[i] - x) - (l[k] - x) * (l[k] - x)).num.sign < 0 ∧ (i < k → ((l[i] - x) * (l[i] - x) - (l[k] - x) * (l[k] - x)).num.sign ≠ 0) := by
  obtain ⟨k, hk, h1, h2, _, h4, h5⟩ := near_first [x] (pts l) l.length h (by rw [pts_length]; exact Nat.le_refl _)
  rw [List.take_of_length_le (by rw [pts_length]; exact Nat.le_refl _)] at h2
  refine ⟨k, h1, h2, fun i hi => ⟨sgn_ge ?_, fun hik => sgn_ne ?_⟩⟩
  · have := h4 i (by rw [pts_length]; exact hi) hi
    rw [pts_get h1, pts_get hi, dist_one, dist_one] at this
    grind
  · have := h5 i (by rw [pts_length]; exact hi) hik
    rw [pts_get h1, pts_get hi, dist_one, dist_one] at this
    grind
set_option maxRecDepth 100000 in
set_option maxHeartbeats 1000000 in
theorem cnear_walk (t : TypeId) (A : Option Addr) (zs : List Int) (c : Nat) (w : World) (hc : zs.length ≤ c) (hm : c ≤ 9223372036854775807) (hs : Sl w t A (zcells zs)) (hz : ∀ z ∈ zs, -9223372036854775808 ≤ z ∧ z ≤ 9223372036854775807) (ht : Tab w) :
    Calls Tryz.prog 6 #[.slice A zs.length c] w fun e w' => e = .returned (.bool true) ∧ Ext w w' := by
  have HS := Lib.hid hs
  have HZ := Lib.hid hz
  have HT := Lib.hid ht
  clear hs hz ht
  go_enter Tryz.func6, Tryz.ntmps6
  go_wp2_with fail
  refine (light_any A zs.length c w (by omega)).mono ?_
  rintro e w0 ⟨rfl, rfl⟩
  by_cases hl : zs.length ≤ 600
  · have hd : decide (zs.length ≤ 600) = true := decide_eq_true hl
    rw [hd]
    go_wp2_with fail
    refine (mnew_any t A zs c w hc hm hl HS.out HZ.out).mono ?_
    rintro e w1 ⟨rfl, hsrc1, hx1⟩
    clear hd
    go_wp2_with fail
    refine (n_any w.heap.size 6 w1 hsrc1 (by decide) (by decide)).mono ?_
    rintro e w2 ⟨n, hn6, rfl, hs2, ho2⟩
    have HX2 := Lib.hid (hx1.only ho2 (Nat.le_refl _))
    clear hx1 ho2 hsrc1 hl
    go_wp2_with fail
    refine (mrats_any w.heap.size n w2 hs2 (by omega)).mono ?_
    rintro e w3 ⟨Al, cl, l, hll, fl, rfl, hrl, hs3, ho3⟩
    have HX3 := Lib.hid (HX2.out.only ho3 (Nat.le_refl _))
    have HFL := Lib.hid fl
    clear ho3 hs2 fl
    go_wp2_with fail
    refine (mrat_any w.heap.size w3 hs3).mono ?_
    rintro e w4 ⟨q, fq, rfl, hs4, ho4⟩
    have HX4 := Lib.hid (HX3.out.only ho4 (Nat.le_refl _))
    have HRL4 : Hid (RL w4 (.slice Al n cl) l) := Ls.kept RatR.stab hrl (Src.keptA hs3 ho4) (by decide)
    have FQ := Lib.hid fq
    have CN := Lib.hid (cNear_any _ l q w4 HRL4.out (fun x hx => (HFL.out x hx).mono (by decide)) (FQ.out.mono (by decide)) (by omega))
    obtain ⟨-, -, hcm⟩ := cap_le HRL4.out
    clear ho4 hs3 hs4 hrl fq HX2 HX3
    obtain ⟨tq, htq⟩ : ∃ tq, ratText q = tq := ⟨_, rfl⟩
    have HTQ := Lib.hid htq
    have RQ : Hid (∀ w', Calls Tryz.prog 23 #[.string ⟨tq.toArray⟩] w' fun e w'' => ∃ v, e = .returned v ∧ RFrac w'' v q ∧ Ext w' w'') := fun w' => by
      have h := r2read_any q w' (e := 1) FQ.out (by decide)
      rw [HTQ.out] at h
      exact h
    rw [htq] at CN ⊢
    clear htq
    by_cases hn0 : n = 0
    · subst hn0
      obtain rfl : l = [] := List.eq_nil_of_length_eq_zero hll
      rw [show (near [q] (pts [])).1 = -1 from rfl] at CN
      go_wp2_with fail
      refine CN.out.mono ?_
      rintro e w5 ⟨rfl, hx5⟩
      go_wp2_with fail
      refine (lsane_any w5 (HT.out.ext (HX4.out.trans hx5))).mono ?_
      rintro e w6 ⟨rfl, hx6⟩
      go_wp2
      go_ret
      exact ⟨rfl, HX4.out.trans (hx5.trans hx6)⟩
    · have hn1 : ((n : Int) == 0) = false := by rw [beq_eq_false_iff_ne]; omega
      obtain ⟨k, hk, hnk, hlaw⟩ := near_law (l := l) (x := q) (by omega)
      have HLAW := Lib.hid hlaw
      rw [hnk] at CN
      obtain ⟨g, o, rfl, _, hck⟩ := RL.get HRL4.out hk
      have HMK := List.getElem_mem hk
      have FY := Lib.hid (HFL.out _ HMK)
      have hkn : k < n := by omega
      have hkd : decide ((k : Int) < 0) = false := decide_eq_false (by omega)
      have hkd' : decide (n ≤ k) = false := decide_eq_false (by omega)
      clear hlaw hnk HMK
      generalize l[k] = y at *
      go_wp2_with fail
      refine CN.out.mono ?_
      rintro e w5 ⟨rfl, hx5⟩
      have HX5 := Lib.hid (HX4.out.trans hx5)
      have HRL5 := Lib.hid (RL.ext HRL4.out hx5)
      obtain ⟨g', o', e', hgw, hck5⟩ := RL.get HRL4.out hk
      clear e' hck5
      have hck5 := (hx5.cell (p := ⟨g, o + k, none⟩) (by first | exact hgw | omega)).trans hck
      clear hck hgw
      go_wp2_with fail
      refine (r2read_any y w5 (e := 1) FY.out (by decide)).mono ?_
      rintro e w6 ⟨v6, rfl, hv6, hx6⟩
      go_wp2_with fail
      refine (RQ.out w6).mono ?_
      rintro e w7 ⟨v7, rfl, hv7, hx7⟩
      go_wp2_with fail
      refine (rfsub_any v6 v7 y q w7 (hv6.ext hx7) hv7 FY.out FQ.out (by decide)).mono ?_
      rintro e w8 ⟨v8, rfl, hv8, hx8⟩
      obtain ⟨a0, A0, a1, a2, b0, B0, b1, b2, rfl, _, _⟩ := hv8.parts
      have hy8 := hx6.trans (hx7.trans hx8)
      have HX8 := Lib.hid (HX5.out.trans hy8)
      have HRL8 := Lib.hid (RL.ext HRL5.out hy8)
      have FM : Hid (FitQ 5 (y - q)) := FY.out.sub FQ.out
      clear hx5 HX5 HRL5 hx6 hx7 hx8 hy8 hv6 hv7 hck5 CN HRL4 HX4 hn1 hkd hkd' hk hn0
      go_upto_region 11 with fail
      refine newrbox (P := fun W => Code.wp _ _ _ _ W) hv8 fun W HXW HBM => ?_
      have HXX := Lib.hid (HX8.out.trans HXW.out)
      have HRW := Lib.hid (RL.ext HRL8.out HXW.out)
      clear hv8 HX8 HRL8 HXW
      go_wp2_with fail
      go_loopw [8, 9, 10, 52] (fun _ _ _ v52 wr => ∃ i : Nat, i ≤ n ∧ v52 = .int .i64 i ∧ Hid (Ext W wr)) (fun _ _ _ v52 _ => n - (RowKit.intOf v52).toNat)
      case atStart => exact ⟨0, Nat.zero_le _, rfl, Ext.refl _⟩
      case round =>
        obtain ⟨i, hi, rfl, HXr⟩ := hrel
        by_cases hin : i < n
        · have hil : i < l.length := by omega
          obtain ⟨g', o', e', _, hci⟩ := RL.get (RL.ext HRW.out HXr.out) hil
          injection e' with e'
          injection e' with e1 e2
          subst e1 e2
          have HL := Lib.hid (HLAW.out i hil)
          have FZ := Lib.hid (HFL.out _ (List.getElem_mem hil))
          generalize l[i] = z at *
          clear hil
          go_wp2_with fail
          refine (r2read_any z wr (e := 1) FZ.out (by decide)).mono ?_
          rintro e w6 ⟨v6, rfl, hv6, hx6⟩
          go_wp2_with fail
          refine (RQ.out w6).mono ?_
          rintro e w7 ⟨v7, rfl, hv7, hx7⟩
          go_wp2_with fail
          refine (rfsub_any v6 v7 z q w7 (hv6.ext hx7) hv7 FZ.out FQ.out (by decide)).mono ?_
          rintro e w8' ⟨v8, rfl, hv8, hx8⟩
          obtain ⟨a0, A0, a1, a2, b0, B0, b1, b2, rfl, _, _⟩ := hv8.parts
          have HX8 := Lib.hid (HXr.out.trans (hx6.trans (hx7.trans hx8)))
          have FD : Hid (FitQ 5 (z - q)) := FZ.out.sub FQ.out
          clear hx6 hx7 hx8 hv6 hv7 hci
          go_upto_region 15 with fail
          refine newrbox (P := fun W => Code.wp _ _ _ _ W) hv8 fun W3 HXW HBD => ?_
          have HX3 := Lib.hid (HX8.out.trans HXW.out)
          have HBM3 := Lib.hid (HBM.out.ext HX3.out)
          obtain ⟨x0, X0, x1, x2, y0, Y0, y1, y2, BD, VD⟩ := HBD.out.parts
          obtain ⟨z0, Z0, z1, z2, t0, T0, t1, t2, BM, VM⟩ := HBM3.out.parts
          clear hv8 HX8 HXW HBD HBM3
          have HSI : Hid (∀ w', Ext W3 w' → (w'.cell? ⟨w8'.heap.size, 0, none⟩ = some (.bool x0) ∧ w'.cell? ⟨w8'.heap.size, 0 + 1, none⟩ = some (.slice X0 x1 x2) ∧ w'.cell? ⟨w8'.heap.size, 0 + 2, none⟩ = some (.bool y0) ∧ w'.cell? ⟨w8'.heap.size, 0 + 3, none⟩ = some (.slice Y0 y1 y2)) ∧ (w'.cell? ⟨w8.heap.size, 0, none⟩ = some (.bool z0) ∧ w'.cell? ⟨w8.heap.size, 0 + 1, none⟩ = some (.slice Z0 z1 z2) ∧ w'.cell? ⟨w8.heap.size, 0 + 2, none⟩ = some (.bool t0) ∧ w'.cell? ⟨w8.heap.size, 0 + 3, none⟩ = some (.slice T0 t1 t2))) := fun w' hx => ⟨(BD.out.ext hx).four, (BM.out.ext hx).four⟩
          have HS0 : Hid (Ext W3 W3.drew) := (Ext.refl W3).drew
          refine AnyT.start (S := fun w' => Ext W3 w') (T := fun _ => false) (by kernel_rfl) ?_
          refine AnyT.loadD 0 63 ?_ rfl (by kernel_rfl) (by kernel_rfl) (by kernel_rfl) (by kernel_rfl) (by kernel_rfl) (fun _ _ _ h => h) HS0.out ?_ ?_
          rotate_left
          · intro o ho
            simp only [List.getElem?_toArray, List.getElem?_cons_zero, Option.some.injEq] at ho
            subst ho
            refine ⟨rfl, rfl, fun w' hSw => ?_⟩
            have hs := HSI.out w' hSw
            go_split_ands
            go_simp
            try (first | exact rfl | omega | go_num | (intro hbd; exfalso; omega))
          simp only [Act.put, List.setIfInBounds_toArray, List.set_cons_zero, List.set_cons_succ]
          refine AnyT.loadD 1 64 ?_ rfl (by kernel_rfl) (by kernel_rfl) (by kernel_rfl) (by kernel_rfl) (by kernel_rfl) (fun _ _ _ h => h) HS0.out ?_ ?_
          rotate_left
          · intro o ho
            simp only [List.getElem?_toArray, List.getElem?_cons_succ, List.getElem?_cons_zero, Option.some.injEq] at ho
            subst ho
            refine ⟨rfl, rfl, fun w' hSw => ?_⟩
            have hs := HSI.out w' hSw
            go_split_ands
            go_simp
            try (first | exact rfl | omega | go_num | (intro hbd; exfalso; omega))
          simp only [Act.put, List.setIfInBounds_toArray, List.set_cons_zero, List.set_cons_succ]
          refine AnyT.loadD 3 66 ?_ rfl (by kernel_rfl) (by kernel_rfl) (by kernel_rfl) (by kernel_rfl) (by kernel_rfl) (fun _ _ _ h => h) HS0.out ?_ ?_
          rotate_left
          · intro o ho
            simp only [List.getElem?_toArray, List.getElem?_cons_succ, List.getElem?_cons_zero, Option.some.injEq] at ho
            subst ho
            refine ⟨rfl, rfl, fun w' hSw => ?_⟩
            have hs := HSI.out w' hSw
            go_split_ands
            go_simp
            try (first | exact rfl | omega | go_num | (intro hbd; exfalso; omega))
          simp only [Act.put, List.setIfInBounds_toArray, List.set_cons_zero, List.set_cons_succ]
          refine AnyT.loadD 4 67 ?_ rfl (by kernel_rfl) (by kernel_rfl) (by kernel_rfl) (by kernel_rfl) (by kernel_rfl) (fun _ _ _ h => h) HS0.out ?_ ?_
          rotate_left
          · intro o ho
            simp only [List.getElem?_toArray, List.getElem?_cons_succ, List.getElem?_cons_zero, Option.some.injEq] at ho
            subst ho
            refine ⟨rfl, rfl, fun w' hSw => ?_⟩
            have hs := HSI.out w' hSw
            go_split_ands
            go_simp
            try (first | exact rfl | omega | go_num | (intro hbd; exfalso; omega))
          simp only [Act.put, List.setIfInBounds_toArray, List.set_cons_zero, List.set_cons_succ]
          refine AnyT.step 2 (by kernel_rfl) ?_
          intro o ho K hK
          simp only [List.getElem?_toArray, List.getElem?_cons_succ, List.getElem?_cons_zero, Option.some.injEq] at ho
          subst ho
          go_simp
          refine (rfmul_any _ _ _ _ _ (VD.out.ext HS0.out) (VD.out.ext HS0.out) FD.out FD.out (by decide)).mono ?_
          rintro e w9 ⟨v9, rfl, hv9, hx9⟩
          have hy9 := HS0.out.trans hx9
          refine hK.out _ _ (fun _ => hy9) ?_
          clear HS0
          refine AnyT.step 5 (by kernel_rfl) ?_
          intro o ho K hK
          simp only [List.getElem?_toArray, List.getElem?_cons_succ, List.getElem?_cons_zero, Option.some.injEq] at ho
          subst ho
          go_simp
          refine (rfmul_any _ _ _ _ _ (VM.out.ext hy9) (VM.out.ext hy9) FM.out FM.out (by decide)).mono ?_
          rintro e wa ⟨va, rfl, hva, hxa⟩
          have hya := hy9.trans hxa
          refine hK.out _ _ (fun _ => hya) ?_
          refine AnyT.step 6 (by kernel_rfl) ?_
          intro o ho K hK
          simp only [List.getElem?_toArray, List.getElem?_cons_succ, List.getElem?_cons_zero, Option.some.injEq] at ho
          subst ho
          go_simp
          refine (rfsub_any _ _ _ _ _ (hv9.ext hxa) hva (FD.out.mul FD.out) (FM.out.mul FM.out) (by decide)).mono ?_
          rintro e wb ⟨vb, rfl, hvb, hxb⟩
          have hyb := hya.trans hxb
          refine hK.out _ _ (fun _ => hyb) ?_
          refine AnyT.step 7 (by kernel_rfl) ?_
          intro o ho K hK
          simp only [List.getElem?_toArray, List.getElem?_cons_succ, List.getElem?_cons_zero, Option.some.injEq] at ho
          subst ho
          go_simp
          refine (rfsign_any _ _ _ hvb).mono ?_
          rintro e wc ⟨rfl, hxc⟩
          have HS0 := Lib.hid (hyb.trans hxc)
          have HXc := Lib.hid (HX3.out.trans HS0.out)
          refine hK.out _ _ (fun _ => HS0.out) ?_
          clear hy9 hya hyb hx9 hxa hxb hxc hv9 hva hvb
          generalize ((z - q) * (z - q) - (y - q) * (y - q)).num.sign = s at *
          refine AnyT.loadD 8 10 ?_ rfl (by kernel_rfl) (by kernel_rfl) (by kernel_rfl) (by kernel_rfl) (by kernel_rfl) (fun _ _ _ h => h) HS0.out ?_ ?_
          rotate_left
          · intro o ho
            simp only [List.getElem?_toArray, List.getElem?_cons_succ, List.getElem?_cons_zero, Option.some.injEq] at ho
            subst ho
            refine ⟨rfl, rfl, fun w' hSw => ?_⟩
            have hs := HSI.out w' hSw
            go_split_ands
            go_simp
            try (first | exact rfl | omega | go_num | (intro hbd; exfalso; omega))
          simp only [Act.put, List.setIfInBounds_toArray, List.set_cons_zero, List.set_cons_succ]
          refine AnyT.done (by kernel_rfl) ?_
          clear HSI HS0 BD BM VD VM
          have hs1 : decide (s < 0) = false := decide_eq_false (Int.not_lt.2 HL.out.1)
          by_cases hs0 : s = 0
          · have hik : decide (i < k) = false := decide_eq_false fun h => HL.out.2 h hs0
            subst hs0
            go_wp2_with fail
            go_roundw
            case rel => exact ⟨i + 1, by omega, by go_num, HXc⟩
            case measure => simp [RowKit.intOf]; omega
          · have hs2 : (s == 0) = false := by rw [beq_eq_false_iff_ne]; exact hs0
            go_wp2_with fail
            go_roundw
            case rel => exact ⟨i + 1, by omega, by go_num, HXc⟩
            case measure => simp [RowKit.intOf]; omega
        · obtain rfl : i = n := by omega
          go_wp2_with fail
          refine (lsane_any wr (HT.out.ext (HXX.out.trans HXr.out))).mono ?_
          rintro e w9 ⟨rfl, hx9⟩
          go_wp2
          go_ret
          exact ⟨rfl, HXX.out.trans (HXr.out.trans hx9)⟩
  · have hd : decide (zs.length ≤ 600) = false := decide_eq_false hl
    rw [hd]
    go_wp2_with fail
    refine (lsane_any w HT.out).mono ?_
    rintro e w1 ⟨rfl, hx1⟩
    go_wp2
    go_ret
    exact ⟨rfl, hx1⟩
end Go.Proofs.YtkhmfgkbobblmaaGreatDoor
