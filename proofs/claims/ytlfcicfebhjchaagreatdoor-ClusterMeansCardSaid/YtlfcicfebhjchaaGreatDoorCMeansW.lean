/- joinlearnlaw28.ClusterMeans, walked: it returns true. -/
import Derived.Test.YtlfcicfebhjchaaGreatDoorCSane
import Derived.Test.YtlfcicfebhjchaaGreatDoorTight
namespace Go.Proofs.YtlfcicfebhjchaaGreatDoor
open Go.RowKit Go.Lib

set_option maxRecDepth 100000 in
set_option maxHeartbeats 4000000 in
theorem cores_own (g n most : Nat) (w : World) (h : SrcAt w g) (hn : n ≤ 3) (hm : most ≤ 100) :
    Calls Tryz.prog 12 #[.pointer (some ⟨g, 0, none⟩), .int .i64 n, .int .i64 most] w fun e w' => ∃ A c l, l.length ≤ most ∧ (∀ x ∈ l, x.1.length = n ∧ (∀ q ∈ x.1, IntP q) ∧ Wt x.2) ∧ e = .returned (.slice A l.length c) ∧ OwnL tCore 2 CoR w.heap.size w' (.slice A l.length c) l ∧ SrcAt w' g ∧ Only g w w' := by
  have H0 := Lib.hid (n_any g (most + 1) w h (by omega) (by omega))
  have hg := h.lt
  clear h
  rw [show ((most + 1 : Nat) : Int) = (most : Int) + 1 by omega] at H0
  go_enter Tryz.func12, Tryz.ntmps12
  go_wp2_with fail
  refine H0.out.mono ?_
  rintro e w1 ⟨r, hr, rfl, hs1, ho1⟩
  have HS := Lib.hid hs1
  have HO := Lib.hid ho1
  clear hs1 ho1 H0
  go_wp2_with fail
  go_loopw [7, 8] (fun v7 v8 wr => ∃ (k : Nat) (l : List Pt), k ≤ r ∧ v8 = .int .i64 k ∧ l.length + k = r ∧ Hid (∀ x ∈ l, x.1.length = n ∧ (∀ q ∈ x.1, IntP q) ∧ Wt x.2) ∧ Hid (OwnL tCore 2 CoR w.heap.size wr v7 l) ∧ Hid (SrcAt wr g) ∧ Hid (Only g w wr)) (fun _ v8 _ => (RowKit.intOf v8).toNat)
  case atStart => exact ⟨r, [], Nat.le_refl _, rfl, by simp, (fun q hq => by cases hq), OwnL.nil, HS, HO⟩
  case round =>
    obtain ⟨k, l, hk, rfl, hpk, HP, HOw, HSr, HOn⟩ := hrel
    obtain ⟨A, c, xs, rfl, _, hcm, HR, HC⟩ := HOw.out.parts
    by_cases hk0 : k = 0
    · subst hk0
      go_wp2
      go_ret
      exact ⟨A, c, l, by omega, HP.out, rfl, HOw.out, HSr.out, HOn.out⟩
    · have hd : decide ((k : Int) > 0) = true := by rw [decide_eq_true_iff]; omega
      go_wp2_with fail
      refine (place_any g n wr HSr.out hn).mono ?_
      rintro e w2 ⟨A1, c1, p, hpn, hpi, rfl, hrl, hs2, ho2⟩
      have HPN := Lib.hid hpn
      have HPI := Lib.hid hpi
      have hg2 : g < w2.heap.size := hs2.lt
      clear hpn hpi
      go_wp2_with fail
      have BL := Blk.new w2 tStr wts
      have hxl : Ext w2 (w2.alloc (.cells wts.toArray tStr)) := (Ext.refl w2).alloc _
      refine (mtext_any g w2.heap.size wts _ (hs2.ext hxl) BL (by omega) (by decide) (by decide)).mono ?_
      rintro e w3 ⟨u, hu, rfl, hs3, ho3⟩
      obtain ⟨q, hq, rfl⟩ := wts_text hu
      have hoA : Only g w2 w3 := (Only.of_ext hxl).trans ho3
      have hoB := ho2.trans hoA
      have hkA : Kept tRat w2 w3 := (Kept.of_below hxl).trans (Src.kept (hs2.ext hxl) ho3 (by decide))
      have O2 := Lib.hid (HOw.out.only CoR.stab hoB hg (fun u hu => by simp only [List.mem_singleton] at hu; subst hu; exact (Src.kept HSr.out ho2 (by decide)).trans hkA))
      have S2 := Lib.hid hs3
      have N2 := Lib.hid (HOn.out.trans hoB)
      have HRL := Lib.hid (hrl.keep RatR.stab (fun u hu => by simp only [List.mem_singleton] at hu; subst hu; exact hkA))
      have HWT := Lib.hid hq
      obtain ⟨A', c', xs', e, _, _, HR2, HC2⟩ := O2.out.parts
      injection e with e1 _ e2
      subst e1 e2
      have hw2 : w.heap.size ≤ w3.heap.size := N2.out.size
      have hbt : (l.length + 1) * 40 ≤ 140737488355328 := by omega
      clear hd ho2 hs2 O2 hrl ho3 hs3 hxl BL hoA hoB hkA hq hu hg2
      generalize htq : ratText q = tq at *
      have HTQ := Lib.hid htq
      clear htq
      go_wp2_with (at_builtin; refine wpList_app1 rfl _ _ 28 rfl w.heap.size core_slice _ _ _ rfl HR2.out #[.slice A1 n c1, .string ⟨tq.toArray⟩] 1 1 rfl rfl rfl hbt hw2 ?_)
      intro v' w4 ho4 hg4 _
      have O3 := Lib.hid (OwnL.snoc (R := CoR) (x := (p, q)) CoR.stab (by decide) HR2.out HC2.out ⟨A1, c1, by rw [HPN.out, HTQ.out], by rw [HPN.out]; exact HRL.out⟩ ho4 hg4)
      have S3 := Lib.hid (S2.out.grown hg4 (fun k hk => by have := (HR2.out.lt k hk).1; omega))
      have N3 := Lib.hid (N2.out.grown HR2.out hg4)
      clear ho4 hg4
      go_wp2
      go_roundw
      case rel => exact ⟨k - 1, l ++ [(p, q)], by omega, by rw [Int.natCast_sub (by omega)]; rfl, by simp; omega, (fun x hx => by
          rcases List.mem_append.1 hx with h | h
          · exact HP.out x h
          · rw [List.mem_singleton.1 h]; exact ⟨HPN.out, HPI.out, HWT.out⟩), O3, S3, N3⟩
      case measure => simp [RowKit.intOf]; omega
theorem pl_one {w : World} {g : Nat} {A : Option Addr} {n c : Nat} {p : List Rat} (hn : p.length = n) (h : Blk w g tRats [.slice A n c]) (h' : RL w (.slice A n c) p) : PL w (.slice (some ⟨g, 0, none⟩) 1 1) [p] := by
  subst hn
  exact Ls.of_blk (l := [p]) h ⟨_, [], rfl, ⟨_, _, rfl, h'⟩, rfl⟩ (by simp)
theorem mean_still {n : Nat} {l : List Pt} {c : List Rat} (hw : ¬ sumW l (fun x => x.2) = 0) : stepF n l (stepF n l [c]) = stepF n l [c] := by
  have h : (stepF n l [c]).length = 1 := by rw [stepF_length]; rfl
  generalize hm : stepF n l [c] = m at *
  rcases m with _ | ⟨q, _ | ⟨r, m⟩⟩
  · simp at h
  · rw [step_one q c hw, hm]
  · simp at h
theorem made_tight1 {n : Nat} {p : List Rat} (hn : p.length = n) (hp : ∀ q ∈ p, IntP q) : Tight n [p] := tight_made (by simp) fun c hc => by rw [List.mem_singleton.1 hc]; exact ⟨hn, hp⟩
theorem run_still {n : Nat} {l : List Pt} {cs : List (List Rat)} (h : stepF n l cs = cs) (k : Nat) : runF n l k cs = (cs, 0) := by
  cases k with
  | zero => rfl
  | succ k => rw [runF, if_pos h.symm]
set_option maxRecDepth 100000 in
set_option maxHeartbeats 4000000 in
theorem cmeans_walk (t : TypeId) (A : Option Addr) (zs : List Int) (c : Nat) (w : World) (hc : zs.length ≤ c) (hm : c ≤ 9223372036854775807) (hs : Sl w t A (zcells zs)) (hz : ∀ z ∈ zs, -9223372036854775808 ≤ z ∧ z ≤ 9223372036854775807) (ht : Tab w) :
    Calls Tryz.prog 6 #[.slice A zs.length c] w fun e w' => e = .returned (.bool true) ∧ Ext w w' := by
  have HS := Lib.hid hs
  have HZ := Lib.hid hz
  have HT := Lib.hid ht
  clear hs hz ht
  go_enter Tryz.func6, Tryz.ntmps6
  go_wp2_with fail
  refine (light_any A zs.length c w (by omega)).mono ?_
  rintro e w0 ⟨rfl, rfl⟩
  by_cases hl : zs.length ≤ 600
  · have hd : decide (zs.length ≤ 600) = true := decide_eq_true hl
    rw [hd]
    go_wp2_with fail
    refine (mnew_any t A zs c w hc hm hl HS.out HZ.out).mono ?_
    rintro e w1 ⟨rfl, hsrc1, hx1⟩
    clear hd
    go_wp2_with fail
    refine (range_any w.heap.size 1 2 w1 hsrc1 (by decide) (by decide)).mono ?_
    rintro e w2 ⟨n, hn1, hn2, rfl, hsrc2, ho2⟩
    have hn3 : n ≤ 3 := by omega
    have HX2 := Lib.hid (hx1.only ho2 (Nat.le_refl _))
    have hgw2 : w.heap.size < w2.heap.size := hsrc2.lt
    clear hx1 ho2 hsrc1 hl
    go_wp2_with fail
    refine (cores_own w.heap.size n 5 w2 hsrc2 hn3 (by decide)).mono ?_
    rintro e w3 ⟨Al, cl, l, hll, hml, rfl, hcl, hs3, ho3⟩
    have HX3 := Lib.hid (HX2.out.only ho3 (Nat.le_refl _))
    have HML : Hid (MadeL n l) := hml
    clear hsrc2 hml
    go_wp2_with fail
    refine (place_any w.heap.size n w3 hs3 hn3).mono ?_
    rintro e w4 ⟨A1, c1, p, hpn, hpi, rfl, hrl, hs4, ho4⟩
    have HX4 := Lib.hid (HX3.out.only ho4 (Nat.le_refl _))
    have O4 := Lib.hid (hcl.only CoR.stab ho4 hgw2 (fun u hu => by simp only [List.mem_singleton] at hu; subst hu; exact Src.kept hs3 ho4 (by decide)))
    have HRL := Lib.hid hrl
    have HPN := Lib.hid hpn
    have HPI := Lib.hid hpi
    have S4 := Lib.hid hs4
    obtain ⟨A', c', xs4, e, _, _, HR4, HC4⟩ := O4.out.parts
    injection e with e1 _ e2
    subst e1 e2
    have hw4 : w2.heap.size ≤ w4.heap.size := Nat.le_trans ho3.size ho4.size
    have hbt : (l.length + 1) * 40 ≤ 140737488355328 := by omega
    clear hcl ho3 ho4 hs3 hs4 hrl hpn hpi
    go_wp2_with (at_builtin; refine wpList_app1 rfl _ _ 28 rfl w2.heap.size core_slice _ _ _ rfl HR4.out #[.slice A1 n c1, .string ⟨#[49]⟩] 1 1 rfl rfl rfl hbt hw4 ?_)
    intro v' w5 ho5 hg5 _
    have O5 := Lib.hid (OwnL.snoc (R := CoR) (x := (p, 1)) CoR.stab (by decide) HR4.out HC4.out ⟨A1, c1, by rw [HPN.out, txt1], by rw [HPN.out]; exact HRL.out⟩ ho5 hg5)
    have S5 := Lib.hid (S4.out.grown hg5 (fun k hk => by have := (HR4.out.lt k hk).1; omega))
    have HX5 := Lib.hid (grown_below HX4.out HR4.out hg5 (by omega))
    have HM5 : Hid (MadeL n (l ++ [(p, 1)])) := fun x hx => by
      rcases List.mem_append.1 hx with h | h
      · exact HML.out x h
      · rw [List.mem_singleton.1 h]; exact ⟨HPN.out, HPI.out, .inl rfl⟩
    have HL5 : Hid ((l ++ [(p, (1 : Rat))]).length = l.length + 1) := by simp [Hid]
    have HCL5 := Lib.hid O5.out.ls
    clear ho5 hg5 O4 O5 HR4 HC4 S4 HRL HX2 HX3 HX4
    obtain ⟨A5, c5, rfl, _, hc5, _⟩ := HCL5.out.parts
    generalize l ++ [(p, (1 : Rat))] = L at *
    have hL7 : L.length ≤ 7 := by rw [HL5.out]; omega
    have HSW : Hid (¬ sumW L (fun x => x.2) = 0) := sumW_pos (made_pos HM5.out) (by rw [HL5.out]; omega)
    clear HL5 hc5
    go_wp2_with fail
    refine (place_any w.heap.size n w5 S5.out hn3).mono ?_
    rintro e w6 ⟨A6, c6, p6, hpn6, hpi6, rfl, hrl6, hs6, ho6⟩
    have HX6 := Lib.hid (HX5.out.only ho6 (Nat.le_refl _))
    have hk6 := Src.kept (t := tRat) S5.out ho6 (by decide)
    have hk6' := Src.kept (t := tCore) S5.out ho6 (by decide)
    have HCL6 : Hid (CL w6 (.slice A5 L.length c5) L) := HCL5.out.keep CoR.stab (fun u hu => by
      simp only [List.mem_cons, List.not_mem_nil, or_false] at hu
      rcases hu with rfl | rfl
      · exact hk6'
      · exact hk6)
    have HT6 := Lib.hid (made_tight1 hpn6 hpi6)
    have HM1 : Hid ((stepF n L [p6]).length = 1) := by rw [Hid, stepF_length]; rfl
    have HTM := Lib.hid (tight_step hL7 HM5.out HT6.out)
    have ST1 : Hid (∀ v w', CL w' (.slice A5 L.length c5) L → PL w' v [p6] → Ext w w' → Calls Tryz.prog 20 #[.slice A5 L.length c5, v] w' fun e w'' => ∃ A c, e = .returned (.slice A 1 c) ∧ PL w'' (.slice A 1 c) (stepF n L [p6]) ∧ Ext w' w'') :=
      fun v w' h1 h2 hx => kstep_any _ v n L [p6] w' h1 h2 (tight_good hn1 hn3 hL7 HM5.out HT6.out) (by omega) (fun p hp q hq => (HTM.out.2.2 p hp q hq).mono (by decide)) (HT.out.ext hx)
    have HRL6 := Lib.hid hrl6
    have HS6 := Lib.hid hs6
    have HPN6 := Lib.hid hpn6
    have HST := Lib.hid (mean_still (n := n) (c := p6) HSW.out)
    have HOT := Lib.hid (fun d => step_one (n := n) p6 d HSW.out)
    clear ho6 hk6 hk6' hrl6 hs6 hpn6 hpi6 HCL5 S5 HX5
    generalize stepF n L [p6] = m at *
    go_wp2_with fail
    refine box1 (P := fun W => Calls _ _ _ W _) fun W6 HXb BX => ?_
    refine (ST1.out _ W6 (CL.ext HCL6.out HXb.out) (pl_one HPN6.out BX.out (RL.ext HRL6.out HXb.out)) (HX6.out.trans HXb.out)).mono ?_
    rintro e w7 ⟨A7, c7, rfl, hp7, hx7⟩
    have hy7 := HXb.out.trans hx7
    have HX7 := Lib.hid (HX6.out.trans hy7)
    have HCL7 := Lib.hid (CL.ext HCL6.out hy7)
    have HS7 := Lib.hid (HS6.out.ext hy7)
    have HPM7 := Lib.hid hp7
    clear hp7 hx7 hy7 HXb BX ST1 HRL6 HS6 HPN6 HCL6
    go_wp2_with fail
    refine (place_any w.heap.size n w7 HS7.out hn3).mono ?_
    rintro e w8 ⟨A8, c8, p8, hpn8, hpi8, rfl, hrl8, hs8, ho8⟩
    have HX8 := Lib.hid (HX7.out.only ho8 (Nat.le_refl _))
    have hk8 := Src.kept (t := tRat) HS7.out ho8 (by decide)
    have hk8' := Src.kept (t := tCore) HS7.out ho8 (by decide)
    have hk8'' := Src.kept (t := tRats) HS7.out ho8 (by decide)
    have HCL8 : Hid (CL w8 (.slice A5 L.length c5) L) := HCL7.out.keep CoR.stab (fun u hu => by
      simp only [List.mem_cons, List.not_mem_nil, or_false] at hu
      rcases hu with rfl | rfl
      · exact hk8'
      · exact hk8)
    have HPM8 : Hid (PL w8 (.slice A7 1 c7) m) := HPM7.out.keep PR.stab (fun u hu => by
      simp only [List.mem_cons, List.not_mem_nil, or_false] at hu
      rcases hu with rfl | rfl
      · exact hk8''
      · exact hk8)
    have HT8 := Lib.hid (made_tight1 hpn8 hpi8)
    have HRL8 := Lib.hid hrl8
    have HPN8 := Lib.hid hpn8
    have hsg : (cost L m - cost L [p8]).num.sign ≤ 0 := by
      have h := step_falls (n := n) (l := L) (cs := [p8]) (fun x hx => (HM5.out x hx).1) HT8.out.2.1 (fun x hx => Rat.le_of_lt (made_pos HM5.out x hx))
      rw [← HOT.out p8] at h
      exact sub_le h
    have HGM := tight_good hn1 hn3 hL7 HM5.out HTM.out
    have HG8 := tight_good hn1 hn3 hL7 HM5.out HT8.out
    have F1 := tight_cost hn3 hL7 HM5.out HTM.out
    have F2 := tight_cost hn3 hL7 HM5.out HT8.out
    have RU : Hid (∀ w', Ext w8 w' → Calls Tryz.prog 26 #[.slice A5 L.length c5, .slice A7 1 c7, .int .i64 5] w' fun e w'' => ∃ A c, e = .returned (.tuple #[.slice A 1 c, .int .i64 0]) ∧ PL w'' (.slice A 1 c) m ∧ Ext w' w'') := fun w' hx => by
      have h := run_any (.slice A5 L.length c5) (.slice A7 1 c7) n 5 L m (fun cs => cs = m) w' (CL.ext HCL8.out hx) (PL.ext HPM8.out hx) rfl (fun cs e => by subst e; exact ⟨HGM, HST.out⟩) (by omega) (by decide) (HT.out.ext (HX8.out.trans hx))
      rw [run_still HST.out] at h
      simp only [HM1.out] at h
      exact h
    have ST2 : Hid (∀ w', Ext w8 w' → Calls Tryz.prog 20 #[.slice A5 L.length c5, .slice A7 1 c7] w' fun e w'' => ∃ A c, e = .returned (.slice A 1 c) ∧ PL w'' (.slice A 1 c) m ∧ Ext w' w'') := fun w' hx => by
      have h := kstep_any (.slice A5 L.length c5) (.slice A7 1 c7) n L m w' (CL.ext HCL8.out hx) (PL.ext HPM8.out hx) HGM (by omega) (by rw [HST.out]; exact fun p hp q hq => (HTM.out.2.2 p hp q hq).mono (by decide)) (HT.out.ext (HX8.out.trans hx))
      rw [HST.out, HM1.out] at h
      exact h
    have C1 := Lib.hid (fun w' (hx : Ext w8 w') => cost_any (.slice A5 L.length c5) (.slice A7 1 c7) n L m w' (CL.ext HCL8.out hx) (PL.ext HPM8.out hx) HGM (by omega) F1 (HT.out.ext (HX8.out.trans hx)))
    have C2 := Lib.hid (fun v w' (h : PL w' v [p8]) (hx : Ext w8 w') => cost_any (.slice A5 L.length c5) v n L [p8] w' (CL.ext HCL8.out hx) h HG8 (by omega) F2 (HT.out.ext (HX8.out.trans hx)))
    have RC := Lib.hid (fun w' => r2compare_any (cost L m) (cost L [p8]) w' F1 F2)
    have hdg : decide ((cost L m - cost L [p8]).num.sign ≤ 0) = true := decide_eq_true hsg
    clear ho8 hk8 hk8' hk8'' hrl8 hs8 hpn8 hpi8 HS7 HX7 HCL7 HPM7 HGM HG8 F1 F2 hsg HM1 HST HOT
    generalize (cost L m - cost L [p8]).num.sign = sg at *
    generalize ratText (cost L m) = t1 at *
    generalize ratText (cost L [p8]) = t2 at *
    go_wp2_with fail
    refine box1 (P := fun W => Calls _ _ _ W _) fun W8 HXb BX => ?_
    have HPO := Lib.hid (pl_one HPN8.out BX.out (RL.ext HRL8.out HXb.out))
    refine (RU.out W8 HXb.out).mono ?_
    rintro e w9 ⟨A9, c9, rfl, hp9, hx9⟩
    have HP9 := Lib.hid hp9
    have HY9 := Lib.hid (HXb.out.trans hx9)
    have HPO9 := Lib.hid (PL.ext HPO.out hx9)
    clear hp9 hx9 HXb BX HPO
    go_wp2_with fail
    refine (ST2.out w9 HY9.out).mono ?_
    rintro e wa ⟨Aa, ca, rfl, hpa, hxa⟩
    go_wp2_with fail
    refine (lists_any _ _ m m wa hpa (PL.ext HPM8.out (HY9.out.trans hxa))).mono ?_
    rintro e wb ⟨rfl, d, rfl⟩
    have hd : decide (m = m) = true := decide_eq_true rfl
    rw [hd]
    have HYB := Lib.hid ((HY9.out.trans hxa).drewN d)
    have HE9 := Lib.hid (hxa.drewN d)
    generalize wa.drewN d = wb at *
    clear hpa hxa hd
    go_wp2_with fail
    refine (lists_any _ _ m m wb (PL.ext HP9.out HE9.out) (PL.ext HPM8.out HYB.out)).mono ?_
    rintro e wc ⟨rfl, d, rfl⟩
    have hd : decide (m = m) = true := decide_eq_true rfl
    rw [hd]
    have HYC := Lib.hid (HYB.out.drewN d)
    have HEC := Lib.hid (HE9.out.drewN d)
    generalize wb.drewN d = wc at *
    clear hd
    go_wp2_with fail
    refine (C1.out wc HYC.out).mono ?_
    rintro e wd ⟨rfl, hxd⟩
    go_wp2_with fail
    refine (C2.out _ wd (PL.ext HPO9.out (HEC.out.trans hxd)) (HYC.out.trans hxd)).mono ?_
    rintro e we ⟨rfl, hxe⟩
    go_wp2_with fail
    refine (RC.out we).mono ?_
    rintro e wf ⟨rfl, hxf⟩
    have hyf := HX8.out.trans (HYC.out.trans (hxd.trans (hxe.trans hxf)))
    go_wp2_with fail
    refine (csane_any wf (HT.out.ext hyf)).mono ?_
    rintro e wg ⟨rfl, hxg⟩
    go_wp2
    go_ret
    exact ⟨rfl, hyf.trans hxg⟩
  · have hd : decide (zs.length ≤ 600) = false := decide_eq_false hl
    rw [hd]
    go_wp2_with fail
    refine (csane_any w HT.out).mono ?_
    rintro e w1 ⟨rfl, hx1⟩
    go_wp2
    go_ret
    exact ⟨rfl, hx1⟩
end Go.Proofs.YtlfcicfebhjchaaGreatDoor
