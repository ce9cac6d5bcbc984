/- joinlearnlaw28.ClusterScales, walked: it returns true. -/
import Derived.Test.YtlfcicfebhjchaaGreatDoorCSane
import Derived.Test.YtlfcicfebhjchaaGreatDoorCPlain
namespace Go.Proofs.YtlfcicfebhjchaaGreatDoor
open Go.RowKit Go.Lib

set_option maxRecDepth 100000 in
set_option maxHeartbeats 4000000 in
theorem cscales_walk (t : TypeId) (A : Option Addr) (zs : List Int) (c : Nat) (w : World) (hc : zs.length ≤ c) (hm : c ≤ 9223372036854775807) (hs : Sl w t A (zcells zs)) (hz : ∀ z ∈ zs, -9223372036854775808 ≤ z ∧ z ≤ 9223372036854775807) (ht : Tab w) :
    Calls Tryz.prog 3 #[.slice A zs.length c] w fun e w' => e = .returned (.bool true) ∧ Ext w w' := by
  have HS := Lib.hid hs
  have HZ := Lib.hid hz
  have HT := Lib.hid ht
  clear hs hz ht
  go_enter Tryz.func3, Tryz.ntmps3
  go_wp2_with fail
  refine (light_any A zs.length c w (by omega)).mono ?_
  rintro e w0 ⟨rfl, rfl⟩
  by_cases hl : zs.length ≤ 600
  · have hd : decide (zs.length ≤ 600) = true := decide_eq_true hl
    rw [hd]
    go_wp2_with fail
    refine (mnew_any t A zs c w hc hm hl HS.out HZ.out).mono ?_
    rintro e w1 ⟨rfl, hsrc1, hx1⟩
    clear hd
    go_wp2_with fail
    refine (range_any w.heap.size 1 3 w1 hsrc1 (by decide) (by decide)).mono ?_
    rintro e w2 ⟨n, hn1, hn3, rfl, hsrc2, ho2⟩
    have HX2 := Lib.hid (hx1.only ho2 (Nat.le_refl _))
    clear hx1 ho2 hsrc1 hl
    go_wp2_with fail
    refine (cores_any w.heap.size n 6 w2 hsrc2 hn3 (by decide)).mono ?_
    rintro e w3 ⟨Al, cl, l, hll, hml, rfl, hcl, hs3, ho3⟩
    have HX3 := Lib.hid (HX2.out.only ho3 (Nat.le_refl _))
    have HML : Hid (MadeL n l) := hml
    clear ho3 hsrc2 hml
    go_wp2_with fail
    refine (places_any w.heap.size n 3 w3 hs3 hn3 (by decide)).mono ?_
    rintro e w4 ⟨Ac, cc, cs, hcn, hmc, rfl, hpl, hs4, ho4⟩
    have HX4 := Lib.hid (HX3.out.only ho4 (Nat.le_refl _))
    have HMC : Hid (MadeC n cs) := hmc
    have hk4 := Src.kept (t := tRat) hs3 ho4 (by decide)
    have hk4' := Src.kept (t := tCore) hs3 ho4 (by decide)
    have hcl4 : CL w4 (.slice Al l.length cl) l := hcl.keep CoR.stab (fun u hu => by
      simp only [List.mem_cons, List.not_mem_nil, or_false] at hu
      rcases hu with rfl | rfl
      · exact hk4'
      · exact hk4)
    clear ho4 hs3 hmc hk4 hk4' hcl
    go_wp2_with fail
    refine (range_any w.heap.size 1 9 w4 hs4 (by decide) (by decide)).mono ?_
    rintro e w5 ⟨k, hk1, hk9, rfl, hs5, ho5⟩
    have HX5 := Lib.hid (HX4.out.only ho5 (Nat.le_refl _))
    have hk5 := Src.kept (t := tRat) hs4 ho5 (by decide)
    have hk5' := Src.kept (t := tCore) hs4 ho5 (by decide)
    have hk5'' := Src.kept (t := tRats) hs4 ho5 (by decide)
    have hcl5 : CL w5 (.slice Al l.length cl) l := hcl4.keep CoR.stab (fun u hu => by
      simp only [List.mem_cons, List.not_mem_nil, or_false] at hu
      rcases hu with rfl | rfl
      · exact hk5'
      · exact hk5)
    have hpl5 : PL w5 (.slice Ac cs.length cc) cs := hpl.keep PR.stab (fun u hu => by
      simp only [List.mem_cons, List.not_mem_nil, or_false] at hu
      rcases hu with rfl | rfl
      · exact hk5''
      · exact hk5)
    clear ho5 hs4 hk5 hk5' hk5'' hcl4 hpl
    go_wp2_with fail
    refine (rwhole_any (k : Int) w5 (by omega) (by omega)).mono ?_
    rintro e w6 ⟨rfl, hx6⟩
    have HX6 := Lib.hid (HX5.out.trans hx6)
    have HCL := Lib.hid (CL.ext hcl5 hx6)
    have HPL := Lib.hid (PL.ext hpl5 hx6)
    have hcl' : cl ≤ 9223372036854775807 := by
      obtain ⟨_, _, e, _, h, _⟩ := hcl5.parts
      injection e with _ _ e
      subst e
      unfold maxLen at h; omega
    clear hx6 hcl5 hpl5 hs5 HX2 HX3 HX4 HX5
    have FK : Hid (FitQ 1 ((k : Int) : Rat)) := ⟨by rw [int_rat_num]; omega, by rw [int_rat_den]; decide⟩
    have HK0 : Hid (¬ ((k : Int) : Rat) = 0) := fun h => by
      have := congrArg Rat.num h
      rw [int_rat_num] at this
      have h0 : (0 : Rat).num = 0 := rfl
      omega
    have KP : Hid (0 < ((k : Int) : Rat).num) := by rw [Hid, int_rat_num]; omega
    obtain ⟨kq, hkq⟩ : ∃ kq : Rat, ((k : Int) : Rat) = kq := ⟨_, rfl⟩
    rw [hkq] at FK HK0 KP ⊢
    obtain ⟨tn, htn⟩ : ∃ tn, ratText kq = tn := ⟨_, rfl⟩
    have HTN := Lib.hid htn
    rw [htn]
    clear htn hkq
    go_wp2_with fail
    go_loopw [8, 10, 11, 12, 34] (fun v8 _ _ _ v34 wr => ∃ t : Nat, t ≤ l.length ∧ v34 = .int .i64 t ∧ Hid (OwnL tCore 2 CoR w6.heap.size wr v8 (heavy kq (l.take t))) ∧ Hid (Ext w6 wr)) (fun _ _ _ _ v34 _ => l.length - (RowKit.intOf v34).toNat)
    case atStart => exact ⟨0, Nat.zero_le _, rfl, OwnL.nil, Ext.refl _⟩
    case round =>
      obtain ⟨t, htl, rfl, HO, HXr⟩ := hrel
      have HLK : Hid ((heavy kq (l.take t)).length = t) := by rw [Hid, heavy_length, List.length_take, Nat.min_eq_left htl]
      by_cases hkl : t < l.length
      · obtain ⟨g1, o1, A1, c1, rfl, _, HL1, hp1, hp2⟩ := CL.get (CL.ext HCL.out HXr.out) hkl
        have HNX := Lib.hid (heavy_next (k := kq) hkl)
        have hmem := List.getElem_mem hkl
        have FW := Lib.hid (wt_fit (HML.out _ hmem).2.2).1
        have RM : Hid (∀ w', Calls Tryz.prog 15 #[.string ⟨(ratText l[t].2).toArray⟩, .string ⟨tn.toArray⟩] w' fun e w'' => e = .returned (.tuple #[.string ⟨(ratText (l[t].2 * kq)).toArray⟩, .int .i64 0]) ∧ Ext w' w'') := fun w' => by
          have h := r2mul_any l[t].2 kq w' (FW.out.mono (by decide)) (FK.out.mono (by decide)) ((FW.out.mul FK.out).mono (by decide))
          rw [HTN.out] at h
          exact h
        clear hmem FW
        obtain ⟨A8, c8, xs8, rfl, _, _, HR8, HC8⟩ := HO.out.parts
        rw [HLK.out] at HR8 ⊢
        generalize l[t] = x at *
        obtain ⟨p, q⟩ := x
        simp only at HNX RM HL1 hp1 hp2
        generalize ratText q = tq at *
        obtain ⟨th, hth⟩ : ∃ th, ratText (q * kq) = th := ⟨_, rfl⟩
        have HTH := Lib.hid hth
        rw [hth] at RM
        clear hth
        go_upto_region 10 with fail
        refine box1 (P := fun W => Code.wp _ _ _ _ W) fun W2 HX2 BX => ?_
        obtain ⟨j0, j1⟩ := BX.out.two
        clear hp1 hp2
        go_wp2_with fail
        refine (RM.out W2).mono ?_
        rintro e w3 ⟨rfl, hx3⟩
        have hy3 := HX2.out.trans hx3
        have BX3 := Lib.hid (BX.out.ext hx3)
        have O3 := Lib.hid (own_extR HR8.out hy3)
        have HC3 : Hid (Ch (CoR w3) xs8 (heavy kq (l.take t))) := HC8.out.mono fun c x hc => CoR.stab _ _ _ _ (fun _ _ => .of_below hy3) hc
        have HL3 := Lib.hid (RL.ext HL1.out hy3)
        have HX3 := Lib.hid (HXr.out.trans hy3)
        have hw3 := HX3.out.size
        have hbt : (t + 1) * 40 ≤ 140737488355328 := by omega
        clear hx3 hy3 j0 j1
        obtain ⟨j0, j1⟩ := BX3.out.two
        go_wp2_with (at_builtin; refine wpList_app1 rfl _ _ 28 rfl w6.heap.size core_slice _ _ _ rfl O3.out #[.slice A1 p.length c1, .string ⟨th.toArray⟩] 1 1 rfl rfl rfl hbt hw3 ?_)
        intro v' w4 ho4 hg4 _
        have O4 : Hid (OwnL tCore 2 CoR w6.heap.size w4 v' (heavy kq (l.take t) ++ [(p, q * kq)])) := OwnL.snoc (R := CoR) (w := w3) (x := (p, q * kq)) CoR.stab (by decide) (by rw [HLK.out]; exact O3.out) HC3.out ⟨A1, c1, by rw [HTH.out], HL3.out⟩ (by rw [HLK.out]; exact ho4) hg4
        have HX4 := Lib.hid (HX3.out.grownO O3.out hg4)
        clear ho4 hg4
        go_wp2
        go_roundw
        case rel => exact ⟨t + 1, by omega, by go_num, by rw [HNX.out]; exact O4, HX4⟩
        case measure => simp [RowKit.intOf]; omega
      · obtain rfl : t = l.length := by omega
        rw [List.take_of_length_le (Nat.le_refl _)] at HO
        have HG := good_made hn1 hn3 (by omega) (by omega) HML.out HMC.out
        have HGH := good_heavy HG (fun x hx => (wt_fit (HML.out x hx).2.2).1) FK.out KP.out
        have HN := near_made hn3 HML.out HMC.out
        have F1 : FitQ 200 (cost l cs) := cost_fitE (fun x hx => (wt_fit (HML.out x hx).2.2).1) HN (by omega)
        have F2 : FitQ 201 (cost l cs * kq) := F1.mul FK.out
        have F3 : ∀ p ∈ stepF n l cs, ∀ q ∈ p, FitQ 400 q := stepF_fitE HG (e := 1) (d := 1) (f := 1) (by decide) (fun x hx => (wt_fit (HML.out x hx).2.2).1) (fun x hx q hq => intp_fit ((HML.out x hx).2.1 q hq)) (fun c hc q hq => intp_fit ((HMC.out c hc).2 q hq)) (by omega) (by decide)
        have HOL := HO.out.ls
        have C1 := Lib.hid (fun w' (hx : Ext wr w') => cost_any _ _ n l cs w' (CL.ext HCL.out (HXr.out.trans hx)) (PL.ext HPL.out (HXr.out.trans hx)) HG (by omega) (F1.mono (by decide)) (HT.out.ext (HX6.out.trans (HXr.out.trans hx))))
        have C2 := Lib.hid (fun w' (hx : Ext wr w') => cost_any _ _ n (heavy kq l) cs w' (CL.ext HOL hx) (PL.ext HPL.out (HXr.out.trans hx)) HGH (by rw [heavy_length]; omega) (by rw [cost_heavy]; exact F2.mono (by decide)) (HT.out.ext (HX6.out.trans (HXr.out.trans hx))))
        have M1 := Lib.hid (fun w' => r2mul_any (cost l cs) kq w' (F1.mono (by decide)) (FK.out.mono (by decide)) (F2.mono (by decide)))
        have A1 := Lib.hid (fun w' (hx : Ext wr w') => assign_any _ _ n l cs w' (CL.ext HCL.out (HXr.out.trans hx)) (PL.ext HPL.out (HXr.out.trans hx)) HG)
        have A2 := Lib.hid (fun w' (hx : Ext wr w') => assign_any _ _ n (heavy kq l) cs w' (CL.ext HOL hx) (PL.ext HPL.out (HXr.out.trans hx)) HGH)
        have S1 := Lib.hid (fun w' (hx : Ext wr w') => kstep_any _ _ n l cs w' (CL.ext HCL.out (HXr.out.trans hx)) (PL.ext HPL.out (HXr.out.trans hx)) HG (by omega) F3 (HT.out.ext (HX6.out.trans (HXr.out.trans hx))))
        have S2 := Lib.hid (fun w' (hx : Ext wr w') => kstep_any _ _ n (heavy kq l) cs w' (CL.ext HOL hx) (PL.ext HPL.out (HXr.out.trans hx)) HGH (by rw [heavy_length]; omega) (by rw [stepF_heavy HK0.out]; exact F3) (HT.out.ext (HX6.out.trans (HXr.out.trans hx))))
        rw [cost_heavy] at C2
        rw [assign_heavy] at A2
        rw [stepF_heavy HK0.out] at S2
        rw [HTN.out] at M1
        generalize assign l cs = al at *
        generalize stepF n l cs = sl at *
        generalize ratText (cost l cs) = t1 at *
        generalize ratText (cost l cs * kq) = t2 at *
        clear HG HGH HN F1 F2 F3 HOL HLK HCL HPL
        obtain ⟨A8, c8, xs8, rfl, _, _, _, _⟩ := HO.out.parts
        clear HO
        go_wp2_with fail
        refine (C1.out wr (Ext.refl wr)).mono ?_
        rintro e w7 ⟨rfl, hx7⟩
        go_wp2_with fail
        refine (M1.out w7).mono ?_
        rintro e w8 ⟨rfl, hx8⟩
        have hy8 := hx7.trans hx8
        go_wp2_with fail
        refine (C2.out w8 hy8).mono ?_
        rintro e w9 ⟨rfl, hx9⟩
        have hy9 := hy8.trans hx9
        go_wp2_with fail
        refine (A2.out w9 hy9).mono ?_
        rintro e wa ⟨va, rfl, hva, hxa⟩
        have hya := hy9.trans hxa
        go_wp2_with fail
        refine (A1.out wa hya).mono ?_
        rintro e wb ⟨vb, rfl, hvb, hxb⟩
        have hyb := hya.trans hxb
        go_wp2_with fail
        refine (ints_any va vb al al wb (IL.ext hva hxb) hvb).mono ?_
        rintro e wc ⟨rfl, m, rfl⟩
        have hd : decide (al = al) = true := decide_eq_true rfl
        rw [hd]
        have hyc := hyb.drewN m
        generalize wb.drewN m = wc at *
        clear hd hva hvb
        go_wp2_with fail
        refine (S2.out wc hyc).mono ?_
        rintro e wd ⟨Ad, cd, rfl, hpd, hxd⟩
        have hyd := hyc.trans hxd
        go_wp2_with fail
        refine (S1.out wd hyd).mono ?_
        rintro e we ⟨Ae, ce, rfl, hpe, hxe⟩
        have hye := hyd.trans hxe
        go_wp2_with fail
        refine (lists_any _ _ sl sl we (PL.ext hpd hxe) hpe).mono ?_
        rintro e wf ⟨rfl, m', rfl⟩
        have hd : decide (sl = sl) = true := decide_eq_true rfl
        rw [hd]
        have hyf := HX6.out.trans (HXr.out.trans (hye.drewN m'))
        generalize we.drewN m' = wf at *
        clear hd hpd hpe
        go_wp2_with fail
        refine (csane_any wf (HT.out.ext hyf)).mono ?_
        rintro e wg ⟨rfl, hxg⟩
        go_wp2
        go_ret
        exact ⟨rfl, hyf.trans hxg⟩
  · have hd : decide (zs.length ≤ 600) = false := decide_eq_false hl
    rw [hd]
    go_wp2_with fail
    refine (csane_any w HT.out).mono ?_
    rintro e w1 ⟨rfl, hx1⟩
    go_wp2
    go_ret
    exact ⟨rfl, hx1⟩
end Go.Proofs.YtlfcicfebhjchaaGreatDoor
