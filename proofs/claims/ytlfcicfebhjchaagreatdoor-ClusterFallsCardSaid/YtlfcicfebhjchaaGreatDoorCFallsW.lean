/- joinlearnlaw28.ClusterFalls, walked: it returns true. -/
import Derived.Test.YtlfcicfebhjchaaGreatDoorCSane
import Derived.Test.YtlfcicfebhjchaaGreatDoorTight
namespace Go.Proofs.YtlfcicfebhjchaaGreatDoor
open Go.RowKit Go.Lib

set_option maxRecDepth 100000 in
set_option maxHeartbeats 4000000 in
theorem cfalls_walk (t : TypeId) (A : Option Addr) (zs : List Int) (c : Nat) (w : World) (hc : zs.length ≤ c) (hm : c ≤ 9223372036854775807) (hs : Sl w t A (zcells zs)) (hz : ∀ z ∈ zs, -9223372036854775808 ≤ z ∧ z ≤ 9223372036854775807) (ht : Tab w) :
    Calls Tryz.prog 7 #[.slice A zs.length c] w fun e w' => e = .returned (.bool true) ∧ Ext w w' := by
  have HS := Lib.hid hs
  have HZ := Lib.hid hz
  have HT := Lib.hid ht
  clear hs hz ht
  go_enter Tryz.func7, Tryz.ntmps7
  go_wp2_with fail
  refine (light_any A zs.length c w (by omega)).mono ?_
  rintro e w0 ⟨rfl, rfl⟩
  by_cases hl : zs.length ≤ 600
  · have hd : decide (zs.length ≤ 600) = true := decide_eq_true hl
    rw [hd]
    go_wp2_with fail
    refine (mnew_any t A zs c w hc hm hl HS.out HZ.out).mono ?_
    rintro e w1 ⟨rfl, hsrc1, hx1⟩
    clear hd
    go_wp2_with fail
    refine (range_any w.heap.size 1 2 w1 hsrc1 (by decide) (by decide)).mono ?_
    rintro e w2 ⟨n, hn1, hn2, rfl, hsrc2, ho2⟩
    have hn3 : n ≤ 3 := by omega
    have HX2 := Lib.hid (hx1.only ho2 (Nat.le_refl _))
    clear hx1 ho2 hsrc1 hl
    go_wp2_with fail
    refine (cores_any w.heap.size n 7 w2 hsrc2 hn3 (by decide)).mono ?_
    rintro e w3 ⟨Al, cl, l, hll, hml, rfl, hcl, hs3, ho3⟩
    have HX3 := Lib.hid (HX2.out.only ho3 (Nat.le_refl _))
    have HML : Hid (MadeL n l) := hml
    clear ho3 hsrc2 hml
    go_wp2_with fail
    refine (places_any w.heap.size n 3 w3 hs3 hn3 (by decide)).mono ?_
    rintro e w4 ⟨Ac, cc, cs, hcn, hmc, rfl, hpl, hs4, ho4⟩
    have HX4 := Lib.hid (HX3.out.only ho4 (Nat.le_refl _))
    have HTC : Hid (Tight n cs) := tight_made (by omega) hmc
    have hk4 := Src.kept (t := tRat) hs3 ho4 (by decide)
    have hk4' := Src.kept (t := tCore) hs3 ho4 (by decide)
    have HCL : Hid (CL w4 (.slice Al l.length cl) l) := hcl.keep CoR.stab (fun u hu => by
      simp only [List.mem_cons, List.not_mem_nil, or_false] at hu
      rcases hu with rfl | rfl
      · exact hk4'
      · exact hk4)
    have HPL := Lib.hid hpl
    clear ho4 hs3 hmc hk4 hk4' hcl hpl hs4 HX2 HX3
    obtain ⟨R, hR⟩ : ∃ R, runF n l 4 cs = R := ⟨_, rfl⟩
    have HR := Lib.hid hR
    clear hR
    go_wp2_with fail
    go_loopw [7, 8, 9] (fun v7 v8 _ wr => ∃ (t : Nat) (ds : List (List Rat)), t ≤ 4 ∧ v8 = .int .i64 t ∧ Hid (Tight n ds) ∧ Hid (runF n l (4 - t) ds = (R.1, R.2 - t) ∧ t ≤ R.2) ∧ Hid (∃ A c, v7 = .slice A ds.length c) ∧ Hid (PL wr v7 ds) ∧ Hid (Ext w4 wr)) (fun _ v8 _ _ => 4 - (RowKit.intOf v8).toNat)
    case atStart => exact ⟨0, cs, by omega, rfl, HTC, ⟨by rw [Nat.sub_zero, Nat.sub_zero]; exact HR.out, Nat.zero_le _⟩, ⟨_, _, rfl⟩, HPL, Ext.refl _⟩
    case round =>
      obtain ⟨t, ds, ht4, rfl, HTD, HRd, ⟨A9, c9, rfl⟩, HPD, HXr⟩ := hrel
      by_cases hkt : t < 4
      · have HGD := tight_good hn1 hn3 hll HML.out HTD.out
        have HTS := tight_step hll HML.out HTD.out
        have HGS := tight_good hn1 hn3 hll HML.out HTS
        have F1 := tight_cost hn3 hll HML.out HTD.out
        have F2 := tight_cost hn3 hll HML.out HTS
        have HLS := Lib.hid (stepF_length n l ds)
        have ST := Lib.hid (kstep_any _ _ n l ds wr (CL.ext HCL.out HXr.out) HPD.out HGD (by omega) (fun p hp q hq => (HTS.2.2 p hp q hq).mono (by decide)) (HT.out.ext (HX4.out.trans HXr.out)))
        have C1 := Lib.hid (fun w' (hx : Ext wr w') => cost_any _ _ n l ds w' (CL.ext HCL.out (HXr.out.trans hx)) (PL.ext HPD.out hx) HGD (by omega) F1 (HT.out.ext (HX4.out.trans (HXr.out.trans hx))))
        have C2 := Lib.hid (fun v w' (h : PL w' v (stepF n l ds)) (hx : Ext wr w') => cost_any _ v n l (stepF n l ds) w' (CL.ext HCL.out (HXr.out.trans hx)) h HGS (by omega) F2 (HT.out.ext (HX4.out.trans (HXr.out.trans hx))))
        have RC := Lib.hid (fun w' => r2compare_any (cost l (stepF n l ds)) (cost l ds) w' F2 F1)
        have hsg := sub_le (step_falls (fun x hx => (HML.out x hx).1) HTD.out.2.1 (fun x hx => Rat.le_of_lt (made_pos HML.out x hx)) : cost l (stepF n l ds) ≤ cost l ds)
        have hdg : decide ((cost l (stepF n l ds) - cost l ds).num.sign > 0) = false := decide_eq_false (by omega)
        have HRS := Lib.hid (run_next (n := n) (l := l) hkt HRd.out.1 HRd.out.2)
        have hln : ((ds.length : Int) != (ds.length : Int)) = false := by simp
        have HTE := Lib.hid HTS
        clear HGD HTS HGS F1 F2
        generalize (cost l (stepF n l ds) - cost l ds).num.sign = sg at *
        generalize ratText (cost l (stepF n l ds)) = t1 at *
        generalize ratText (cost l ds) = t2 at *
        generalize stepF n l ds = es at *
        go_wp2_with fail
        refine ST.out.mono ?_
        rintro e w5 ⟨A5, c5, rfl, hp5, hx5⟩
        go_wp2_with fail
        refine (C2.out _ w5 hp5 hx5).mono ?_
        rintro e w6 ⟨rfl, hx6⟩
        have hy6 := hx5.trans hx6
        go_wp2_with fail
        refine (C1.out w6 hy6).mono ?_
        rintro e w7 ⟨rfl, hx7⟩
        go_wp2_with fail
        refine (RC.out w7).mono ?_
        rintro e w8 ⟨rfl, hx8⟩
        have hy8 := hy6.trans (hx7.trans hx8)
        have HP5 := Lib.hid (PL.ext hp5 (hx6.trans (hx7.trans hx8)))
        have HY8 := Lib.hid hy8
        clear hx5 hx6 hx7 hx8 hy6 hy8 hp5
        go_wp2_with fail
        refine (lists_any _ _ es ds w8 HP5.out (PL.ext HPD.out HY8.out)).mono ?_
        rintro e w9 ⟨rfl, m, rfl⟩
        have HXE := Lib.hid (HXr.out.trans (HY8.out.drewN m))
        have HPS := Lib.hid (PL.ext HP5.out ((Ext.refl w8).drewN m))
        have HPE := Lib.hid (PL.ext HPD.out (HY8.out.drewN m))
        generalize w8.drewN m = w9 at *
        clear hdg hln hsg
        by_cases hde : es = ds
        · have hd : decide (es = ds) = true := decide_eq_true hde
          obtain ⟨h1, h2⟩ := HRS.out.1 hde.symm
          have HR1 := Lib.hid h1
          have HR2 := Lib.hid h2
          rw [hd]
          clear hde hd h1 h2
          have RU := Lib.hid (run_any _ _ n 4 l cs (Tight n) w9 (CL.ext HCL.out HXE.out) (PL.ext HPL.out HXE.out) HTC.out (tight_fine hn1 hn3 (by omega) HML.out) (by omega) (by decide) (HT.out.ext (HX4.out.trans HXE.out)))
          rw [HR.out, HR1.out, HR2.out] at RU
          go_wp2_with fail
          refine RU.out.mono ?_
          rintro e w8 ⟨A8, c8, rfl, hpl8, hx8⟩
          go_wp2_with fail
          refine (lists_any _ _ ds ds w8 hpl8 (PL.ext HPE.out hx8)).mono ?_
          rintro e w9 ⟨rfl, m, rfl⟩
          have hd : decide (ds = ds) = true := decide_eq_true rfl
          rw [hd]
          have hyf := HX4.out.trans (HXE.out.trans (hx8.drewN m))
          generalize w8.drewN m = wf at *
          clear hd hpl8 hx8
          go_wp2_with fail
          refine (csane_any wf (HT.out.ext hyf)).mono ?_
          rintro e wg ⟨rfl, hxg⟩
          go_wp2
          go_ret
          exact ⟨rfl, hyf.trans hxg⟩
        · have hd : decide (es = ds) = false := decide_eq_false hde
          have HR1 := Lib.hid (HRS.out.2 (fun h => hde h.symm))
          rw [hd]
          clear hde hd
          go_wp2_with fail
          go_roundw
          case rel => exact ⟨t + 1, es, by omega, by go_num, HTE, HR1, ⟨_, _, by rw [HLS.out]⟩, HPS, HXE⟩
          case measure => simp [RowKit.intOf]; omega
      · obtain rfl : t = 4 := by omega
        obtain ⟨h1, h2⟩ := run_end HRd.out.1 HRd.out.2
        have HR1 := Lib.hid h1
        have HR2 := Lib.hid h2
        have HXE := HXr
        have HPE := HPD
        clear h1 h2
        have RU := Lib.hid (run_any _ _ n 4 l cs (Tight n) wr (CL.ext HCL.out HXE.out) (PL.ext HPL.out HXE.out) HTC.out (tight_fine hn1 hn3 (by omega) HML.out) (by omega) (by decide) (HT.out.ext (HX4.out.trans HXE.out)))
        rw [HR.out, HR1.out, HR2.out] at RU
        go_wp2_with fail
        refine RU.out.mono ?_
        rintro e w8 ⟨A8, c8, rfl, hpl8, hx8⟩
        go_wp2_with fail
        refine (lists_any _ _ ds ds w8 hpl8 (PL.ext HPE.out hx8)).mono ?_
        rintro e w9 ⟨rfl, m, rfl⟩
        have hd : decide (ds = ds) = true := decide_eq_true rfl
        rw [hd]
        have hyf := HX4.out.trans (HXE.out.trans (hx8.drewN m))
        generalize w8.drewN m = wf at *
        clear hd hpl8 hx8
        go_wp2_with fail
        refine (csane_any wf (HT.out.ext hyf)).mono ?_
        rintro e wg ⟨rfl, hxg⟩
        go_wp2
        go_ret
        exact ⟨rfl, hyf.trans hxg⟩
  · have hd : decide (zs.length ≤ 600) = false := decide_eq_false hl
    rw [hd]
    go_wp2_with fail
    refine (csane_any w HT.out).mono ?_
    rintro e w1 ⟨rfl, hx1⟩
    go_wp2
    go_ret
    exact ⟨rfl, hx1⟩
end Go.Proofs.YtlfcicfebhjchaaGreatDoor
