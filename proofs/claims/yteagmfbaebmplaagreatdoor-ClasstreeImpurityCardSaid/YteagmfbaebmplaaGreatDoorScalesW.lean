/- joinlearnlaw25.ClasstreeScales, walked: it returns true. -/
import Derived.Test.YteagmfbaebmplaaGreatDoorClasstree
namespace Go.Proofs.YteagmfbaebmplaaGreatDoor
open Go.RowKit Go.Lib

abbrev tString : TypeId := 9
/-- the three classes -/
def kinds : List Value := [.string ⟨#[98, 108, 117, 101]⟩, .string ⟨#[103, 114, 101, 101, 110]⟩, .string ⟨#[114, 101, 100]⟩]
theorem kinds_get {k : Nat} (h : k < 3) : ∃ c : List UInt8, kinds[k]? = some (.string ⟨c.toArray⟩) := by
  rcases k with _ | _ | _ | k
  · exact ⟨[98, 108, 117, 101], rfl⟩
  · exact ⟨[103, 114, 101, 101, 110], rfl⟩
  · exact ⟨[114, 101, 100], rfl⟩
  · omega
theorem imp_fit' {l : List Tal} (h : Small l) : FitQ 25 (imp l) := by
  rcases Nat.eq_zero_or_pos (total l) with h0 | h0
  · rw [imp_zero h0]
    exact ⟨by decide, by decide⟩
  · exact imp_fit h h0
/-- a literal row, the world behind it named -/
theorem lit1 {P : World → Prop} {w : World} {t : TypeId} {cs : Array Value} (l : List Value) (hl : cs = l.toArray) (h : ∀ W, Hid (Ext w W) → Hid (Blk W w.heap.size t l) → W.heap.size = w.heap.size + 1 → P W) : P (w.alloc (.cells cs t)) := by
  subst hl
  exact h _ ((Ext.refl w).alloc _) (Blk.new w t l) (by simp)
theorem mul_text {m n : Nat} (q : Rat) (h : q = ((m : Int) : Rat) * ((n : Int) : Rat)) : q = (((m * n : Nat) : Int) : Rat) := by rw [h, nat_mul]
set_option maxRecDepth 100000 in
set_option maxHeartbeats 8000000 in
theorem scales_walk (t : TypeId) (A : Option Addr) (zs : List Int) (c : Nat) (w : World) (hc : zs.length ≤ c) (hm : c ≤ 9223372036854775807) (hs : Sl w t A (zcells zs)) (hz : ∀ z ∈ zs, -9223372036854775808 ≤ z ∧ z ≤ 9223372036854775807) (ht : Tab w) :
    Calls Tryz.prog 3 #[.slice A zs.length c] w fun e w' => e = .returned (.bool true) ∧ Ext w w' := by
  have HS := Lib.hid hs
  have HZ := Lib.hid hz
  have HT := Lib.hid ht
  clear hs hz ht
  go_enter Tryz.func3, Tryz.ntmps3
  go_wp2_with fail
  refine (light_any A zs.length c w (by omega)).mono ?_
  rintro e w0 ⟨rfl, rfl⟩
  by_cases hl : zs.length ≤ 600
  · have hd : decide (zs.length ≤ 600) = true := decide_eq_true hl
    rw [hd]
    go_wp2_with fail
    refine (mnew_any t A zs c w hc hm hl HS.out HZ.out).mono ?_
    rintro e w1 ⟨rfl, hsrc1, hx1⟩
    clear hd
    go_wp2_with fail
    refine (range_any w.heap.size 1 9 w1 hsrc1 (by decide) (by decide)).mono ?_
    rintro e w2 ⟨n, hn1, hn9, rfl, hsrc2, ho2⟩
    have HX2 := Lib.hid (hx1.only ho2 (Nat.le_refl _))
    clear hx1 ho2 hsrc1
    go_wp2_with fail
    refine (rwhole_any (n : Int) w2 (by omega) (by omega)).mono ?_
    rintro e w3 ⟨rfl, hx3⟩
    have HX3 := Lib.hid (HX2.out.trans hx3)
    have HSR3 := Lib.hid (hsrc2.ext hx3)
    clear hx3 hsrc2 HX2
    go_upto_region 7 with fail
    refine lit1 (P := fun W => Code.wp _ _ _ _ W) kinds rfl fun W HX4 BK hsz => ?_
    have HX := Lib.hid (HX3.out.trans HX4.out)
    have HSR := Lib.hid (HSR3.out.ext HX4.out)
    have hb3 : w.heap.size < w3.heap.size := HSR3.out.lt
    have FN : Hid (FitQ 8 ((n : Int) : Rat)) := fit_8 (by omega)
    obtain ⟨tn, htn⟩ : ∃ tn, ratText ((n : Int) : Rat) = tn := ⟨_, rfl⟩
    have HTN := Lib.hid htn
    rw [htn]
    clear htn HX3 HX4 HSR3 hl
    go_loopw [5, 6, 8, 9, 10, 11, 27] (fun v5 v6 _ _ _ _ v27 wr => ∃ (k : Nat) (ps : List Tal), k ≤ 3 ∧ v27 = .int .i64 k ∧ ps.length ≤ k ∧ (∀ x ∈ ps, x.2 ≤ 8) ∧ Hid (Own wr (w3.heap.size + 1) v5 ps) ∧ Hid (Own wr (w3.heap.size + 1) v6 (scale n ps)) ∧ Hid (Apart v5 v6) ∧ Hid (SrcAt wr w.heap.size) ∧ Hid (Blk wr w3.heap.size tString kinds) ∧ Hid (Ext w wr)) (fun _ _ _ _ _ _ v27 _ => 3 - (RowKit.intOf v27).toNat)
    case atStart => exact ⟨0, [], by omega, rfl, Nat.le_refl _, (fun x hx => by cases hx), Own.nil _ _, Own.nil _ _, apart_nil _, HSR, BK, HX⟩
    case round =>
      obtain ⟨k, ps, hk, rfl, hpl, hp5, HO5, HO6, HAP, HSRr, HBK, HXr⟩ := hrel
      obtain ⟨A5, c5, rfl, SL5⟩ := HO5.out.parts
      obtain ⟨A6, c6, rfl, SL6⟩ := HO6.out.parts
      by_cases hk3 : k < 3
      · obtain ⟨cl, hcl⟩ := kinds_get hk3
        have hcell := HBK.out.cell hcl
        clear hcl SL5 SL6
        have hwr : w3.heap.size < wr.heap.size := HBK.out.lt
        go_wp2_with fail
        refine (n_any w.heap.size 6 wr HSRr.out (by decide) (by decide)).mono ?_
        rintro e w4 ⟨r, hr, rfl, hsr4, ho4⟩
        have O5 := Lib.hid (HO5.out.only ho4 (by omega))
        have O6 := Lib.hid (HO6.out.only ho4 (by omega))
        have SR4 := Lib.hid hsr4
        have BK4 := Lib.hid (HBK.out.only ho4 (by omega))
        have X4 := Lib.hid (HXr.out.only ho4 (Nat.le_refl _))
        have hw4 := ho4.size
        clear hsr4 ho4 hcell
        by_cases hr0 : r = 0
        · have hd : decide ((r : Int) > 0) = false := by rw [decide_eq_false_iff_not]; omega
          go_wp2
          go_roundw
          case rel => exact ⟨k + 1, ps, by omega, by go_num, by omega, hp5, O5, O6, HAP, SR4, BK4, X4⟩
          case measure => simp [RowKit.intOf]; omega
        · have hd : decide ((r : Int) > 0) = true := by rw [decide_eq_true_iff]; omega
          have FR : Hid (FitQ 8 ((r : Int) : Rat)) := fit_8 (by omega)
          have HML := Lib.hid (nat_mul r n)
          have FM : Hid (FitQ 8 (((r : Int) : Rat) * ((n : Int) : Rat))) := by
            rw [HML.out]
            have : r * n ≤ 6 * 9 := Nat.mul_le_mul (by omega) hn9
            exact fit_8 (by omega)
          obtain ⟨tm, htm⟩ : ∃ tm, ratText (((r * n : Nat) : Int) : Rat) = tm := ⟨_, rfl⟩
          have HTM := Lib.hid htm
          clear htm
          have RM : Hid (∀ w7, Calls Tryz.prog 11 #[.string ⟨(ratText ((r : Int) : Rat)).toArray⟩, .string ⟨tn.toArray⟩] w7 fun e w' => e = .returned (.tuple #[.string ⟨tm.toArray⟩, .int .i64 0]) ∧ Ext w7 w') := by
            intro w7
            have h := r2mul_any ((r : Int) : Rat) ((n : Int) : Rat) w7 (FR.out.up (by decide)) (FN.out.up (by decide)) (FM.out.up (by decide))
            rw [HML.out, HTN.out, HTM.out] at h
            exact h
          go_wp2_with fail
          refine (rwhole_any (r : Int) w4 (by omega) (by omega)).mono ?_
          rintro e w5 ⟨rfl, hx5⟩
          have P5 := Lib.hid (O5.out.ext hx5)
          have P6 := Lib.hid (O6.out.ext hx5)
          have SR5 := Lib.hid (SR4.out.ext hx5)
          have BK5 := Lib.hid (BK4.out.ext hx5)
          have X5 := Lib.hid (X4.out.trans hx5)
          have hw5 : w3.heap.size + 1 ≤ w5.heap.size := by have := hx5.size; omega
          have hbt : (ps.length + 1) * 32 ≤ 140737488355328 := by omega
          have HR5 : Hid (w5.ownsRow (w3.heap.size + 1) tTally 2 (.slice A5 ps.length c5) ps.length (tcells ps)) := P5.out
          clear hx5 hd
          go_wp2_with (at_builtin; refine wpList_app1 rfl _ _ tTallies rfl (w3.heap.size + 1) tal_slice _ _ _ rfl HR5.out #[.string ⟨cl.toArray⟩, .string ⟨(ratText ((r : Int) : Rat)).toArray⟩] 1 1 rfl rfl rfl hbt hw5 ?_)
          intro v' w6 ho6 hg6 hb6
          obtain ⟨A7, c7, rfl, _, _, _⟩ := own_parts ho6
          have Q5 := Lib.hid (Own.snoc ho6)
          have Q6 := Lib.hid (P6.out.other hg6 HAP.out)
          have AP6 := Lib.hid (HAP.out.step P6.out hb6)
          have SR6 := Lib.hid (SR5.out.grown hg6 (fun k hk => by have := (World.ownsRow.lt P5.out k hk).1; omega))
          have BK6 : Hid (Blk w6 w3.heap.size tString kinds) := (hg6.block w3.heap.size BK5.out.lt (fun h => by have := (World.ownsRow.lt P5.out _ h.symm).1; omega)).trans BK5.out
          have X6 : Hid (Ext w w6) := Below.grown X5.out hg6 X5.out.size (fun k hk => by have := (World.ownsRow.lt P5.out k hk).1; omega)
          have hw6 : w3.heap.size + 1 ≤ w6.heap.size := Nat.le_trans hw5 hg6.size
          clear ho6 hg6 hb6
          go_wp2_with fail
          refine (rwhole_any (r : Int) w6 (by omega) (by omega)).mono ?_
          rintro e w7 ⟨rfl, hx7⟩
          go_wp2_with fail
          refine (RM.out w7).mono ?_
          rintro e w8 ⟨rfl, hx8⟩
          have R5 := Lib.hid (Q5.out.ext (hx7.trans hx8))
          have R6 := Lib.hid (Q6.out.ext (hx7.trans hx8))
          have SR8 := Lib.hid (SR6.out.ext (hx7.trans hx8))
          have BK8 := Lib.hid (BK6.out.ext (hx7.trans hx8))
          have X8 := Lib.hid (X6.out.trans (hx7.trans hx8))
          have hw8 : w3.heap.size + 1 ≤ w8.heap.size := by have := (hx7.trans hx8).size; omega
          have hbt : ((scale n ps).length + 1) * 32 ≤ 140737488355328 := by rw [scale_length]; omega
          have HR6 : Hid (w8.ownsRow (w3.heap.size + 1) tTally 2 (.slice A6 (scale n ps).length c6) (scale n ps).length (tcells (scale n ps))) := R6.out
          clear hx7 hx8
          go_wp2_with (at_builtin; refine wpList_app1 rfl _ _ tTallies rfl (w3.heap.size + 1) tal_slice _ _ _ rfl HR6.out #[.string ⟨cl.toArray⟩, .string ⟨tm.toArray⟩] 1 1 rfl rfl rfl hbt hw8 ?_)
          intro v'' w9 ho9 hg9 hb9
          obtain ⟨A8, c8, rfl, _, _, _⟩ := own_parts ho9
          have S6 : Hid (Own w9 (w3.heap.size + 1) (.slice A8 ((scale n ps).length + 1) c8) (scale n ps ++ [(cl, r * n)])) := Own.snoc (by rw [HTM.out]; exact ho9)
          have S5 := Lib.hid (R5.out.other hg9 AP6.out.symm)
          have AP9 := Lib.hid (AP6.out.symm.step R5.out hb9).symm
          have SR9 := Lib.hid (SR8.out.grown hg9 (fun k hk => by have := (World.ownsRow.lt R6.out k hk).1; omega))
          have BK9 : Hid (Blk w9 w3.heap.size tString kinds) := (hg9.block w3.heap.size BK8.out.lt (fun h => by have := (World.ownsRow.lt R6.out _ h.symm).1; omega)).trans BK8.out
          have X9 : Hid (Ext w w9) := Below.grown X8.out hg9 X8.out.size (fun k hk => by have := (World.ownsRow.lt R6.out k hk).1; omega)
          rw [← scale_snoc] at S6
          clear ho9 hg9 hb9
          go_wp2
          go_roundw
          case rel => exact ⟨k + 1, ps ++ [(cl, r)], by omega, by go_num, by simp; omega, (fun x hx => by
            rcases List.mem_append.1 hx with h | h
            · exact hp5 x h
            · rw [List.mem_singleton.1 h]; show r ≤ 8; omega), S5, S6, AP9, SR9, BK9, X9⟩
          case measure => simp [RowKit.intOf]; omega
      · obtain rfl : k = 3 := by omega
        have hs5 : Small ps := .of hpl (fun x hx => by have := hp5 x hx; omega)
        have hs6 : Small (scale n ps) := scale_small hpl hp5 hn9
        have F5 := imp_fit' hs5
        have G5 : FitQ 8 ((total ps : Int) : Rat) := fit_8 (by have := total_le hs5; omega)
        obtain ⟨ti, hti⟩ : ∃ x, ratText (imp ps) = x := ⟨_, rfl⟩
        obtain ⟨t1, ht1⟩ : ∃ x, ratText (imp ps * ((n : Int) : Rat)) = x := ⟨_, rfl⟩
        obtain ⟨tt, htt⟩ : ∃ x, ratText ((total ps : Int) : Rat) = x := ⟨_, rfl⟩
        obtain ⟨t2, ht2⟩ : ∃ x, ratText (((total ps : Int) : Rat) * ((n : Int) : Rat)) = x := ⟨_, rfl⟩
        obtain ⟨mc, hmc⟩ : ∃ x, (major ps).1 = x := ⟨_, rfl⟩
        have C1 : Hid (∀ w', Ext wr w' → Calls Tryz.prog 12 #[.slice A5 ps.length c5] w' fun e w'' => e = .returned (.string ⟨ti.toArray⟩) ∧ Ext w' w'') := fun w' hx => by
          have h := cimp_any A5 ps c5 w' hs5 (SL5.ext hx) (HT.out.ext (HXr.out.trans hx))
          rw [hti] at h
          exact h
        have C2 : Hid (∀ w', Ext wr w' → Calls Tryz.prog 13 #[.slice A5 ps.length c5] w' fun e w'' => e = .returned (.string ⟨tt.toArray⟩) ∧ Ext w' w'') := fun w' hx => by
          have h := ctotal_any A5 ps c5 w' hs5 (SL5.ext hx) (HT.out.ext (HXr.out.trans hx))
          rw [htt] at h
          exact h
        have C3 : Hid (∀ w', Ext wr w' → Calls Tryz.prog 14 #[.slice A5 ps.length c5] w' fun e w'' => e = .returned (.string ⟨mc.toArray⟩) ∧ Ext w' w'') := fun w' hx => by
          have h := cmajor_any A5 ps c5 w' hs5 (SL5.ext hx)
          rw [hmc] at h
          exact h
        have D1 : Hid (∀ w', Ext wr w' → Calls Tryz.prog 12 #[.slice A6 (scale n ps).length c6] w' fun e w'' => e = .returned (.string ⟨t1.toArray⟩) ∧ Ext w' w'') := fun w' hx => by
          have h := cimp_any A6 (scale n ps) c6 w' hs6 (SL6.ext hx) (HT.out.ext (HXr.out.trans hx))
          rw [imp_scale (by omega), ht1] at h
          exact h
        have D2 : Hid (∀ w', Ext wr w' → Calls Tryz.prog 13 #[.slice A6 (scale n ps).length c6] w' fun e w'' => e = .returned (.string ⟨t2.toArray⟩) ∧ Ext w' w'') := fun w' hx => by
          have h := ctotal_any A6 (scale n ps) c6 w' hs6 (SL6.ext hx) (HT.out.ext (HXr.out.trans hx))
          rw [total_scale, ← nat_mul, ht2] at h
          exact h
        have D3 : Hid (∀ w', Ext wr w' → Calls Tryz.prog 14 #[.slice A6 (scale n ps).length c6] w' fun e w'' => e = .returned (.string ⟨mc.toArray⟩) ∧ Ext w' w'') := fun w' hx => by
          have h := cmajor_any A6 (scale n ps) c6 w' hs6 (SL6.ext hx)
          rw [major_scale (by omega), hmc] at h
          exact h
        have M1 : Hid (∀ w', Calls Tryz.prog 11 #[.string ⟨ti.toArray⟩, .string ⟨tn.toArray⟩] w' fun e w'' => e = .returned (.tuple #[.string ⟨t1.toArray⟩, .int .i64 0]) ∧ Ext w' w'') := fun w' => by
          have h := r2mul_any (imp ps) ((n : Int) : Rat) w' (F5.up (by decide)) (FN.out.up (by decide)) ((F5.mul FN.out).up (by decide))
          rw [hti, HTN.out, ht1] at h
          exact h
        have M2 : Hid (∀ w', Calls Tryz.prog 11 #[.string ⟨tt.toArray⟩, .string ⟨tn.toArray⟩] w' fun e w'' => e = .returned (.tuple #[.string ⟨t2.toArray⟩, .int .i64 0]) ∧ Ext w' w'') := fun w' => by
          have h := r2mul_any ((total ps : Int) : Rat) ((n : Int) : Rat) w' (G5.up (by decide)) (FN.out.up (by decide)) ((G5.mul FN.out).up (by decide))
          rw [htt, HTN.out, ht2] at h
          exact h
        clear hti ht1 htt ht2 hmc F5 G5 hs5 hs6 SL5 SL6 HO5 HO6 HAP
        go_wp2_with fail
        refine (C1.out wr (Ext.refl wr)).mono ?_
        rintro e w4 ⟨rfl, hx4⟩
        go_wp2_with fail
        refine (M1.out w4).mono ?_
        rintro e w5 ⟨rfl, hx5⟩
        have hy5 := hx4.trans hx5
        go_wp2_with fail
        refine (C2.out w5 hy5).mono ?_
        rintro e w6 ⟨rfl, hx6⟩
        go_wp2_with fail
        refine (M2.out w6).mono ?_
        rintro e w7 ⟨rfl, hx7⟩
        have hy7 := hy5.trans (hx6.trans hx7)
        go_wp2_with fail
        refine (D1.out w7 hy7).mono ?_
        rintro e w8 ⟨rfl, hx8⟩
        have hy8 := hy7.trans hx8
        go_wp2_with fail
        refine (D2.out w8 hy8).mono ?_
        rintro e w9 ⟨rfl, hx9⟩
        have hy9 := hy8.trans hx9
        go_wp2_with fail
        refine (C3.out w9 hy9).mono ?_
        rintro e wa ⟨rfl, hxa⟩
        have hya := hy9.trans hxa
        go_wp2_with fail
        refine (D3.out wa hya).mono ?_
        rintro e wb ⟨rfl, hxb⟩
        have hyb := HXr.out.trans (hya.trans hxb)
        go_wp2_with fail
        refine (sane_any wb (HT.out.ext hyb)).mono ?_
        rintro e wc ⟨rfl, hxc⟩
        go_wp2
        go_ret
        exact ⟨rfl, hyb.trans hxc⟩
  · have hd : decide (zs.length ≤ 600) = false := decide_eq_false hl
    rw [hd]
    go_wp2_with fail
    refine (sane_any w HT.out).mono ?_
    rintro e w1 ⟨rfl, hx1⟩
    go_wp2
    go_ret
    exact ⟨rfl, hx1⟩
end Go.Proofs.YteagmfbaebmplaaGreatDoor
