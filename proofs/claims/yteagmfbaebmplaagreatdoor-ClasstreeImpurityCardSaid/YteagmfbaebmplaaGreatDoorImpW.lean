/- joinlearnlaw25.ClasstreeImpurity, walked: it returns true. -/
import Derived.Test.YteagmfbaebmplaaGreatDoorImpLaw
namespace Go.Proofs.YteagmfbaebmplaaGreatDoor
open Go.RowKit Go.Lib

/-- three rows of tallies that lie apart, the source s, the classes in block b -/
structure Tri (w w0 : World) (s b : Nat) (v4 v5 v6 : Value) (l4 l5 l6 : List Tal) : Prop where
  o4 : Own w (b + 1) v4 l4
  o5 : Own w (b + 1) v5 l5
  o6 : Own w (b + 1) v6 l6
  a45 : Apart v4 v5
  a46 : Apart v4 v6
  a56 : Apart v5 v6
  src : SrcAt w s
  blk : Blk w b tString kinds
  ext : Ext w0 w
  below : s < b
  base : w0.heap.size = s
section
variable {w w' w0 : World} {s b : Nat} {v4 v5 v6 v' : Value} {l4 l5 l6 : List Tal}
theorem Tri.swap5 (h : Tri w w0 s b v4 v5 v6 l4 l5 l6) : Tri w w0 s b v5 v4 v6 l5 l4 l6 := ⟨h.o5, h.o4, h.o6, h.a45.symm, h.a56, h.a46, h.src, h.blk, h.ext, h.below, h.base⟩
theorem Tri.swap6 (h : Tri w w0 s b v4 v5 v6 l4 l5 l6) : Tri w w0 s b v6 v5 v4 l6 l5 l4 := ⟨h.o6, h.o5, h.o4, h.a56.symm, h.a46.symm, h.a45.symm, h.src, h.blk, h.ext, h.below, h.base⟩
theorem Tri.exts (h : Tri w w0 s b v4 v5 v6 l4 l5 l6) (hx : Ext w w') : Tri w' w0 s b v4 v5 v6 l4 l5 l6 := ⟨h.o4.ext hx, h.o5.ext hx, h.o6.ext hx, h.a45, h.a46, h.a56, h.src.ext hx, h.blk.ext hx, h.ext.trans hx, h.below, h.base⟩
theorem Tri.only (h : Tri w w0 s b v4 v5 v6 l4 l5 l6) (hs : SrcAt w' s) (ho : Only s w w') : Tri w' w0 s b v4 v5 v6 l4 l5 l6 := by
  have := h.below
  exact ⟨h.o4.only ho (by omega), h.o5.only ho (by omega), h.o6.only ho (by omega), h.a45, h.a46, h.a56, hs, h.blk.only ho (by omega), h.ext.only ho (by rw [h.base]; exact Nat.le_refl _), h.below, h.base⟩
theorem Tri.turn {k4 k5 k6 : List Tal} (h : Tri w w0 s b v4 v5 v6 l4 l5 l6) (h4 : k4 = l4) (h5 : k5 = l5) (h6 : k6 = l6) : Tri w w0 s b v4 v5 v6 k4 k5 k6 := by subst h4 h5 h6; exact h
theorem Tri.size (h : Tri w w0 s b v4 v5 v6 l4 l5 l6) : b + 1 ≤ w.heap.size := h.blk.lt
theorem Tri.app (h : Tri w w0 s b v4 v5 v6 l4 l5 l6) {c : List UInt8} {n : Nat} (ho : w'.ownsRow (b + 1) tTally 2 v' (l4.length + 1) (tcells l4 ++ [.string ⟨c.toArray⟩, .string ⟨(ratText ((n : Int) : Rat)).toArray⟩])) (hg : w.grownBy w' v4.ownBlock) (hb : v'.ownBlock = v4.ownBlock ∨ v'.ownBlock = some (w.heap.size + 1)) :
    Tri w' w0 s b v' v5 v6 (l4 ++ [(c, n)]) l5 l6 := by
  have hlo : ∀ k, v4.ownBlock = some k → b + 1 ≤ k := fun k hk => (World.ownsRow.lt h.o4 k hk).1
  have := h.below
  have := h.base
  exact ⟨Own.snoc ho, h.o5.other hg h.a45, h.o6.other hg h.a46, h.a45.step h.o5 hb, h.a46.step h.o6 hb, h.a56, h.src.grown hg (fun k hk => by have := hlo k hk; omega),
    (hg.block b h.blk.lt (fun e => by have := hlo b e.symm; omega)).trans h.blk, Below.grown h.ext hg h.ext.size (fun k hk => by have := hlo k hk; omega), h.below, h.base⟩
end
theorem duo_cells {g : List Duo} (hg : g.length ≤ 3) (hx : ∀ x ∈ g, x.2.1 ≤ 8 ∧ x.2.2 ≤ 8) : Small (lefts g) ∧ Small (rights g) ∧ Small (boths g) := by
  refine ⟨keep_small (by simpa using hg) ?_, keep_small (by simpa using hg) ?_, keep_small (by simpa using hg) ?_⟩ <;>
    (intro x hx'; obtain ⟨y, hy, rfl⟩ := List.mem_map.1 hx'; have := hx y hy; simp only []; omega)
theorem duo_snoc {g : List Duo} {c : List UInt8} {m n : Nat} (hx : ∀ x ∈ g, x.2.1 ≤ 8 ∧ x.2.2 ≤ 8) (hm : m < 5) (hn : n < 5) : ∀ x ∈ g ++ [(c, m, n)], x.2.1 ≤ 8 ∧ x.2.2 ≤ 8 := by
  intro x h
  rcases List.mem_append.1 h with h | h
  · exact hx x h
  · rw [List.mem_singleton.1 h]
    show m ≤ 8 ∧ n ≤ 8
    omega
set_option maxRecDepth 100000 in
set_option maxHeartbeats 8000000 in
theorem impurity_walk (t : TypeId) (A : Option Addr) (zs : List Int) (c : Nat) (w : World) (hc : zs.length ≤ c) (hm : c ≤ 9223372036854775807) (hs : Sl w t A (zcells zs)) (hz : ∀ z ∈ zs, -9223372036854775808 ≤ z ∧ z ≤ 9223372036854775807) (ht : Tab w) :
    Calls Tryz.prog 4 #[.slice A zs.length c] w fun e w' => e = .returned (.bool true) ∧ Ext w w' := by
  have HS := Lib.hid hs
  have HZ := Lib.hid hz
  have HT := Lib.hid ht
  clear hs hz ht
  go_enter Tryz.func4, Tryz.ntmps4
  go_wp2_with fail
  refine (light_any A zs.length c w (by omega)).mono ?_
  rintro e w0 ⟨rfl, rfl⟩
  by_cases hl : zs.length ≤ 600
  · have hd : decide (zs.length ≤ 600) = true := decide_eq_true hl
    rw [hd]
    go_wp2_with fail
    refine (mnew_any t A zs c w hc hm hl HS.out HZ.out).mono ?_
    rintro e w1 ⟨rfl, hsrc1, hx1⟩
    clear hd
    have HX1 := Lib.hid hx1
    have HSR1 := Lib.hid hsrc1
    have hsz : w.heap.size < w1.heap.size := hsrc1.lt
    clear hx1 hsrc1
    go_upto_region 7 with fail
    refine lit1 (P := fun W => Code.wp _ _ _ _ W) kinds rfl fun W HX4 BK hsz4 => ?_
    have T0 : Hid (Tri W w w.heap.size w1.heap.size (.slice none 0 0) (.slice none 0 0) (.slice none 0 0) (boths []) (lefts []) (rights [])) := ⟨Own.nil _ _, Own.nil _ _, Own.nil _ _, apart_nil _, apart_nil _, apart_nil _, HSR1.out.ext HX4.out, BK.out, HX1.out.trans HX4.out, hsz, rfl⟩
    clear HX1 HX4 HSR1 BK hl
    go_loopw [4, 5, 6, 8, 9, 10, 21] (fun v4 v5 v6 _ _ _ vi wr => ∃ (k : Nat) (g : List Duo), k ≤ 3 ∧ vi = .int .i64 k ∧ g.length = k ∧ (∀ x ∈ g, x.2.1 ≤ 8 ∧ x.2.2 ≤ 8) ∧ Hid (Tri wr w w.heap.size w1.heap.size v4 v5 v6 (boths g) (lefts g) (rights g))) (fun _ _ _ _ _ _ vi _ => 3 - (RowKit.intOf vi).toNat)
    case atStart => exact ⟨0, [], by omega, rfl, rfl, (fun x hx => by cases hx), T0⟩
    case round =>
      obtain ⟨k, g, hk, rfl, hgl, hg8, HTR⟩ := hrel
      obtain ⟨A4, c4, rfl, SL4⟩ := HTR.out.o4.parts
      obtain ⟨A5, c5, rfl, SL5⟩ := HTR.out.o5.parts
      obtain ⟨A6, c6, rfl, SL6⟩ := HTR.out.o6.parts
      by_cases hk3 : k < 3
      · obtain ⟨cl, hcl⟩ := kinds_get hk3
        have hcell := HTR.out.blk.cell hcl
        have HG8 := Lib.hid hg8
        have HGL := Lib.hid hgl
        obtain ⟨hb4, hb5, hb6⟩ : (boths g).length ≤ 3 ∧ (lefts g).length ≤ 3 ∧ (rights g).length ≤ 3 := by
          refine ⟨Nat.le_trans (keep_length _) ?_, Nat.le_trans (keep_length _) ?_, Nat.le_trans (keep_length _) ?_⟩ <;> rw [List.length_map] <;> omega
        clear hcl SL4 SL5 SL6 hg8 hgl
        go_wp2_with fail
        refine (n_any w.heap.size 5 wr HTR.out.src (by decide) (by decide)).mono ?_
        rintro e w2 ⟨m, hm5, rfl, hs2, ho2⟩
        have T2 := Lib.hid (HTR.out.only hs2 ho2)
        clear hs2 ho2
        go_wp2_with fail
        refine (n_any w.heap.size 5 w2 T2.out.src (by decide) (by decide)).mono ?_
        rintro e w3 ⟨n, hn5, rfl, hs3, ho3⟩
        have T3 := Lib.hid (T2.out.only hs3 ho3)
        clear hs3 ho3 hcell T2 HTR
        obtain ⟨ts, hts⟩ : ∃ x, ratText (((m + n : Nat) : Int) : Rat) = x := ⟨_, rfl⟩
        have HTS := Lib.hid hts
        have RS : Hid (∀ w', Calls Tryz.prog 8 #[.int .i64 ((m : Int) + (n : Int))] w' fun e w'' => e = .returned (.string ⟨ts.toArray⟩) ∧ Ext w' w'') := fun w' => by
          have h := rwhole_any ((m + n : Nat) : Int) w' (by omega) (by omega)
          rw [hts, Int.natCast_add] at h
          exact h
        clear hts
        rcases Nat.eq_zero_or_pos m with hm0 | hm0
        · have hd1 : decide ((m : Int) > 0) = false := by rw [decide_eq_false_iff_not]; omega
          rcases Nat.eq_zero_or_pos n with hn0 | hn0
          · have hd2 : decide ((n : Int) > 0) = false := by rw [decide_eq_false_iff_not]; omega
            have hd3 : decide ((m : Int) + (n : Int) > 0) = false := by rw [decide_eq_false_iff_not]; omega
            have hq : ¬ 0 < m + n := by omega
            have hp : ¬ 0 < m := by omega
            have hr : ¬ 0 < n := by omega
            clear hm0 hn0
            have TF := Lib.hid (Tri.turn T3.out (show boths (g ++ [(cl, m, n)]) = _ by rw [boths_snoc, if_neg hq]) (show lefts (g ++ [(cl, m, n)]) = _ by rw [lefts_snoc, if_neg hp]) (show rights (g ++ [(cl, m, n)]) = _ by rw [rights_snoc, if_neg hr]))
            clear T3
            go_wp2
            go_roundw
            case rel => exact ⟨k + 1, g ++ [(cl, m, n)], by omega, by go_num, by simp only [List.length_append, List.length_singleton]; rw [HGL.out], duo_snoc HG8.out hm5 hn5, TF⟩
            case measure => simp [RowKit.intOf]; omega
          · have hd2 : decide ((n : Int) > 0) = true := by rw [decide_eq_true_iff]; omega
            have hd3 : decide ((m : Int) + (n : Int) > 0) = true := by rw [decide_eq_true_iff]; omega
            have hq : 0 < m + n := by omega
            have hp : ¬ 0 < m := by omega
            clear hm0
            go_wp2_with fail
            refine (rwhole_any (n : Int) w3 (by omega) (by omega)).mono ?_
            rintro e w4 ⟨rfl, hx⟩
            have TM := Lib.hid (T3.out.exts hx)
            have hw : w1.heap.size + 1 ≤ w4.heap.size := TM.out.size
            have hbt : ((rights g).length + 1) * 32 ≤ 140737488355328 := by omega
            have HR : Hid (w4.ownsRow (w1.heap.size + 1) tTally 2 (.slice A6 (rights g).length c6) (rights g).length (tcells (rights g))) := TM.out.o6
            clear hx
            go_wp2_with (at_builtin; refine wpList_app1 rfl _ _ tTallies rfl (w1.heap.size + 1) tal_slice _ _ _ rfl HR.out #[.string ⟨cl.toArray⟩, .string ⟨(ratText ((n : Int) : Rat)).toArray⟩] 1 1 rfl rfl rfl hbt hw ?_)
            intro v' w5 ho hg hb
            obtain ⟨A6x, c6x, rfl, _, _, _⟩ := own_parts ho
            skip
            have T5 := Lib.hid (((TM.out.swap6).app ho hg hb).swap6)
            clear ho hg hb TM hw hbt HR T3
            go_wp2_with fail
            refine (RS.out w5).mono ?_
            rintro e w6 ⟨rfl, hx⟩
            have TM := Lib.hid (T5.out.exts hx)
            have hw : w1.heap.size + 1 ≤ w6.heap.size := TM.out.size
            have hbt : ((boths g).length + 1) * 32 ≤ 140737488355328 := by omega
            have HR : Hid (w6.ownsRow (w1.heap.size + 1) tTally 2 (.slice A4 (boths g).length c4) (boths g).length (tcells (boths g))) := TM.out.o4
            clear hx
            go_wp2_with (at_builtin; refine wpList_app1 rfl _ _ tTallies rfl (w1.heap.size + 1) tal_slice _ _ _ rfl HR.out #[.string ⟨cl.toArray⟩, .string ⟨(ts).toArray⟩] 1 1 rfl rfl rfl hbt hw ?_)
            intro v' w7 ho hg hb
            obtain ⟨A4x, c4x, rfl, _, _, _⟩ := own_parts ho
            rw [← HTS.out] at ho
            have T7 := Lib.hid (((TM.out).app ho hg hb))
            clear ho hg hb TM hw hbt HR T5
            have TF := Lib.hid (Tri.turn T7.out (show boths (g ++ [(cl, m, n)]) = _ by rw [boths_snoc, if_pos hq]) (show lefts (g ++ [(cl, m, n)]) = _ by rw [lefts_snoc, if_neg hp]) (show rights (g ++ [(cl, m, n)]) = _ by rw [rights_snoc, if_pos hn0]))
            clear T7
            go_wp2
            go_roundw
            case rel => exact ⟨k + 1, g ++ [(cl, m, n)], by omega, by go_num, by simp only [List.length_append, List.length_singleton]; rw [HGL.out], duo_snoc HG8.out hm5 hn5, TF⟩
            case measure => simp [RowKit.intOf]; omega
        · have hd1 : decide ((m : Int) > 0) = true := by rw [decide_eq_true_iff]; omega
          have hd3 : decide ((m : Int) + (n : Int) > 0) = true := by rw [decide_eq_true_iff]; omega
          have hq : 0 < m + n := by omega
          go_wp2_with fail
          refine (rwhole_any (m : Int) w3 (by omega) (by omega)).mono ?_
          rintro e w4 ⟨rfl, hx⟩
          have TM := Lib.hid (T3.out.exts hx)
          have hw : w1.heap.size + 1 ≤ w4.heap.size := TM.out.size
          have hbt : ((lefts g).length + 1) * 32 ≤ 140737488355328 := by omega
          have HR : Hid (w4.ownsRow (w1.heap.size + 1) tTally 2 (.slice A5 (lefts g).length c5) (lefts g).length (tcells (lefts g))) := TM.out.o5
          clear hx
          go_wp2_with (at_builtin; refine wpList_app1 rfl _ _ tTallies rfl (w1.heap.size + 1) tal_slice _ _ _ rfl HR.out #[.string ⟨cl.toArray⟩, .string ⟨(ratText ((m : Int) : Rat)).toArray⟩] 1 1 rfl rfl rfl hbt hw ?_)
          intro v' w5 ho hg hb
          obtain ⟨A5x, c5x, rfl, _, _, _⟩ := own_parts ho
          skip
          have T5 := Lib.hid (((TM.out.swap5).app ho hg hb).swap5)
          clear ho hg hb TM hw hbt HR T3
          rcases Nat.eq_zero_or_pos n with hn0 | hn0
          · have hd2 : decide ((n : Int) > 0) = false := by rw [decide_eq_false_iff_not]; omega
            have hr : ¬ 0 < n := by omega
            clear hn0
            go_wp2_with fail
            refine (RS.out w5).mono ?_
            rintro e w6 ⟨rfl, hx⟩
            have TM := Lib.hid (T5.out.exts hx)
            have hw : w1.heap.size + 1 ≤ w6.heap.size := TM.out.size
            have hbt : ((boths g).length + 1) * 32 ≤ 140737488355328 := by omega
            have HR : Hid (w6.ownsRow (w1.heap.size + 1) tTally 2 (.slice A4 (boths g).length c4) (boths g).length (tcells (boths g))) := TM.out.o4
            clear hx
            go_wp2_with (at_builtin; refine wpList_app1 rfl _ _ tTallies rfl (w1.heap.size + 1) tal_slice _ _ _ rfl HR.out #[.string ⟨cl.toArray⟩, .string ⟨(ts).toArray⟩] 1 1 rfl rfl rfl hbt hw ?_)
            intro v' w7 ho hg hb
            obtain ⟨A4x, c4x, rfl, _, _, _⟩ := own_parts ho
            rw [← HTS.out] at ho
            have T7 := Lib.hid (((TM.out).app ho hg hb))
            clear ho hg hb TM hw hbt HR T5
            have TF := Lib.hid (Tri.turn T7.out (show boths (g ++ [(cl, m, n)]) = _ by rw [boths_snoc, if_pos hq]) (show lefts (g ++ [(cl, m, n)]) = _ by rw [lefts_snoc, if_pos hm0]) (show rights (g ++ [(cl, m, n)]) = _ by rw [rights_snoc, if_neg hr]))
            clear T7
            go_wp2
            go_roundw
            case rel => exact ⟨k + 1, g ++ [(cl, m, n)], by omega, by go_num, by simp only [List.length_append, List.length_singleton]; rw [HGL.out], duo_snoc HG8.out hm5 hn5, TF⟩
            case measure => simp [RowKit.intOf]; omega
          · have hd2 : decide ((n : Int) > 0) = true := by rw [decide_eq_true_iff]; omega
            go_wp2_with fail
            refine (rwhole_any (n : Int) w5 (by omega) (by omega)).mono ?_
            rintro e w6 ⟨rfl, hx⟩
            have TM := Lib.hid (T5.out.exts hx)
            have hw : w1.heap.size + 1 ≤ w6.heap.size := TM.out.size
            have hbt : ((rights g).length + 1) * 32 ≤ 140737488355328 := by omega
            have HR : Hid (w6.ownsRow (w1.heap.size + 1) tTally 2 (.slice A6 (rights g).length c6) (rights g).length (tcells (rights g))) := TM.out.o6
            clear hx
            go_wp2_with (at_builtin; refine wpList_app1 rfl _ _ tTallies rfl (w1.heap.size + 1) tal_slice _ _ _ rfl HR.out #[.string ⟨cl.toArray⟩, .string ⟨(ratText ((n : Int) : Rat)).toArray⟩] 1 1 rfl rfl rfl hbt hw ?_)
            intro v' w7 ho hg hb
            obtain ⟨A6x, c6x, rfl, _, _, _⟩ := own_parts ho
            skip
            have T7 := Lib.hid (((TM.out.swap6).app ho hg hb).swap6)
            clear ho hg hb TM hw hbt HR T5
            go_wp2_with fail
            refine (RS.out w7).mono ?_
            rintro e w8 ⟨rfl, hx⟩
            have TM := Lib.hid (T7.out.exts hx)
            have hw : w1.heap.size + 1 ≤ w8.heap.size := TM.out.size
            have hbt : ((boths g).length + 1) * 32 ≤ 140737488355328 := by omega
            have HR : Hid (w8.ownsRow (w1.heap.size + 1) tTally 2 (.slice A4 (boths g).length c4) (boths g).length (tcells (boths g))) := TM.out.o4
            clear hx
            go_wp2_with (at_builtin; refine wpList_app1 rfl _ _ tTallies rfl (w1.heap.size + 1) tal_slice _ _ _ rfl HR.out #[.string ⟨cl.toArray⟩, .string ⟨(ts).toArray⟩] 1 1 rfl rfl rfl hbt hw ?_)
            intro v' w9 ho hg hb
            obtain ⟨A4x, c4x, rfl, _, _, _⟩ := own_parts ho
            rw [← HTS.out] at ho
            have T9 := Lib.hid (((TM.out).app ho hg hb))
            clear ho hg hb TM hw hbt HR T7
            have TF := Lib.hid (Tri.turn T9.out (show boths (g ++ [(cl, m, n)]) = _ by rw [boths_snoc, if_pos hq]) (show lefts (g ++ [(cl, m, n)]) = _ by rw [lefts_snoc, if_pos hm0]) (show rights (g ++ [(cl, m, n)]) = _ by rw [rights_snoc, if_pos hn0]))
            clear T9
            go_wp2
            go_roundw
            case rel => exact ⟨k + 1, g ++ [(cl, m, n)], by omega, by go_num, by simp only [List.length_append, List.length_singleton]; rw [HGL.out], duo_snoc HG8.out hm5 hn5, TF⟩
            case measure => simp [RowKit.intOf]; omega
      · obtain rfl : k = 3 := by omega
        obtain ⟨hs5, hs6, hs4⟩ := duo_cells (by omega) hg8
        have F4 := imp_fit' hs4
        have F5 := imp_fit' hs5
        have F6 := imp_fit' hs6
        have F7 : FitQ 8 ((total (boths g) : Int) : Rat) := fit_8 (by have := total_le hs4; omega)
        have L1 : (imp (lefts g) + imp (rights g) - imp (boths g)).num.sign ≤ 0 := sign_le (by have := imp_parts g; grind)
        have L2 := boths_zero g
        have L3 := boths_less g
        obtain ⟨t5, ht5⟩ : ∃ x, ratText (imp (lefts g)) = x := ⟨_, rfl⟩
        obtain ⟨t6, ht6⟩ : ∃ x, ratText (imp (rights g)) = x := ⟨_, rfl⟩
        obtain ⟨t4, ht4⟩ : ∃ x, ratText (imp (boths g)) = x := ⟨_, rfl⟩
        obtain ⟨t7, ht7⟩ : ∃ x, ratText ((total (boths g) : Int) : Rat) = x := ⟨_, rfl⟩
        obtain ⟨t8, ht8⟩ : ∃ x, ratText (imp (lefts g) + imp (rights g)) = x := ⟨_, rfl⟩
        obtain ⟨z1, hz1⟩ : ∃ x, (imp (lefts g) + imp (rights g) - imp (boths g)).num.sign = x := ⟨_, rfl⟩
        obtain ⟨z2, hz2⟩ : ∃ x, (imp (boths g) - ((total (boths g) : Int) : Rat)).num.sign = x := ⟨_, rfl⟩
        have F8 : FitQ 400 (imp (lefts g) + imp (rights g)) := (F5.add F6).up (by decide)
        have C4 : Hid (∀ w', Ext wr w' → Calls Tryz.prog 12 #[.slice A4 (boths g).length c4] w' fun e w'' => e = .returned (.string ⟨t4.toArray⟩) ∧ Ext w' w'') := fun w' hx => by
          have h := cimp_any A4 (boths g) c4 w' hs4 (SL4.ext hx) (HT.out.ext (HTR.out.ext.trans hx))
          rw [ht4] at h
          exact h
        have C5 : Hid (∀ w', Ext wr w' → Calls Tryz.prog 12 #[.slice A5 (lefts g).length c5] w' fun e w'' => e = .returned (.string ⟨t5.toArray⟩) ∧ Ext w' w'') := fun w' hx => by
          have h := cimp_any A5 (lefts g) c5 w' hs5 (SL5.ext hx) (HT.out.ext (HTR.out.ext.trans hx))
          rw [ht5] at h
          exact h
        have C6 : Hid (∀ w', Ext wr w' → Calls Tryz.prog 12 #[.slice A6 (rights g).length c6] w' fun e w'' => e = .returned (.string ⟨t6.toArray⟩) ∧ Ext w' w'') := fun w' hx => by
          have h := cimp_any A6 (rights g) c6 w' hs6 (SL6.ext hx) (HT.out.ext (HTR.out.ext.trans hx))
          rw [ht6] at h
          exact h
        have C7 : Hid (∀ w', Ext wr w' → Calls Tryz.prog 13 #[.slice A4 (boths g).length c4] w' fun e w'' => e = .returned (.string ⟨t7.toArray⟩) ∧ Ext w' w'') := fun w' hx => by
          have h := ctotal_any A4 (boths g) c4 w' hs4 (SL4.ext hx) (HT.out.ext (HTR.out.ext.trans hx))
          rw [ht7] at h
          exact h
        have AD : Hid (∀ w', Calls Tryz.prog 15 #[.string ⟨t5.toArray⟩, .string ⟨t6.toArray⟩] w' fun e w'' => e = .returned (.tuple #[.string ⟨t8.toArray⟩, .int .i64 0]) ∧ Ext w' w'') := fun w' => by
          have h := r2add_any (imp (lefts g)) (imp (rights g)) w' (F5.up (by decide)) (F6.up (by decide)) F8
          rw [ht5, ht6, ht8] at h
          exact h
        have M1 : Hid (∀ w', Calls Tryz.prog 16 #[.string ⟨t8.toArray⟩, .string ⟨t4.toArray⟩] w' fun e w'' => e = .returned (.int .i64 z1) ∧ Ext w' w'') := fun w' => by
          have h := r2compare_any (imp (lefts g) + imp (rights g)) (imp (boths g)) w' F8 (F4.up (by decide))
          rw [ht8, ht4, hz1] at h
          exact h
        have M2 : Hid (∀ w', Calls Tryz.prog 16 #[.string ⟨t4.toArray⟩, .string ⟨t7.toArray⟩] w' fun e w'' => e = .returned (.int .i64 z2) ∧ Ext w' w'') := fun w' => by
          have h := r2compare_any (imp (boths g)) ((total (boths g) : Int) : Rat) w' (F4.up (by decide)) (F7.up (by decide))
          rw [ht4, ht7, hz2] at h
          exact h
        rw [hz1] at L1
        have K1 : t4 = [48] ↔ (boths g).length ≤ 1 := by rw [← ht4, ratText_zero]; exact L2
        have K2 : (boths g).length ≠ 0 → z2 < 0 := fun h => by rw [← hz2]; exact sign_lt (L3 h)
        have HSM := Lib.hid (fun w' (hx : Ext wr w') => sane_any w' (HT.out.ext (HTR.out.ext.trans hx)))
        have HXR := Lib.hid HTR.out.ext
        clear ht4 ht5 ht6 ht7 ht8 hz1 hz2 F4 F5 F6 F7 F8 hs4 hs5 hs6 SL4 SL5 SL6 HTR L2 L3 hg8 hgl T0
        have hd1 : decide (z1 ≤ 0) = true := decide_eq_true L1
        generalize (boths g).length = n4 at *
        generalize (lefts g).length = n5 at *
        generalize (rights g).length = n6 at *
        go_wp2_with fail
        refine (C5.out wr (Ext.refl wr)).mono ?_
        rintro e w4 ⟨rfl, hx4⟩
        go_wp2_with fail
        refine (C6.out w4 hx4).mono ?_
        rintro e w5 ⟨rfl, hx5⟩
        have hy5 := hx4.trans hx5
        go_wp2_with fail
        refine (AD.out w5).mono ?_
        rintro e w6 ⟨rfl, hx6⟩
        have hy6 := hy5.trans hx6
        go_wp2_with fail
        refine (C4.out w6 hy6).mono ?_
        rintro e w7 ⟨rfl, hx7⟩
        have hy7 := hy6.trans hx7
        go_wp2_with fail
        refine (M1.out w7).mono ?_
        rintro e w8 ⟨rfl, hx8⟩
        have hy8 := hy7.trans hx8
        go_wp2_with fail
        refine (C4.out w8 hy8).mono ?_
        rintro e w9 ⟨rfl, hx9⟩
        have hy9 := hy8.trans hx9
        have hne : n4 ≠ 0 → z2 < 0 := K2
        rcases Nat.lt_or_ge n4 2 with hn | hn
        · obtain rfl : t4 = [48] := K1.2 (by omega)
          rcases Nat.eq_zero_or_pos n4 with hn0 | hn0
          · subst hn0
            clear K1 K2 hne hn
            go_wp2_with fail
            refine (HSM.out w9 hy9).mono ?_
            rintro e wa ⟨rfl, hxa⟩
            go_wp2
            go_ret
            exact ⟨rfl, HXR.out.trans (hy9.trans hxa)⟩
          · obtain rfl : n4 = 1 := by omega
            have hd2 : decide (z2 < 0) = true := decide_eq_true (hne (by omega))
            clear K1 K2 hne hn hn0
            go_wp2_with fail
            refine (C4.out w9 hy9).mono ?_
            rintro e wa ⟨rfl, hxa⟩
            have hya := (hy9).trans hxa
            go_wp2_with fail
            refine (C7.out wa hya).mono ?_
            rintro e wb ⟨rfl, hxb⟩
            have hyb := hya.trans hxb
            go_wp2_with fail
            refine (M2.out wb).mono ?_
            rintro e wc ⟨rfl, hxc⟩
            have hyc := hyb.trans hxc
            go_wp2_with fail
            refine (HSM.out wc hyc).mono ?_
            rintro e wd ⟨rfl, hxd⟩
            go_wp2
            go_ret
            exact ⟨rfl, HXR.out.trans (hyc.trans hxd)⟩
        · have hd2 : decide (z2 < 0) = true := decide_eq_true (hne (by omega))
          have hd3 : ¬ t4 = [48] := fun e => by have h := K1.1 e; omega
          have hd6 : (t4 == [48]) = false := beq_eq_false_iff_ne.2 hd3
          have hd4 : decide ((n4 : Int) ≤ 1) = false := decide_eq_false (by omega)
          have hd5 : ((n4 : Int) == 0) = false := beq_eq_false_iff_ne.2 (by omega)
          clear K1 K2 hne
          go_wp2_with fail
          refine (C4.out w9 hy9).mono ?_
          rintro e wa ⟨rfl, hxa⟩
          have hya := (hy9).trans hxa
          go_wp2_with fail
          refine (C7.out wa hya).mono ?_
          rintro e wb ⟨rfl, hxb⟩
          have hyb := hya.trans hxb
          go_wp2_with fail
          refine (M2.out wb).mono ?_
          rintro e wc ⟨rfl, hxc⟩
          have hyc := hyb.trans hxc
          go_wp2_with fail
          refine (HSM.out wc hyc).mono ?_
          rintro e wd ⟨rfl, hxd⟩
          go_wp2
          go_ret
          exact ⟨rfl, HXR.out.trans (hyc.trans hxd)⟩
  · have hd : decide (zs.length ≤ 600) = false := decide_eq_false hl
    rw [hd]
    go_wp2_with fail
    refine (sane_any w HT.out).mono ?_
    rintro e w1 ⟨rfl, hx1⟩
    go_wp2
    go_ret
    exact ⟨rfl, hx1⟩
end Go.Proofs.YteagmfbaebmplaaGreatDoor
