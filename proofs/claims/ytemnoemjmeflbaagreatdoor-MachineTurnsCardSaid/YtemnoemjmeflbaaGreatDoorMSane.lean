/- joinlearnlaw29.sane. -/
import Derived.Test.YtemnoemjmeflbaaGreatDoorRoundW
import Derived.Test.YtemnoemjmeflbaaGreatDoorLit
namespace Go.Proofs.YtemnoemjmeflbaaGreatDoor
open Go.RowKit Go.Lib

theorem txt35 : ratText (35 : Rat) = [51, 53] := by
  have h := ratText_z 35
  rw [show ((35 : Int) : Rat) = 35 from rfl] at h
  rw [h, show (35 : Int) = ((35 : Nat) : Int) from rfl, decZ_nat, dec_big (by decide), dec_small (by decide)]
  rfl
theorem sane_rnd : rnd (5 / 8) ((2 ^ 2 : Nat) : Int) = 3 / 4 := by decide +kernel
theorem sane_sc : sc 1 [2, 0] [[1], [3]] [2, 5] = 35 := by decide +kernel
theorem txt58 : ratText (5 / 8 : Rat) = [53, 47, 56] := by
  rw [ratText_frac (by decide +kernel), show (5 / 8 : Rat).num = ((5 : Nat) : Int) by decide +kernel, show (5 / 8 : Rat).den = 8 by decide +kernel, decZ_nat, dec_small (by decide), dec_small (by decide)]
  rfl
theorem txt34 : ratText (3 / 4 : Rat) = [51, 47, 52] := by
  rw [ratText_frac (by decide +kernel), show (3 / 4 : Rat).num = ((3 : Nat) : Int) by decide +kernel, show (3 / 4 : Rat).den = 4 by decide +kernel, decZ_nat, dec_small (by decide), dec_small (by decide)]
  rfl
theorem fit_of {q : Rat} {e : Nat} (h : decide (q.num.natAbs < 10 ^ e ∧ q.den < 10 ^ e) = true) : FitQ e q := ⟨(of_decide_eq_true h).1, (of_decide_eq_true h).2⟩
theorem sane_ok : MOk 2 1 1 [2, 0] [[1], [3]] := by
  have f0 : FitQ 2 (0 : Rat) := fit_of (by decide +kernel)
  have f1 : FitQ 2 (1 : Rat) := fit_of (by decide +kernel)
  have f2 : FitQ 2 (2 : Rat) := fit_of (by decide +kernel)
  have f3 : FitQ 2 (3 : Rat) := fit_of (by decide +kernel)
  refine ⟨by decide, by decide, by decide, rfl, rfl, ?_, f1, ?_, ?_⟩
  · intro f hf; simp only [List.mem_cons, List.not_mem_nil, or_false] at hf; rcases hf with rfl | rfl <;> rfl
  · intro q hq; simp only [List.mem_cons, List.not_mem_nil, or_false] at hq; rcases hq with rfl | rfl <;> assumption
  · intro f hf q hq
    simp only [List.mem_cons, List.not_mem_nil, or_false] at hf
    rcases hf with rfl | rfl <;> (simp only [List.mem_cons, List.not_mem_nil, or_false] at hq; subst hq; assumption)
set_option maxRecDepth 100000 in
set_option maxHeartbeats 1000000 in
theorem msane_any (w : World) (ht : Tab w) : Calls Tryz.prog 7 #[] w fun e w' => e = .returned (.bool true) ∧ Ext w w' := by
  have HT := Lib.hid ht
  clear ht
  have S1 := Lib.hid (fun v A ca w' h hx ht => mScore_any v A ca 2 1 1 [2, 0] [[1], [3]] [2, 5] w' h hx sane_ok (fun q hq => by simp only [List.mem_cons, List.not_mem_nil, or_false] at hq; rcases hq with rfl | rfl <;> exact fit_of (by decide +kernel)) ht)
  rw [sane_sc, txt35] at S1
  have S2 := Lib.hid (fun w' ht => mRound_any (5 / 8) 2 w' (fit_of (by decide +kernel)) (by decide) ht)
  rw [sane_rnd, txt58, txt34] at S2
  have S3 := Lib.hid (fun v w' h => check_any v 2 1 1 [2, 0] [[1], [3]] w' h sane_ok)
  go_enter Tryz.func7, Tryz.ntmps7
  go_upto_region 2 with fail
  refine box6 (P := fun W => Code.wp _ _ _ _ W) fun W HX B1 B2 B3 B4 B5 B6 => ?_
  obtain ⟨k0, k1, k2, k3⟩ := B6.out.four
  have HMV : Hid (MV W (.agg #[.slice (some ⟨w.heap.size, 0, none⟩) 2 2, .string ⟨#[49]⟩, .slice (some ⟨w.heap.size + 1, 0, none⟩) 2 2, .slice (some ⟨w.heap.size + 1 + 1 + 1 + 1, 0, none⟩) 2 2]) 2 1 [2, 0] [[1], [3]]) :=
    ⟨_, _, _, _, _, _, by rw [txt1], il2 B1.out, rl2 B2.out txt2 txt0, pl2 B5.out (rl1 B3.out txt1) (rl1 B4.out txt3)⟩
  go_wp2_with fail
  refine box1 (P := fun W => Calls _ _ _ W _) fun W2 HX2 B7 => ?_
  refine (S1.out _ _ _ W2 (HMV.out.ext HX2.out) (rl2 B7.out txt2 txt5) (HT.out.ext (HX.out.trans HX2.out))).mono ?_
  rintro e w3 ⟨rfl, hx3⟩
  have HX3 := Lib.hid (HX.out.trans (HX2.out.trans hx3))
  have HMV3 := Lib.hid (HMV.out.ext (HX2.out.trans hx3))
  have B63 := Lib.hid (B6.out.ext (HX2.out.trans hx3))
  clear hx3 B1 B2 B3 B4 B5 B6 B7 HX2 k0 k1 k2 k3 HMV
  go_wp2_with fail
  refine (S2.out w3 (HT.out.ext HX3.out)).mono ?_
  rintro e w4 ⟨rfl, hx4⟩
  have HX4 := Lib.hid (HX3.out.trans hx4)
  have HMV4 := Lib.hid (HMV3.out.ext hx4)
  have B64 := Lib.hid (B63.out.ext hx4)
  clear hx4 B63 HMV3
  obtain ⟨k0, k1, k2, k3⟩ := B64.out.four
  go_wp2_with fail
  refine (S3.out _ w4 HMV4.out).mono ?_
  rintro e w5 ⟨rfl, hx5⟩
  go_wp2
  go_ret
  exact ⟨rfl, HX4.out.trans hx5⟩
end Go.Proofs.YtemnoemjmeflbaaGreatDoor
