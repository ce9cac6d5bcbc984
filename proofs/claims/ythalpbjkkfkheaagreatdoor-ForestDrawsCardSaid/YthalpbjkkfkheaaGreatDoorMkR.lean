/- joinlearnmake: Pick, Rat, Rats. -/
import Derived.Test.YthalpbjkkfkheaaGreatDoorMk
namespace Go.Proofs.YthalpbjkkfkheaaGreatDoor
open Go.RowKit Go.Lib

set_option maxRecDepth 100000 in
set_option maxHeartbeats 4000000 in
theorem mpick_any (g gl : Nat) (ts : List Int) (w : World) (h : SrcAt w g) (hB : Blk w gl tInt (zcells ts)) (hne : gl ≠ g) (h0 : 0 < ts.length) (h1 : ts.length ≤ 1000) :
    Calls Tryz.prog 17 #[.pointer (some ⟨g, 0, none⟩), .slice (some ⟨gl, 0, none⟩) ts.length ts.length] w fun e w' => ∃ u ∈ ts, e = .returned (.int .i64 u) ∧ SrcAt w' g ∧ Only g w w' := by
  have H := Lib.hid (n_any g ts.length w h h0 (by omega))
  have HB := Lib.hid hB
  have HNE := Lib.hid hne
  clear h hB hne
  go_enter Tryz.func17, Tryz.ntmps17
  go_wp2_with fail
  refine H.out.mono ?_
  rintro e w1 ⟨r, hr, rfl, hs, ho⟩
  have hc := (HB.out.only ho HNE.out).cell (i := r) (u := .int .i64 ts[r]) (zcells_get hr)
  have HM : Hid (ts[r] ∈ ts) := List.getElem_mem hr
  generalize ts[r] = u at *
  go_wp2
  go_ret
  exact ⟨u, HM.out, rfl, hs, ho⟩
theorem divInt_fitR {x y : Int} {d e : Nat} (fx : FitQ d (x : Rat)) (fy : FitQ e (y : Rat)) (hy : 0 < y) : FitQ (d + e) (Rat.divInt x y) := by
  have h := fx.div fy (by rw [int_rat_num]; exact hy)
  rwa [← Rat.divInt_eq_div] at h
theorem int_fitR {z : Int} {e : Nat} (h : z.natAbs < 10 ^ e) (he : 1 ≤ e) : FitQ e (z : Rat) := ⟨by rw [int_rat_num]; exact h, by rw [int_rat_den]; exact Nat.one_lt_pow (by omega) (by decide)⟩
theorem small_fitZ {z : Int} (h : z.natAbs < 10) : FitZ z := ⟨1, by decide, by omega⟩
end Go.Proofs.YthalpbjkkfkheaaGreatDoor
