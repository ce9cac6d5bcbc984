/- joinlearnmake: Range with any bounds, Text, Place, Places, Cores, Shuffle. -/
import Derived.Test.YthalpbjkkfkheaaGreatDoorSame
namespace Go.Proofs.YthalpbjkkfkheaaGreatDoor
open Go.RowKit Go.Lib

set_option maxRecDepth 100000 in
set_option maxHeartbeats 4000000 in
theorem rangez_any (g : Nat) (lo hi : Int) (w : World) (h : SrcAt w g) (hl : lo ≤ hi) (h1 : -100000 ≤ lo) (h2 : hi ≤ 100000) :
    Calls Tryz.prog 15 #[.pointer (some ⟨g, 0, none⟩), .int .i64 lo, .int .i64 hi] w fun e w' => ∃ r : Int, lo ≤ r ∧ r ≤ hi ∧ e = .returned (.int .i64 r) ∧ SrcAt w' g ∧ Only g w w' := by
  have H := Lib.hid (n_any g (hi - lo + 1).toNat w h (by omega) (by omega))
  clear h
  have e : ((((hi - lo + 1).toNat : Nat)) : Int) = hi - lo + 1 := by omega
  rw [e] at H
  clear e
  go_enter Tryz.func15, Tryz.ntmps15
  go_wp2_with fail
  refine H.out.mono ?_
  rintro e w1 ⟨r, hr, rfl, hs, ho⟩
  go_wp2
  go_ret
  exact ⟨lo + r, by omega, by omega, rfl, hs, ho⟩
abbrev tStr : TypeId := 9
/-- a number of a made place -/
def IntP (q : Rat) : Prop := ∃ r : Int, -3 ≤ r ∧ r ≤ 6 ∧ q = (r : Rat)
end Go.Proofs.YthalpbjkkfkheaaGreatDoor
