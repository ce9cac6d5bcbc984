/- joinlearnmake: Range with any bounds, Text, Place, Places, Cores, Shuffle. -/
import Derived.Test.YtkhmfgkbobblmaaGreatDoorSame
namespace Go.Proofs.YtkhmfgkbobblmaaGreatDoor
open Go.RowKit Go.Lib

set_option maxRecDepth 100000 in
set_option maxHeartbeats 4000000 in
theorem rangez_any (g : Nat) (lo hi : Int) (w : World) (h : SrcAt w g) (hl : lo ≤ hi) (h1 : -100000 ≤ lo) (h2 : hi ≤ 100000) :
    Calls Tryz.prog 11 #[.pointer (some ⟨g, 0, none⟩), .int .i64 lo, .int .i64 hi] w fun e w' => ∃ r : Int, lo ≤ r ∧ r ≤ hi ∧ e = .returned (.int .i64 r) ∧ SrcAt w' g ∧ Only g w w' := by
  have H := Lib.hid (n_any g (hi - lo + 1).toNat w h (by omega) (by omega))
  clear h
  have e : ((((hi - lo + 1).toNat : Nat)) : Int) = hi - lo + 1 := by omega
  rw [e] at H
  clear e
  go_enter Tryz.func11, Tryz.ntmps11
  go_wp2_with fail
  refine H.out.mono ?_
  rintro e w1 ⟨r, hr, rfl, hs, ho⟩
  go_wp2
  go_ret
  exact ⟨lo + r, by omega, by omega, rfl, hs, ho⟩
abbrev tStr : TypeId := 9
set_option maxRecDepth 100000 in
set_option maxHeartbeats 4000000 in
theorem mtext_any (g gl : Nat) (ts : List Value) (w : World) (h : SrcAt w g) (hB : Blk w gl tStr ts) (hne : gl ≠ g) (h0 : 0 < ts.length) (h1 : ts.length ≤ 1000) :
    Calls Tryz.prog 30 #[.pointer (some ⟨g, 0, none⟩), .slice (some ⟨gl, 0, none⟩) ts.length ts.length] w fun e w' => ∃ u ∈ ts, e = .returned u ∧ SrcAt w' g ∧ Only g w w' := by
  have H := Lib.hid (n_any g ts.length w h h0 (by omega))
  have HB := Lib.hid hB
  have HNE := Lib.hid hne
  clear h hB hne
  go_enter Tryz.func30, Tryz.ntmps30
  go_wp2_with fail
  refine H.out.mono ?_
  rintro e w1 ⟨r, hr, rfl, hs, ho⟩
  have hc := (HB.out.only ho HNE.out).cell (i := r) (u := ts[r]) (by simp [hr])
  have HM : Hid (ts[r] ∈ ts) := List.getElem_mem hr
  generalize ts[r] = u at *
  go_wp2
  go_ret
  exact ⟨u, HM.out, rfl, hs, ho⟩
/-- a number of a made place -/
def IntP (q : Rat) : Prop := ∃ r : Int, -3 ≤ r ∧ r ≤ 6 ∧ q = (r : Rat)
end Go.Proofs.YtkhmfgkbobblmaaGreatDoor
