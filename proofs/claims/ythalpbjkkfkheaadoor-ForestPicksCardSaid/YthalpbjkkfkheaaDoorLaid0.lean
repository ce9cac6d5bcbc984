/- The witness' world: the listed variables as their initialisers lay them; how a law's one argument opens. -/
import Derived.Test.YthalpbjkkfkheaaDoorRow
import Derived.Test.YthalpbjkkfkheaaDoorCards
import Derived.Test.YthalpbjkkfkheaaDoorTie
import Derived.Test.YthalpbjkkfkheaaDoorMake
namespace Go.Proofs.YthalpbjkkfkheaaDoor
open Go.ChangeShapes Go.WideShapes Go.ChangeAt Go.RowKit

theorem own_knob : ownKnob Tryd.prog.godebug = none := by kernel_rfl
theorem laid_out : laidOutB Tryd.prog = true := by kernel_rfl
def tab32 : List Int := [0, 1, 28, 2, 29, 14, 24, 3, 30, 22, 20, 15, 25, 17, 4, 8, 31, 27, 13, 23, 21, 19, 16, 7, 26, 12, 18, 6, 11, 5, 10, 9]
def tab64 : List Int := [0, 1, 56, 2, 57, 49, 28, 3, 61, 58, 42, 50, 38, 29, 17, 4, 62, 47, 59, 36, 45, 43, 51, 22, 53, 39, 33, 30, 24, 18, 12, 5, 63, 55, 48, 27, 60, 41, 37, 16, 46, 35, 44, 21, 52, 32, 23, 11, 54, 26, 40, 15, 34, 20, 31, 10, 25, 14, 19, 9, 13, 8, 7, 6]
theorem gTab : Tryd.prog.globalNamed "internal/strconv.uint64pow10" = some 0 := by kernel_rfl
/-- a world for the witness -/
noncomputable def laidWorld (os : Os) : World :=
  { World.holding Tryd.prog os ⟨#[], #[], []⟩ with heap := ((((World.holding Tryd.prog os ⟨#[], #[], []⟩).heap.modify 1 fun
      | .cells _ t frozen => .cells (tab32.map (Value.int .u8)).toArray t frozen
      | o => o).modify 2 fun
      | .cells _ t frozen => .cells (tab64.map (Value.int .u8)).toArray t frozen
      | o => o).modify 0 fun
      | .cells _ t frozen => .cells (Lib.pow10Tab.map (Value.int .u64)).toArray t frozen
      | o => o) }
/-- numbers that came in -/
theorem nums_in {W : World} {B : Option Addr} {zs : List Int} (hcb : ∀ (j : Nat) (hj : j < zs.length), ∃ ad, B = some ad ∧ W.cell? (ad.add j) = some (.int .i64 zs[j])) : ∃ t, Sl W t B (zcells zs) := Sl.of_cells (by
    intro j u hu
    have hj : j < zs.length := by
      rcases Nat.lt_or_ge j zs.length with h | h
      · exact h
      · rw [List.getElem?_eq_none (by simpa [zcells] using h)] at hu; cases hu
    obtain ⟨ad, hA, hc⟩ := hcb j hj
    refine ⟨ad, hA, hc.trans ?_⟩
    rw [← hu]
    simp [zcells, hj])
theorem i64_of_wf {z : Int} (h : (Lit.int .i64 z).wf = true) : -9223372036854775808 ≤ z ∧ z ≤ 9223372036854775807 := by
  rw [Lit.wf, Bool.and_eq_true] at h
  exact ⟨of_decide_eq_true h.1, of_decide_eq_true h.2⟩
end Go.Proofs.YthalpbjkkfkheaaDoor
