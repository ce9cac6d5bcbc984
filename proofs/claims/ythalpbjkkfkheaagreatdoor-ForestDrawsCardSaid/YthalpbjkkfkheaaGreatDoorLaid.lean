/- The witness' world: the listed variables as their initialisers lay them; how a law's one argument opens. -/
import Derived.Test.YthalpbjkkfkheaaGreatDoorRow
import Derived.Test.YthalpbjkkfkheaaGreatDoorCards
import Derived.Test.YthalpbjkkfkheaaGreatDoorTie
import Derived.Test.YthalpbjkkfkheaaGreatDoorMake
namespace Go.Proofs.YthalpbjkkfkheaaGreatDoor
open Go.ChangeShapes Go.WideShapes Go.ChangeAt Go.RowKit

theorem own_knob : ownKnob Tryz.prog.godebug = none := by kernel_rfl
theorem laid_out : laidOutB Tryz.prog = true := by kernel_rfl
def tab32 : List Int := [0, 1, 28, 2, 29, 14, 24, 3, 30, 22, 20, 15, 25, 17, 4, 8, 31, 27, 13, 23, 21, 19, 16, 7, 26, 12, 18, 6, 11, 5, 10, 9]
def tab64 : List Int := [0, 1, 56, 2, 57, 49, 28, 3, 61, 58, 42, 50, 38, 29, 17, 4, 62, 47, 59, 36, 45, 43, 51, 22, 53, 39, 33, 30, 24, 18, 12, 5, 63, 55, 48, 27, 60, 41, 37, 16, 46, 35, 44, 21, 52, 32, 23, 11, 54, 26, 40, 15, 34, 20, 31, 10, 25, 14, 19, 9, 13, 8, 7, 6]
theorem gTab : Tryz.prog.globalNamed "internal/strconv.uint64pow10" = some 0 := by kernel_rfl
noncomputable def low : Nat := (World.holding Tryz.prog default ⟨#[], #[], []⟩).heap.size
def laidObjs : Array Obj := #[.cells #[.string { data := #[118, 97, 108, 117, 101, 32, 111, 117, 116, 32, 111, 102, 32, 114, 97, 110, 103, 101] }] 173, .cells #[.string { data := #[105, 110, 118, 97, 108, 105, 100, 32, 115, 121, 110, 116, 97, 120] }] 173]
/-- a world for the witness -/
noncomputable def laidWorld (os : Os) : World :=
  let w := World.holding Tryz.prog os ⟨laidObjs, #[], []⟩
  { w with heap := ((((w.heap.modify 1 fun
      | .cells _ t frozen => .cells (tab32.map (Value.int .u8)).toArray t frozen
      | o => o).modify 2 fun
      | .cells _ t frozen => .cells (tab64.map (Value.int .u8)).toArray t frozen
      | o => o).modify 0 fun
      | .cells _ t frozen => .cells (Lib.pow10Tab.map (Value.int .u64)).toArray t frozen
      | o => o).modify 5 fun
      | .cells _ t frozen => .cells #[.iface 171 (.pointer (some ⟨low, 0, none⟩))] t frozen
      | o => o).modify 4 fun
      | .cells _ t frozen => .cells #[.iface 171 (.pointer (some ⟨low + 1, 0, none⟩))] t frozen
      | o => o }
/-- numbers that came in -/
theorem nums_in {W : World} {B : Option Addr} {zs : List Int} (hcb : ∀ (j : Nat) (hj : j < zs.length), ∃ ad, B = some ad ∧ W.cell? (ad.add j) = some (.int .i64 zs[j])) : ∃ t, Sl W t B (zcells zs) := Sl.of_cells (by
    intro j u hu
    have hj : j < zs.length := by
      rcases Nat.lt_or_ge j zs.length with h | h
      · exact h
      · rw [List.getElem?_eq_none (by simpa [zcells] using h)] at hu; cases hu
    obtain ⟨ad, hA, hc⟩ := hcb j hj
    refine ⟨ad, hA, hc.trans ?_⟩
    rw [← hu]
    simp [zcells, hj])
theorem i64_of_wf {z : Int} (h : (Lit.int .i64 z).wf = true) : -9223372036854775808 ≤ z ∧ z ≤ 9223372036854775807 := by
  rw [Lit.wf, Bool.and_eq_true] at h
  exact ⟨of_decide_eq_true h.1, of_decide_eq_true h.2⟩
end Go.Proofs.YthalpbjkkfkheaaGreatDoor
