/- forest.Pick's comparison; an insertion sort as the library does it. -/
import Derived.Test.YthalpbjkkfkheaaGreatDoorHashLaw
import Derived.Test.YthalpbjkkfkheaaGreatDoorSchr
namespace Go.Proofs.YthalpbjkkfkheaaGreatDoor
open Go.RowKit Go.Lib

/-- how the library compares two numbers -/
def cmpU (x y : Int) : Int := if x < y then -1 else if y < x then 1 else 0
/-- the key of a feature -/
def keyF (seed tree a : Int) : Int := hashL (textL [seed, tree, a] [])
set_option maxRecDepth 100000 in
theorem key_text (seed tree a : Int) (g : Nat) (w : World) (h : Blk w g tInt [.int .i64 seed, .int .i64 tree, .int .i64 a]) (h1 : I64 seed) (h2 : I64 tree) (h3 : I64 a) (ht : Tab w) :
    Calls Tryz.prog 26 #[.slice (some ⟨g, 0, none⟩) 3 3, .slice none 0 0] w fun e w' => ∃ A c, e = .returned (.slice A (textL [seed, tree, a] []).length c) ∧ Sl w' 5 A (byteCells (textL [seed, tree, a] [])) ∧ (textL [seed, tree, a] []).length ≤ 1000000 ∧ Ext w w' := by
  have hI : ∀ n ∈ [seed, tree, a], I64 n := fun n hn => by
    simp only [List.mem_cons, List.not_mem_nil, or_false] at hn
    rcases hn with rfl | rfl | rfl <;> assumption
  have hx := text_any (some ⟨g, 0, none⟩) none 3 0 [seed, tree, a] [] w (by simp) hI (by simp) 100 (by decide) (by simp [strsL]) (t1 := tInt) (t2 := tStr) (h.sl 0) Sl.nil ht
  refine hx.mono fun e w' h => ?_
  obtain ⟨v, rfl, ho, hx⟩ := h
  obtain ⟨A, c, rfl, _, _, hsl⟩ := own_parts ho
  refine ⟨A, c, rfl, hsl, ?_, hx⟩
  have := numsL_len [seed, tree, a] hI
  simp only [textL, strsL, List.flatMap_nil, List.append_nil, List.length_cons, List.length_nil] at this ⊢
  omega
/-- a feature's comparison with another -/
def ltF (seed tree a b : Int) : Bool := decide (cmpU (keyF seed tree a) (keyF seed tree b) < 0)
end Go.Proofs.YthalpbjkkfkheaaGreatDoor
