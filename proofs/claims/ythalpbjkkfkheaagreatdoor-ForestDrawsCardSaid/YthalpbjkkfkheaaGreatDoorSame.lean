/- joinlearnref02.Same, joinlearnref27.Lists, joinlearnref05.Ints. -/
import Derived.Test.YthalpbjkkfkheaaGreatDoorOwn
import Derived.BigQuiet
namespace Go.Proofs.YthalpbjkkfkheaaGreatDoor
open Go.RowKit Go.Lib

theorem take_next {α : Type} {l m : List α} {k : Nat} (hl : l.length = m.length) (hk : k < l.length) (h : l.take k = m.take k) (e : l[k] = m[k]'(by omega)) : l.take (k + 1) = m.take (k + 1) := by
  rw [List.take_succ_eq_append_getElem hk, List.take_succ_eq_append_getElem (by omega), h, e]
theorem ne_next {α : Type} {l m : List α} {k : Nat} (hl : l.length = m.length) (hk : k < l.length) (e : ¬ l[k] = m[k]'(by omega)) : ¬ l = m := by
  rintro rfl
  exact e rfl
abbrev tInt : TypeId := 3
/-- a number as a cell -/
def IntR (_ : World) (c : List Value) (z : Int) : Prop := c = [.int .i64 z]
theorem IntR.stab : Stab [] IntR := fun _ _ _ _ _ h => h
theorem IntR.one (w : World) (c : List Value) (z : Int) (h : IntR w c z) : c.length = 1 := by rw [h]; rfl
abbrev IL := Ls tInt IntR
theorem IL.ext {w w' : World} {v : Value} {l : List Int} (h : IL w v l) (hx : Ext w w') : IL w' v l := Ls.ext IntR.stab h hx
theorem IL.get {w : World} {A : Option Addr} {n c : Nat} {l : List Int} (h : IL w (.slice A n c) l) {i : Nat} (hi : i < l.length) : ∃ g o, A = some ⟨g, o, none⟩ ∧ g < w.heap.size ∧ w.cell? ⟨g, o + i, none⟩ = some (.int .i64 l[i]) := by
  obtain ⟨g, o, d, h1, h2, h3, h4⟩ := Ls.get IntR.one (by decide) h hi
  have h5 := h4 0 _ (by rw [show d = _ from h3]; rfl)
  rw [Nat.mul_one, Nat.add_zero] at h5
  exact ⟨g, o, h1, h2, h5⟩
end Go.Proofs.YthalpbjkkfkheaaGreatDoor
