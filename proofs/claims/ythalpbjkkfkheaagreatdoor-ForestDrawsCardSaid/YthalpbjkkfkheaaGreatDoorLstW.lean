/- exact.Valid, exact.List, walked. -/
import Derived.Test.YthalpbjkkfkheaaGreatDoorOwn
namespace Go.Proofs.YthalpbjkkfkheaaGreatDoor
open Go.RowKit Go.Lib

/-- n fractions as make lays them -/
def zfour : List Value := [.bool false, .slice none 0 0, .bool false, .slice none 0 0]
def zfracs (n : Nat) : List Value := (List.replicate n zfour).flatten
theorem zfracs_length (n : Nat) : (zfracs n).length = n * 4 := by
  induction n with
  | zero => rfl
  | succ n ih => rw [zfracs, List.replicate_succ, List.flatten_cons, List.length_append, ← zfracs, ih, Nat.succ_mul]; simp [zfour]; omega
theorem zfracs_get (n : Nat) : ∀ i, i < n * 4 → (zfracs n)[i]? = zfour[i % 4]? := by
  induction n with
  | zero => intro i h; omega
  | succ n ih =>
    intro i h
    rw [zfracs, List.replicate_succ, List.flatten_cons, ← zfracs]
    rcases Nat.lt_or_ge i 4 with h4 | h4
    · rw [List.getElem?_append_left (by simpa [zfour] using h4), Nat.mod_eq_of_lt h4]
    · rw [List.getElem?_append_right (by simpa [zfour] using h4), show zfour.length = 4 from rfl, ih (i - 4) (by omega), show i % 4 = (i - 4) % 4 by omega]
theorem made_four (n : Nat) : madeCells #[.bool false, .slice none 0 0, .bool false, .slice none 0 0] (n * 4) = (zfracs n).toArray := by
  apply Array.ext
  · simp [madeCells, zfracs_length]
  · intro i h1 h2
    have h3 : i < n * 4 := by simpa [zfracs_length] using h2
    have h := zfracs_get n i h3
    rw [List.getElem?_eq_getElem (by simpa using h2), List.getElem?_eq_getElem (by simp [zfour]; omega)] at h
    injection h with h
    simp only [List.getElem_toArray]
    rw [h]
    have h5 : i % 4 < 4 := Nat.mod_lt _ (by decide)
    simp only [madeCells, Array.getElem_map, Array.getElem_range, List.size_toArray, List.length_cons, List.length_nil, zfour]
    rw [getElem!_pos _ _ (by simpa using h5)]
    rfl
theorem zfracs_succ {n k : Nat} (h : k < n) : zfracs (n - k) = zfour ++ zfracs (n - (k + 1)) := by
  rw [show n - k = (n - (k + 1)) + 1 by omega, zfracs, List.replicate_succ, List.flatten_cons, ← zfracs]
theorem row4_cells {w : World} {g k : Nat} {t : TypeId} {xs ys : List Value} {a b c d : Value} (hB : Blk w g t (xs ++ ([a, b, c, d] ++ ys))) (hx : xs.length = k * 4) :
    w.cell? ⟨g, k * 4, none⟩ = some a ∧ w.cell? ⟨g, k * 4 + 1, none⟩ = some b ∧ w.cell? ⟨g, k * 4 + 2, none⟩ = some c ∧ w.cell? ⟨g, k * 4 + 3, none⟩ = some d := by
  refine ⟨hB.cell ?_, hB.cell ?_, hB.cell ?_, hB.cell ?_⟩ <;> rw [List.getElem?_append_right (by omega), hx]
  · rw [Nat.sub_self]; rfl
  · rw [show k * 4 + 1 - k * 4 = 1 by omega]; rfl
  · rw [show k * 4 + 2 - k * 4 = 2 by omega]; rfl
  · rw [show k * 4 + 3 - k * 4 = 3 by omega]; rfl
theorem row4_set {w : World} {g k : Nat} {t : TypeId} {xs ys : List Value} {a b c d : Value} (hB : Blk w g t (xs ++ ([a, b, c, d] ++ ys))) (hx : xs.length = k * 4) (a' b' c' d' : Value) :
    Blk ((((w.setCell ⟨g, k * 4, none⟩ a').setCell ⟨g, k * 4 + 1, none⟩ b').setCell ⟨g, k * 4 + 2, none⟩ c').setCell ⟨g, k * 4 + 3, none⟩ d') g t (xs ++ ([a', b', c', d'] ++ ys)) := by
  have h := (((hB.set_ (k * 4) a').set_ (k * 4 + 1) b').set_ (k * 4 + 2) c').set_ (k * 4 + 3) d'
  rw [List.set_append_right _ _ (by omega), List.set_append_right _ _ (by omega), List.set_append_right _ _ (by omega), List.set_append_right _ _ (by omega), hx, Nat.sub_self, show k * 4 + 1 - k * 4 = 1 by omega, show k * 4 + 2 - k * 4 = 2 by omega, show k * 4 + 3 - k * 4 = 3 by omega] at h
  exact h
end Go.Proofs.YthalpbjkkfkheaaGreatDoor
