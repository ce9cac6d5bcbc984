/- A box that holds a fraction; the sum of the squares of differences; exact.Distance. -/
import Derived.Test.YthalpbjkkfkheaaGreatDoorLstW
import Derived.Deep.DeepCutAuto
namespace Go.Proofs.YthalpbjkkfkheaaGreatDoor
open Go.RowKit Go.Lib

section
variable {P : Program} {ops : Array Oper} {Q : Exit → Act → World → Prop} {md : Region.Mode} {S : World → Prop} {T : Nat → Bool}
/-- two that are ready: a goal for each -/
theorem AnyT.two (i j : Nat) {fuel : Nat} {listed : Array Bool} {a : Act} {w : World} (hr : Region.ready md ops listed = [i, j])
    (hi : ∀ o, ops[i]? = some o → ∀ K : Act → World → Prop, Hid (∀ a' w', (T i = false → S w') → AnyT P md ops Q S T fuel (listed.setIfInBounds i true) a' w' → K a' w') → if Region.wanted o (yielded ops a.tmps) = true then o.wp P a w K Q else K (a.put o.dst undef) w)
    (hj : ∀ o, ops[j]? = some o → ∀ K : Act → World → Prop, Hid (∀ a' w', (T j = false → S w') → AnyT P md ops Q S T fuel (listed.setIfInBounds j true) a' w' → K a' w') → if Region.wanted o (yielded ops a.tmps) = true then o.wp P a w K Q else K (a.put o.dst undef) w) : AnyT P md ops Q S T (fuel + 1) listed a w := by
  have go : ∀ i, i ∈ Region.ready md ops listed → (∀ o, ops[i]? = some o → ∀ K : Act → World → Prop, Hid (∀ a' w', (T i = false → S w') → AnyT P md ops Q S T fuel (listed.setIfInBounds i true) a' w' → K a' w') → if Region.wanted o (yielded ops a.tmps) = true then o.wp P a w K Q else K (a.put o.dst undef) w) →
      wpOp P ops Q i (fun a' w' => (T i = false → S w') ∧ AnyT P md ops Q S T fuel (listed.setIfInBounds i true) a' w') a w := by
    intro i hir h
    obtain ⟨_, o, hi, _⟩ := mem_ready.1 hir
    have h1 := h o hi (fun a' w' => (T i = false → S w') ∧ AnyT P md ops Q S T fuel (listed.setIfInBounds i true) a' w') (fun _ _ h1 h2 => ⟨h1, h2⟩)
    unfold wpOp
    simp only [hi]
    split
    · rename_i hw
      rw [if_pos hw] at h1
      exact .inl h1
    · rename_i hw
      rw [if_neg hw] at h1
      exact h1
  refine ⟨fun h0 => absurd h0 (by rw [hr]; simp), fun k hk => ?_⟩
  have hk' := hk
  rw [hr] at hk'
  rcases (by simpa using hk' : k = i ∨ k = j) with h | h
  · subst h; exact go _ hk hi
  · subst h; exact go _ hk hj
end
/-- the cells of a box of four -/
def F4 (w' : World) (g : Nat) (a b c d : Value) : Prop := w'.cell? ⟨g, 0, none⟩ = some a ∧ w'.cell? ⟨g, 1, none⟩ = some b ∧ w'.cell? ⟨g, 2, none⟩ = some c ∧ w'.cell? ⟨g, 3, none⟩ = some d
/-- the sum of the squares of the differences -/
def dist (a b : List Rat) : Rat := (a.zip b).foldl (fun s x => s + (x.1 - x.2) * (x.1 - x.2)) 0
theorem dist_next {a b : List Rat} {k : Nat} (ha : k < a.length) (hb : k < b.length) : dist (a.take (k + 1)) (b.take (k + 1)) = dist (a.take k) (b.take k) + (a[k] - b[k]) * (a[k] - b[k]) := by
  unfold dist
  rw [List.take_succ_eq_append_getElem ha, List.take_succ_eq_append_getElem hb, List.zip_append (by simp; omega), List.foldl_append]
  rfl
theorem dist_fit' {a b : List Rat} (hl : a.length = b.length) (fa : ∀ q ∈ a, FitQ 400 q) (fb : ∀ q ∈ b, FitQ 400 q) : ∀ k, k ≤ a.length → FitQ (1 + k * 1603) (dist (a.take k) (b.take k))
  | 0, _ => ⟨by show (0 : Rat).num.natAbs < _; decide, by show (0 : Rat).den < _; decide⟩
  | k + 1, h => by
    have h1 := dist_fit' hl fa fb k (by omega)
    have h2 := (fa a[k] (by simp)).sub (fb (b[k]'(by omega)) (by simp))
    rw [dist_next (by omega) (by omega)]
    exact (h1.add (h2.mul h2)).mono (by omega)
theorem dist_fit {a b : List Rat} (hl : a.length = b.length) (hn : a.length ≤ 3) (fa : ∀ q ∈ a, FitQ 400 q) (fb : ∀ q ∈ b, FitQ 400 q) : FitQ 5000 (dist a b) := by
  have h := dist_fit' hl fa fb a.length (Nat.le_refl _)
  rw [List.take_of_length_le (Nat.le_refl _), List.take_of_length_le (by omega)] at h
  exact h.mono (by omega)

end Go.Proofs.YthalpbjkkfkheaaGreatDoor
