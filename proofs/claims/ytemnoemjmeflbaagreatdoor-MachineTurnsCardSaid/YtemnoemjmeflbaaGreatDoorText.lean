/- rational.Sign, slices.Clone, fraction.Texts, cluster.lists, cluster.texts. -/
import Derived.Test.YtemnoemjmeflbaaGreatDoorNear
namespace Go.Proofs.YtemnoemjmeflbaaGreatDoor
open Go.RowKit Go.Lib

theorem Ch.all {α : Type} {R : List Value → α → Prop} {P : Value → Prop} (h : ∀ c x, R c x → ∀ u ∈ c, P u) : ∀ {xs : List Value} {l : List α}, Ch R xs l → ∀ u ∈ xs, P u
  | _, [], hx => by rw [show _ = [] from hx]; simp
  | _, _ :: _, ⟨c, r, e, h1, h2⟩ => by
    subst e
    intro u hu
    rcases List.mem_append.1 hu with hu | hu
    · exact h _ _ h1 u hu
    · exact Ch.all h h2 u hu
theorem own_apart {w : World} {b1 b2 k1 k2 n m : Nat} {e1 e2 : TypeId} {v u : Value} {xs ys : List Value} (h : w.ownsRow b1 e1 k1 v n xs) (h' : w.ownsRow b2 e2 k2 u m ys) (hne : e1 ≠ e2) (g : Nat) (hg : v.ownBlock = some g) : u.ownBlock ≠ some g := by
  intro hu
  rcases h.2 with ⟨rfl, _⟩ | ⟨g1, cap, cur, rfl, _, hh, _⟩
  · cases hg
  · rcases h'.2 with ⟨rfl, _⟩ | ⟨g2, cap', cur', rfl, _, hh', _⟩
    · cases hu
    · have e1 : g1 = g := by simpa [Value.ownBlock] using hg
      have e2 : g2 = g := by simpa [Value.ownBlock] using hu
      subst e1 e2
      rw [hh] at hh'
      injection hh' with hh'
      injection hh' with _ ht
      exact hne ht
/-- an empty row that was just laid -/
theorem own_empty (w : World) (e : TypeId) (size : Nat) : (w.alloc (.cells #[] e)).ownsRow w.heap.size e size (.slice (some ⟨w.heap.size, 0, none⟩) 0 0) 0 [] :=
  ⟨by simp, .inr ⟨w.heap.size, 0, #[], rfl, Nat.le_refl _, heap_alloc_new w _, Nat.le_refl _, by unfold maxLen; omega, by simp, by simp⟩⟩
end Go.Proofs.YtemnoemjmeflbaaGreatDoor
