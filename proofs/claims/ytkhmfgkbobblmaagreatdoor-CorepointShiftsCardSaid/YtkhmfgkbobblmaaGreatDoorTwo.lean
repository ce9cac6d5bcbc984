/- Two rows of the same elements that grow side by side, and blocks that neither owns. -/
import Derived.Test.YtkhmfgkbobblmaaGreatDoorGen
namespace Go.Proofs.YtkhmfgkbobblmaaGreatDoor
open Go.RowKit Go.Lib

/-- two rows, apart -/
structure Two {α : Type} (t : TypeId) (k : Nat) (R : World → List Value → α → Prop) (w0 : World) (lA lB : List α) (cA cB : Value) (w : World) : Prop where
  oA : OwnL t k R w0.heap.size w cA lA
  oB : OwnL t k R w0.heap.size w cB lB
  ap : ∀ j, cA.ownBlock = some j → cB.ownBlock ≠ some j
  hx : Ext w0 w
/-- a block that neither owns -/
def Out (t : TypeId) (cA cB : Value) (g : Nat) (cs : List Value) (w : World) : Prop := Blk w g t cs ∧ cA.ownBlock ≠ some g ∧ cB.ownBlock ≠ some g
section
variable {α : Type} {t : TypeId} {k : Nat} {R : World → List Value → α → Prop} {w0 w w' : World} {lA lB : List α} {cA cB : Value} {g : Nat} {cs : List Value} {u : TypeId}
theorem Two.swap (h : Two t k R w0 lA lB cA cB w) : Two t k R w0 lB lA cB cA w := ⟨h.oB, h.oA, fun j h1 h2 => h.ap j h2 h1, h.hx⟩
theorem Two.start (w : World) : Two t k R w [] [] (.slice none 0 0) (.slice none 0 0) w := ⟨OwnL.nil, OwnL.nil, (fun j h => by cases h), Ext.refl w⟩
theorem Two.ext (hR : Stab [] R) (h : Two t k R w0 lA lB cA cB w) (hx : Ext w w') : Two t k R w0 lA lB cA cB w' := ⟨h.oA.ext hR hx, h.oB.ext hR hx, h.ap, h.hx.trans hx⟩
theorem Two.appA (hR : Stab [] R) (h : Two t k R w0 lA lB cA cB w) {xs : List Value} {x : α} {cA' : Value} {n : Nat} (hn : lA.length = n) (hown : w.ownsRow w0.heap.size t k cA n xs) (hc : Ch (R w) xs lA) (hx : R w cs x)
    (ho : w'.ownsRow w0.heap.size t k cA' (n + 1) (xs ++ cs)) (hg : w.grownBy w' cA.ownBlock) (hb : cA'.ownBlock = cA.ownBlock ∨ cA'.ownBlock = some w.heap.size) : Two t k R w0 (lA ++ [x]) lB cA' cB w' := by
  subst hn
  refine ⟨OwnL.snoc (R := R) hR (fun u hu => by cases hu) hown hc hx ho hg, ?_, ?_, h.hx.grownO hown hg⟩
  · obtain ⟨ys, h1, h2⟩ := h.oB
    exact ⟨ys, own_grown h1 hg (fun j hj hj' => h.ap j hj hj'), h2.mono fun c x hcx => hR _ _ _ _ (fun _ hu => by cases hu) hcx⟩
  · intro j hj hj'
    rcases hb with hb | hb
    · exact h.ap j (hb ▸ hj) hj'
    · obtain ⟨ys, h1, h2⟩ := h.oB
      have h3 := (h1.lt j hj').2
      rw [hb] at hj
      injection hj with hj
      omega
theorem Two.appB (hR : Stab [] R) (h : Two t k R w0 lA lB cA cB w) {xs : List Value} {x : α} {cB' : Value} {n : Nat} (hn : lB.length = n) (hown : w.ownsRow w0.heap.size t k cB n xs) (hc : Ch (R w) xs lB) (hx : R w cs x)
    (ho : w'.ownsRow w0.heap.size t k cB' (n + 1) (xs ++ cs)) (hg : w.grownBy w' cB.ownBlock) (hb : cB'.ownBlock = cB.ownBlock ∨ cB'.ownBlock = some w.heap.size) : Two t k R w0 lA (lB ++ [x]) cA cB' w' :=
  (h.swap.appA hR hn hown hc hx ho hg hb).swap
theorem Out.swap (h : Out u cA cB g cs w) : Out u cB cA g cs w := ⟨h.1, h.2.2, h.2.1⟩
theorem Out.ext (h : Out u cA cB g cs w) (hx : Ext w w') : Out u cA cB g cs w' := ⟨h.1.ext hx, h.2⟩
theorem Two.new (h : Two t k R w0 lA lB cA cB w) (hB : Blk w' w.heap.size u cs) : Out u cA cB w.heap.size cs w' := by
  obtain ⟨xs, h1, _⟩ := h.oA
  obtain ⟨ys, h2, _⟩ := h.oB
  exact ⟨hB, fun hj => by have := (h1.lt _ hj).2; omega, fun hj => by have := (h2.lt _ hj).2; omega⟩
theorem Out.appA (h : Out u cA cB g cs w) {cA' : Value} (hg : w.grownBy w' cA.ownBlock) (hb : cA'.ownBlock = cA.ownBlock ∨ cA'.ownBlock = some w.heap.size) : Out u cA' cB g cs w' := by
  have hlt := h.1.lt
  refine ⟨(hg.block g hlt (fun he => h.2.1 he.symm)).trans h.1, ?_, h.2.2⟩
  rcases hb with hb | hb
  · rw [hb]; exact h.2.1
  · rw [hb]; intro he; injection he with he; omega
theorem Out.appB (h : Out u cA cB g cs w) {cB' : Value} (hg : w.grownBy w' cB.ownBlock) (hb : cB'.ownBlock = cB.ownBlock ∨ cB'.ownBlock = some w.heap.size) : Out u cA cB' g cs w' := (h.swap.appA hg hb).swap
end
end Go.Proofs.YtkhmfgkbobblmaaGreatDoor
