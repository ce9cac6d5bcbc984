/- Words that several laws share. -/
import Derived.Test.YtkhmfgkbobblmaaGreatDoorGen
namespace Go.Proofs.YtkhmfgkbobblmaaGreatDoor
open Go.RowKit Go.Lib

/-- block g is a box that holds q, of the references -/
def RBox (w : World) (g : Nat) (q : Rat) : Prop := ∃ b A n c b' A' n' c', Blk w g tFr [.bool b, .slice A n c, .bool b', .slice A' n' c'] ∧ RFrac w (.agg #[.bool b, .slice A n c, .bool b', .slice A' n' c']) q
theorem RBox.parts {w : World} {g : Nat} {q : Rat} (h : RBox w g q) : ∃ b A n c b' A' n' c', Hid (Blk w g tFr [.bool b, .slice A n c, .bool b', .slice A' n' c']) ∧ Hid (RFrac w (.agg #[.bool b, .slice A n c, .bool b', .slice A' n' c']) q) := h
theorem RBox.ext {w w' : World} {g : Nat} {q : Rat} (h : RBox w g q) (hx : Ext w w') : RBox w' g q := by
  obtain ⟨b, A, n, c, b', A', n', c', h1, h2⟩ := h
  exact ⟨b, A, n, c, b', A', n', c', h1.ext hx, h2.ext hx⟩
theorem RBox.lt {w : World} {g : Nat} {q : Rat} (h : RBox w g q) : g < w.heap.size := by
  obtain ⟨b, A, n, c, b', A', n', c', h1, h2⟩ := h
  exact h1.lt
theorem RBox.put {a w : World} {g : Nat} {q : Rat} {o0 o1 o2 o3 : Value} {b : Bool} {A : Option Addr} {n c : Nat} {b' : Bool} {A' : Option Addr} {n' c' : Nat} (hB : Blk w g tFr [o0, o1, o2, o3]) (hv : RFrac w (.agg #[.bool b, .slice A n c, .bool b', .slice A' n' c']) q) (he : Ext a w) (hg : a.heap.size ≤ g) :
    ∃ W', ((((w.setCell ⟨g, 0, none⟩ (.bool b)).setCell ⟨g, 1, none⟩ (.slice A n c)).setCell ⟨g, 2, none⟩ (.bool b')).setCell ⟨g, 3, none⟩ (.slice A' n' c')) = W' ∧ Hid (RBox W' g q) ∧ Hid (Kept tI w W') ∧ Hid (Ext a W') ∧ Hid (Only g w W') := by
  have hk := hB.kept4 (t := tI) (by decide) 0 1 2 3 (.bool b) (.slice A n c) (.bool b') (.slice A' n' c')
  exact ⟨_, rfl, ⟨b, A, n, c, b', A', n', c', (((hB.set_ 0 (.bool b)).set_ 1 (.slice A n c)).set_ 2 (.bool b')).set_ 3 (.slice A' n' c'), hv.keep hk⟩, hk,
    (((he.setCell (p := ⟨g, 0, none⟩) hg _).setCell (p := ⟨g, 1, none⟩) hg _).setCell (p := ⟨g, 2, none⟩) hg _).setCell (p := ⟨g, 3, none⟩) hg _,
    (((Only.refl g w).set_ 0 _).set_ 1 _).set_ 2 _ |>.set_ 3 _⟩
theorem newrbox {P : World → Prop} {w : World} {q : Rat} {b : Bool} {A : Option Addr} {n c : Nat} {b' : Bool} {A' : Option Addr} {n' c' : Nat} (hv : RFrac w (.agg #[.bool b, .slice A n c, .bool b', .slice A' n' c']) q) (h : ∀ W, Hid (Ext w W) → Hid (RBox W w.heap.size q) → P W) : P (w.alloc (.cells #[.bool b, .slice A n c, .bool b', .slice A' n' c'] tFr)) :=
  h _ ((Ext.refl w).alloc _) ⟨b, A, n, c, b', A', n', c', Blk.new w tFr [.bool b, .slice A n c, .bool b', .slice A' n' c'], hv.ext ((Ext.refl w).alloc _)⟩
theorem ratN_pos {q : Rat} (h : 0 < q.num) : 0 < q := by
  rw [Rat.lt_iff]
  simpa using h
theorem ratP_num {q : Rat} (h : 0 < q) : 0 < q.num := by
  have h1 := (@Rat.num_nonneg q).2 (Rat.le_of_lt h)
  have h2 : q.num ≠ 0 := fun e => by rw [Rat.num_eq_zero.1 e] at h; exact absurd h (by grind)
  omega
end Go.Proofs.YtkhmfgkbobblmaaGreatDoor
