/- joinlearnref02: split, Parts, Valid. joinlearnref02: fractions as values: Of, Read, New, Give, Zero, Sign. joinlearnref02: New. joinlearnref02: Mul, Add, Sub of fractions as values. joinlearnref02: Give, Zero, Sign; Mul, Add, Sub, Compare of texts. -/
import Derived.Test.YthalpbjkkfkheaaDoorRefY
/- joinlearnref02: split, Parts, Valid. -/
namespace Go.Proofs.YthalpbjkkfkheaaDoor
open Go.RowKit Go.Lib

theorem byte_ne {x y : UInt8} (h : x ≠ y) : ((x.toNat : Int) == (y.toNat : Int)) = false := by
  rw [beq_eq_false_iff_ne]
  intro h'
  exact h (UInt8.toNat.inj (by omega))
end Go.Proofs.YthalpbjkkfkheaaDoor
/- joinlearnref02: fractions as values: Of, Read, New, Give, Zero, Sign. -/
namespace Go.Proofs.YthalpbjkkfkheaaDoor
open Go.RowKit Go.Lib

/-- the value v is the rational q -/
def RFrac (w : World) (v : Value) (q : Rat) : Prop := ∃ a b c d, v = .agg #[a, b, c, d] ∧ BigV w (.agg #[a, b]) q.num ∧ BigV w (.agg #[c, d]) q.den
theorem RFrac.ext {w w' : World} {v : Value} {q : Rat} (h : RFrac w v q) (hx : Ext w w') : RFrac w' v q := by
  obtain ⟨a, b, c, d, rfl, h1, h2⟩ := h
  exact ⟨a, b, c, d, rfl, h1.ext hx, h2.ext hx⟩
theorem RFrac.keep {w w' : World} {v : Value} {q : Rat} (h : RFrac w v q) (hx : Kept tI w w') : RFrac w' v q := by
  obtain ⟨a, b, c, d, rfl, h1, h2⟩ := h
  exact ⟨a, b, c, d, rfl, h1.keep hx, h2.keep hx⟩
theorem RFrac.parts {w : World} {v : Value} {q : Rat} (h : RFrac w v q) : ∃ b A n c b' A' n' c', v = .agg #[.bool b, .slice A n c, .bool b', .slice A' n' c'] ∧ Hid (BigV w (.agg #[.bool b, .slice A n c]) q.num) ∧ Hid (BigV w (.agg #[.bool b', .slice A' n' c']) q.den) := by
  obtain ⟨a, b, c, d, rfl, h1, h2⟩ := h
  obtain ⟨b1, A1, n1, c1, e1, H1⟩ := h1.parts
  obtain ⟨b2, A2, n2, c2, e2, H2⟩ := h2.parts
  simp at e1 e2
  obtain ⟨rfl, rfl⟩ := e1
  obtain ⟨rfl, rfl⟩ := e2
  exact ⟨b1, A1, n1, c1, b2, A2, n2, c2, rfl, H1, H2⟩
theorem RFrac.mk' {w : World} {a b c d : Value} {q : Rat} (h1 : BigV w (.agg #[a, b]) q.num) (h2 : BigV w (.agg #[c, d]) q.den) : RFrac w (.agg #[a, b, c, d]) q := ⟨a, b, c, d, rfl, h1, h2⟩
theorem divInt_quo (x y : Int) (hy : 0 < y) : signed (decide (x < 0) != decide ((((Nat.gcd x.natAbs y.natAbs : Nat) : Int)) < 0)) (x.natAbs / (((Nat.gcd x.natAbs y.natAbs : Nat) : Int)).natAbs) = (Rat.divInt x y).num ∧ signed (decide (y < 0) != decide ((((Nat.gcd x.natAbs y.natAbs : Nat) : Int)) < 0)) (y.natAbs / (((Nat.gcd x.natAbs y.natAbs : Nat) : Int)).natAbs) = ((Rat.divInt x y).den : Int) := by
  have hd := divInt_parts x y hy
  have e : Int.gcd x y = Nat.gcd x.natAbs y.natAbs := rfl
  rw [e] at hd
  have hg : 0 < Nat.gcd x.natAbs y.natAbs := Nat.gcd_pos_of_pos_right _ (by omega)
  have hdx : Nat.gcd x.natAbs y.natAbs ∣ x.natAbs := Nat.gcd_dvd_left _ _
  have hdy : Nat.gcd x.natAbs y.natAbs ∣ y.natAbs := Nat.gcd_dvd_right _ _
  rw [hd.1, hd.2]
  generalize Nat.gcd x.natAbs y.natAbs = G at *
  rw [Int.natAbs_natCast, decide_eq_false (show ¬ ((G : Int) < 0) by omega), decide_eq_false (show ¬ (y < 0) by omega)]
  obtain ⟨a, ha⟩ := hdx
  obtain ⟨b, hb⟩ := hdy
  rw [ha, hb, Nat.mul_div_cancel_left _ hg, Nat.mul_div_cancel_left _ hg]
  constructor
  · by_cases h : x < 0
    · have hx : x = (G : Int) * (-(a : Int)) := by rw [Int.mul_neg, ← Int.natCast_mul, ← ha]; omega
      rw [decide_eq_true h, hx, Int.mul_ediv_cancel_left _ (by omega)]
      rfl
    · have hx : x = (G : Int) * (a : Int) := by rw [← Int.natCast_mul, ← ha]; omega
      rw [decide_eq_false h, hx, Int.mul_ediv_cancel_left _ (by omega)]
      rfl
  · have hx : y = (G : Int) * (b : Int) := by rw [← Int.natCast_mul, ← hb]; omega
    rw [hx, Int.mul_ediv_cancel_left _ (by omega)]
    rfl
end Go.Proofs.YthalpbjkkfkheaaDoor
/- joinlearnref02: New. -/
namespace Go.Proofs.YthalpbjkkfkheaaDoor
open Go.RowKit Go.Lib

theorem big_len_pos {w : World} {b : Bool} {A : Option Addr} {n c : Nat} {z : Int} (h : BigV w (.agg #[.bool b, .slice A n c]) z) (hz : z ≠ 0) : 0 < n := by
  obtain ⟨_, rfl, _⟩ := h.inv
  rcases Nat.eq_zero_or_pos (toL z.natAbs).length with h0 | h0
  · have := toL_eq_nil.1 (List.eq_nil_of_length_eq_zero h0)
    omega
  · exact h0
end Go.Proofs.YthalpbjkkfkheaaDoor
/- joinlearnref02: Mul, Add, Sub of fractions as values. -/
namespace Go.Proofs.YthalpbjkkfkheaaDoor
open Go.RowKit Go.Lib
theorem sub_divInt (a b : Rat) : Rat.divInt (a.num * b.den - b.num * a.den) (a.den * b.den) = a - b := by
  have h := add_divInt a (-b)
  rw [Rat.neg_num, Rat.neg_den, Int.neg_mul, ← Int.sub_eq_add_neg] at h
  rw [h, Rat.sub_eq_add_neg]
theorem FitQ.subZ {p q : Rat} {d e : Nat} (fa : FitQ d p) (fb : FitQ e q) (he : d + e + 1 ≤ 1000000) : FitZ (p.num * q.den - q.num * p.den) := by
  have h := FitQ.addZ fa fb.neg he
  rw [Rat.neg_num, Rat.neg_den, Int.neg_mul, ← Int.sub_eq_add_neg] at h
  exact h
end Go.Proofs.YthalpbjkkfkheaaDoor
/- joinlearnref02: Give, Zero, Sign; Mul, Add, Sub, Compare of texts. -/
namespace Go.Proofs.YthalpbjkkfkheaaDoor
open Go.RowKit Go.Lib

theorem big_len {w : World} {b : Bool} {A : Option Addr} {n c : Nat} {z : Int} (h : BigV w (.agg #[.bool b, .slice A n c]) z) : (((n : Int) == 0)) = decide (z = 0) := by
  obtain ⟨_, rfl, _⟩ := h.inv
  by_cases hz : z = 0
  · subst hz; rfl
  · rw [decide_eq_false hz, beq_eq_false_iff_ne]
    have := big_len_pos h hz
    omega
end Go.Proofs.YthalpbjkkfkheaaDoor
