/- The plain law of impurities: counts divided in two lists. -/
import Derived.Test.YteagmfbaebmplaaGreatDoorScalesW
namespace Go.Proofs.YteagmfbaebmplaaGreatDoor

/-- counts of two lists by class -/
abbrev Duo : Type := List UInt8 × Nat × Nat
def keep (l : List Tal) : List Tal := l.filter fun x => decide (0 < x.2)
def lefts (g : List Duo) : List Tal := keep (g.map fun x => (x.1, x.2.1))
def rights (g : List Duo) : List Tal := keep (g.map fun x => (x.1, x.2.2))
def boths (g : List Duo) : List Tal := keep (g.map fun x => (x.1, x.2.1 + x.2.2))
theorem keep_snoc (l : List Tal) (x : Tal) : keep (l ++ [x]) = if 0 < x.2 then keep l ++ [x] else keep l := by
  unfold keep
  rw [List.filter_append]
  by_cases h : 0 < x.2
  · rw [if_pos h, List.filter_cons_of_pos (by simpa using h), List.filter_nil]
  · rw [if_neg h, List.filter_cons_of_neg (by simpa using h), List.filter_nil, List.append_nil]
theorem lefts_snoc (g : List Duo) (c : List UInt8) (m n : Nat) : lefts (g ++ [(c, m, n)]) = if 0 < m then lefts g ++ [(c, m)] else lefts g := by
  rw [lefts, List.map_append, List.map_singleton, keep_snoc]; rfl
theorem rights_snoc (g : List Duo) (c : List UInt8) (m n : Nat) : rights (g ++ [(c, m, n)]) = if 0 < n then rights g ++ [(c, n)] else rights g := by
  rw [rights, List.map_append, List.map_singleton, keep_snoc]; rfl
theorem boths_snoc (g : List Duo) (c : List UInt8) (m n : Nat) : boths (g ++ [(c, m, n)]) = if 0 < m + n then boths g ++ [(c, m + n)] else boths g := by
  rw [boths, List.map_append, List.map_singleton, keep_snoc]; rfl
theorem keep_length (l : List Tal) : (keep l).length ≤ l.length := List.length_filter_le _ _
theorem keep_total (l : List Tal) : total (keep l) = total l := by
  induction l with
  | nil => rfl
  | cons x r ih =>
    unfold keep total at *
    by_cases h : 0 < x.2
    · rw [List.filter_cons_of_pos (by simpa using h), List.map_cons, List.sum_cons, ih, List.map_cons, List.sum_cons]
    · rw [List.filter_cons_of_neg (by simpa using h), ih, List.map_cons, List.sum_cons]
      omega
theorem keep_squares (l : List Tal) : squares (keep l) = squares l := by
  induction l with
  | nil => rfl
  | cons x r ih =>
    unfold keep squares at *
    by_cases h : 0 < x.2
    · rw [List.filter_cons_of_pos (by simpa using h), List.map_cons, List.sum_cons, ih, List.map_cons, List.sum_cons]
    · rw [List.filter_cons_of_neg (by simpa using h), ih, List.map_cons, List.sum_cons, show x.2 = 0 by omega]
      omega
theorem keep_pos (l : List Tal) : ∀ x ∈ keep l, 0 < x.2 := fun x hx => by simpa using (List.mem_filter.1 hx).2
/-- the sum of the products -/
def cross (g : List Duo) : Nat := (g.map fun x => x.2.1 * x.2.2).sum
def tl (g : List Duo) : Nat := (g.map fun x => x.2.1).sum
def tr (g : List Duo) : Nat := (g.map fun x => x.2.2).sum
def ql (g : List Duo) : Nat := (g.map fun x => x.2.1 * x.2.1).sum
def qr (g : List Duo) : Nat := (g.map fun x => x.2.2 * x.2.2).sum
theorem sums_eq (g : List Duo) : total (lefts g) = tl g ∧ total (rights g) = tr g ∧ total (boths g) = tl g + tr g ∧ squares (lefts g) = ql g ∧ squares (rights g) = qr g ∧ squares (boths g) = ql g + qr g + 2 * cross g := by
  unfold lefts rights boths
  simp only [keep_total, keep_squares]
  induction g with
  | nil => exact ⟨rfl, rfl, rfl, rfl, rfl, rfl⟩
  | cons x r ih =>
    obtain ⟨h1, h2, h3, h4, h5, h6⟩ := ih
    simp only [total, squares, tl, tr, ql, qr, cross, List.map_cons, List.sum_cons] at *
    refine ⟨by omega, by omega, by omega, by omega, by omega, ?_⟩
    rw [h6]
    grind
theorem cross_le (g : List Duo) (x y : Int) : 0 ≤ (ql g : Int) * y * y + (qr g : Int) * x * x - 2 * (cross g : Int) * x * y := by
  induction g with
  | nil => simp [ql, qr, cross]
  | cons a r ih =>
    simp only [ql, qr, cross, List.map_cons, List.sum_cons] at *
    have h : 0 ≤ ((a.2.1 : Int) * y - (a.2.2 : Int) * x) * ((a.2.1 : Int) * y - (a.2.2 : Int) * x) := by
      rcases Int.le_total 0 ((a.2.1 : Int) * y - (a.2.2 : Int) * x) with h | h
      · exact Int.mul_nonneg h h
      · have h2 := Int.mul_nonneg (show 0 ≤ -((a.2.1 : Int) * y - (a.2.2 : Int) * x) by omega) (show 0 ≤ -((a.2.1 : Int) * y - (a.2.2 : Int) * x) by omega)
        rwa [Int.neg_mul_neg] at h2
    simp only [Int.natCast_add, Int.natCast_mul]
    grind
theorem cross_zero (g : List Duo) (h : tl g = 0 ∨ tr g = 0) : cross g = 0 := by
  induction g with
  | nil => rfl
  | cons a r ih =>
    simp only [tl, tr, cross, List.map_cons, List.sum_cons] at *
    rcases h with h | h
    · rw [ih (.inl (by omega)), show a.2.1 = 0 by omega]; omega
    · rw [ih (.inr (by omega)), show a.2.2 = 0 by omega]; omega
theorem sq_zero (g : List Duo) : (tl g = 0 → ql g = 0) ∧ (tr g = 0 → qr g = 0) := by
  induction g with
  | nil => exact ⟨fun _ => rfl, fun _ => rfl⟩
  | cons a r ih =>
    simp only [tl, tr, ql, qr, List.map_cons, List.sum_cons] at *
    refine ⟨fun h => ?_, fun h => ?_⟩
    · rw [ih.1 (by omega), show a.2.1 = 0 by omega]
    · rw [ih.2 (by omega), show a.2.2 = 0 by omega]
theorem nat_rat_pos {n : Nat} (h : 0 < n) : (0 : Rat) < ((n : Int) : Rat) := by
  have : (0 : Rat) = ((0 : Int) : Rat) := rfl
  rw [this, Rat.intCast_lt_intCast]
  omega
theorem rat_duo (A B Sa Sb P : Rat) (ha : 0 < A) (hb : 0 < B) (h : 0 ≤ Sa * B * B + Sb * A * A - 2 * P * A * B) : (A - Sa / A) + (B - Sb / B) ≤ (A + B) - (Sa + Sb + 2 * P) / (A + B) := by
  have h1 : A ≠ 0 := by grind
  have h2 : B ≠ 0 := by grind
  have h3 : A + B ≠ 0 := by grind
  have e : ((A + B) - (Sa + Sb + 2 * P) / (A + B)) - ((A - Sa / A) + (B - Sb / B)) = (Sa * B * B + Sb * A * A - 2 * P * A * B) * (A * B * (A + B))⁻¹ := by grind
  have hp : 0 < A * B * (A + B) := Rat.mul_pos (Rat.mul_pos ha hb) (by grind)
  have hi : 0 < (A * B * (A + B))⁻¹ := Rat.inv_pos.2 hp
  have : 0 ≤ (Sa * B * B + Sb * A * A - 2 * P * A * B) * (A * B * (A + B))⁻¹ := Rat.mul_nonneg h (by grind)
  grind
theorem imp_parts (g : List Duo) : imp (lefts g) + imp (rights g) ≤ imp (boths g) := by
  obtain ⟨h1, h2, h3, h4, h5, h6⟩ := sums_eq g
  obtain ⟨z1, z2⟩ := sq_zero g
  have hc := cross_le g (tl g) (tr g)
  have hz := cross_zero g
  unfold imp
  rw [h1, h2, h3, h4, h5, h6]
  clear h1 h2 h3 h4 h5 h6
  generalize tl g = A at *
  generalize tr g = B at *
  generalize ql g = Sa at *
  generalize qr g = Sb at *
  generalize cross g = P at *
  rcases Nat.eq_zero_or_pos A with rfl | ha
  · rw [z1 rfl, hz (.inl rfl), Nat.zero_add, Nat.zero_add, Nat.mul_zero, Nat.add_zero]
    have : (((0 : Nat) : Int) : Rat) = 0 := rfl
    rw [this]
    grind
  · rcases Nat.eq_zero_or_pos B with rfl | hb
    · rw [z2 rfl, hz (.inr rfl), Nat.add_zero, Nat.add_zero]
      have : (((0 : Nat) : Int) : Rat) = 0 := rfl
      rw [this]
      grind
    · have h := rat_duo ((A : Int) : Rat) ((B : Int) : Rat) ((Sa : Int) : Rat) ((Sb : Int) : Rat) ((P : Int) : Rat) (nat_rat_pos ha) (nat_rat_pos hb) (by
        have h0 : (0 : Rat) = ((0 : Int) : Rat) := rfl
        have h2 : (2 : Rat) = ((2 : Int) : Rat) := rfl
        rw [h0, h2, ← Rat.intCast_mul, ← Rat.intCast_mul, ← Rat.intCast_mul, ← Rat.intCast_mul, ← Rat.intCast_mul, ← Rat.intCast_mul, ← Rat.intCast_mul, ← Rat.intCast_add, ← Rat.intCast_sub, Rat.intCast_le_intCast]
        exact hc)
      simp only [Int.natCast_add, Int.natCast_mul, Rat.intCast_add, Rat.intCast_mul]
      exact h
theorem total_sq (l : List Tal) (hp : ∀ x ∈ l, 0 < x.2) : squares l ≤ total l * total l ∧ (squares l = total l * total l → l.length ≤ 1) ∧ (l ≠ [] → 0 < squares l ∧ 0 < total l) := by
  induction l with
  | nil => exact ⟨Nat.le_refl _, fun _ => by simp, fun h => (h rfl).elim⟩
  | cons x r ih =>
    obtain ⟨h1, h2, h3⟩ := ih (fun y hy => hp y (by simp [hy]))
    have hx := hp x (by simp)
    simp only [squares, total, List.map_cons, List.sum_cons] at *
    have hxx : 0 < x.2 * x.2 := Nat.mul_pos hx hx
    generalize (r.map fun x => x.2 * x.2).sum = S at *
    generalize (r.map (·.2)).sum = T at *
    have e : (x.2 + T) * (x.2 + T) = x.2 * x.2 + T * T + 2 * (x.2 * T) := by grind
    rw [e]
    refine ⟨by omega, fun h => ?_, fun _ => ⟨by omega, by omega⟩⟩
    have h0 : x.2 * T = 0 := by omega
    rcases Nat.mul_eq_zero.1 h0 with h4 | h4
    · omega
    · cases r with
      | nil => simp
      | cons y r => have := (h3 (by simp)).2; omega
theorem boths_zero (g : List Duo) : imp (boths g) = 0 ↔ (boths g).length ≤ 1 := by
  obtain ⟨h1, h2, h3⟩ := total_sq (boths g) (keep_pos _)
  generalize boths g = l at *
  constructor
  · intro h
    rcases l with _ | ⟨x, r⟩
    · simp
    · obtain ⟨h4, h5⟩ := h3 (by simp)
      apply h2
      unfold imp at h
      have h6 := nat_rat_pos h5
      have e : ((squares (x :: r) : Int) : Rat) = ((total (x :: r) : Int) : Rat) * ((total (x :: r) : Int) : Rat) := by
        generalize ((squares (x :: r) : Int) : Rat) = s at *
        generalize ((total (x :: r) : Int) : Rat) = t at *
        have : t ≠ 0 := by grind
        grind
      rw [nat_mul] at e
      have := congrArg Rat.num e
      rw [int_rat_num, int_rat_num] at this
      omega
  · intro h
    rcases l with _ | ⟨x, _ | ⟨y, r⟩⟩
    · exact imp_zero rfl
    · have h5 := (h3 (by simp)).2
      unfold imp
      have e : squares [x] = total [x] * total [x] := by simp [squares, total]
      rw [e, ← nat_mul]
      have h6 := nat_rat_pos h5
      generalize ((total [x] : Int) : Rat) = t at *
      have : t ≠ 0 := by grind
      grind
    · simp at h
theorem boths_less (g : List Duo) (h : (boths g).length ≠ 0) : imp (boths g) - ((total (boths g) : Int) : Rat) < 0 := by
  obtain ⟨_, _, h3⟩ := total_sq (boths g) (keep_pos _)
  generalize boths g = l at *
  obtain ⟨h4, h5⟩ := h3 (fun e => h (by rw [e]; rfl))
  unfold imp
  have h6 := nat_rat_pos h5
  have h7 := Rat.mul_pos (nat_rat_pos h4) (Rat.inv_pos.2 h6)
  rw [Rat.div_def]
  grind
theorem sign_le {q : Rat} (h : q ≤ 0) : q.num.sign ≤ 0 := by
  have h1 := @Rat.num_nonneg (-q)
  rw [Rat.neg_num] at h1
  have h2 := h1.2 (by grind)
  have h3 : q.num ≤ 0 := by omega
  rcases Int.lt_or_eq_of_le h3 with h | h
  · rw [Int.sign_eq_neg_one_of_neg h]; decide
  · rw [h]; decide
theorem sign_lt {q : Rat} (h : q < 0) : q.num.sign < 0 := by
  have h1 := @Rat.num_nonneg q
  have h3 : q.num < 0 := by
    rcases Int.lt_or_le q.num 0 with h4 | h4
    · exact h4
    · have := h1.1 h4
      grind
  rw [Int.sign_eq_neg_one_of_neg h3]; decide
theorem keep_small {l : List Tal} (h : l.length ≤ 3) (hx : ∀ x ∈ l, x.2 ≤ 100) : Small (keep l) := .of (Nat.le_trans (keep_length l) h) fun x hx' => hx x ((List.mem_filter.1 hx').1)
end Go.Proofs.YteagmfbaebmplaaGreatDoor
