/- limbs: integers with a sign: number, Of, Sign, Neg. limbs: integers with a sign: Add, Sub, Mul, Compare, Gcd, Div, Of. limbs: Of, Div. fraction: the values, whole, Whole, Of. fraction: Of, Sign, Neg, New. fraction: Add, Sub, Mul, Div, Compare, Floor. -/
import Derived.Test.YthalpbjkkfkheaaDoorLimbs
import Derived.Deep.RegionHeld3
/- limbs: integers with a sign: number, Of, Sign, Neg. -/
namespace Go.Proofs.YthalpbjkkfkheaaDoor
open Go.RowKit

/-- the value v is the integer z -/
def Num (w : World) (v : Value) (z : Int) : Prop := ∃ s, v = .agg #[.bool (decide (z < 0)), s] ∧ NatV w s z.natAbs
theorem Num.ext {w w' : World} {v : Value} {z : Int} (h : Num w v z) (hx : Ext w w') : Num w' v z := by
  obtain ⟨s, rfl, hs⟩ := h
  exact ⟨s, rfl, hs.ext hx⟩
theorem Num.keep {w w' : World} {v : Value} {z : Int} (h : Num w v z) (hx : Kept 41 w w') : Num w' v z := by
  obtain ⟨s, rfl, hs⟩ := h
  exact ⟨s, rfl, hs.keep hx⟩

theorem Num.mk' {w : World} {b : Bool} {s : Value} {z : Int} (hb : b = decide (z < 0)) (h : NatV w s z.natAbs) : Num w (.agg #[.bool b, s]) z := ⟨s, by rw [hb], h⟩
/-- for a walk: the value's cells by name, what they mean aside -/
theorem Num.parts {w : World} {v : Value} {z : Int} (h : Num w v z) : ∃ b A n c, v = .agg #[.bool b, .slice A n c] ∧ Hid (Num w (.agg #[.bool b, .slice A n c]) z) := by
  obtain ⟨s, rfl, A, c, rfl, hc, hs⟩ := h
  exact ⟨_, A, _, c, rfl, ⟨_, rfl, A, c, rfl, hc, hs⟩⟩
theorem Num.inv {w : World} {b : Bool} {s : Value} {z : Int} (h : Num w (.agg #[.bool b, s]) z) : b = decide (z < 0) ∧ NatV w s z.natAbs := by
  obtain ⟨s', e, hs⟩ := h
  simp at e
  obtain ⟨rfl, rfl⟩ := e
  exact ⟨rfl, hs⟩
/-- number(negative, size): the sign is dropped at 0 -/
def signed (neg : Bool) (n : Nat) : Int := if neg then -(n : Int) else n
theorem signed_natAbs (neg : Bool) (n : Nat) : (signed neg n).natAbs = n := by unfold signed; split <;> simp
theorem signed_neg (neg : Bool) (n : Nat) : decide (signed neg n < 0) = (neg && decide (0 < n)) := by
  unfold signed
  cases neg
  · simp
  · simp

/-- integers of at most a million digits -/
def FitZ (z : Int) : Prop := ∃ e, e ≤ 1000000 ∧ z.natAbs < 10 ^ e
theorem FitZ.fit {z : Int} (h : FitZ z) : Fit z.natAbs := by
  obtain ⟨e, he, hz⟩ := h
  exact Fit.of_lt hz (by omega)
theorem lt_add_pow {a b d e : Nat} (ha : a < 10 ^ d) (hb : b < 10 ^ e) : a + b < 10 ^ (d + e + 1) := by
  have h1 : 10 ^ d ≤ 10 ^ (d + e) := Nat.pow_le_pow_right (by decide) (by omega)
  have h2 : 10 ^ e ≤ 10 ^ (d + e) := Nat.pow_le_pow_right (by decide) (by omega)
  rw [Nat.pow_succ]
  omega
theorem lt_mul_pow {a b d e : Nat} (ha : a < 10 ^ d) (hb : b < 10 ^ e) : a * b < 10 ^ (d + e) := by
  rw [Nat.pow_add]
  exact Nat.mul_lt_mul'' ha hb
theorem FitZ.fit_add {x y : Int} (hx : FitZ x) (hy : FitZ y) : Fit (x.natAbs + y.natAbs) := by
  obtain ⟨d, hd, hx⟩ := hx
  obtain ⟨e, he, hy⟩ := hy
  exact Fit.of_lt (lt_add_pow hx hy) (by omega)
theorem FitZ.fit_mul {x y : Int} (hx : FitZ x) (hy : FitZ y) : Fit (x.natAbs * y.natAbs) := by
  obtain ⟨d, hd, hx⟩ := hx
  obtain ⟨e, he, hy⟩ := hy
  exact Fit.of_lt (lt_mul_pow hx hy) (by omega)
theorem FitZ.le {x y : Int} (hx : FitZ x) (h : y.natAbs ≤ x.natAbs) : FitZ y := by
  obtain ⟨d, hd, hx⟩ := hx
  exact ⟨d, hd, by omega⟩
/-- integers of at most eight million digits: what one operation makes -/
def FitZ' (z : Int) : Prop := Fit z.natAbs
theorem FitZ.sub {x y : Int} (hx : FitZ x) (hy : FitZ y) : FitZ' (x - y) := (hx.fit_add hy).le (by omega)
theorem FitZ.wide {x : Int} (hx : FitZ x) : FitZ' x := hx.fit
theorem FitZ.neg {x : Int} (hx : FitZ x) : FitZ (-x) := hx.le (by simp)

theorem neg_signed (z : Int) : signed (!decide (z < 0)) z.natAbs = -z := by
  unfold signed
  by_cases h : z < 0
  · simp [h]; omega
  · simp [h]; omega
end Go.Proofs.YthalpbjkkfkheaaDoor
/- limbs: integers with a sign: Add, Sub, Mul, Compare, Gcd, Div, Of. -/
namespace Go.Proofs.YthalpbjkkfkheaaDoor
open Go.RowKit

theorem Blk.new' (w : World) (t : TypeId) (l : List Value) (g : Nat) (hg : g = w.heap.size) : Blk (w.alloc (.cells l.toArray t)) g t l := by subst hg; exact Blk.new w t l
section
variable {W W' : World} {g : Nat} {x0 x1 y0 y1 z0 z1 : Value}
end

theorem add_signed_same {x y : Int} (h : decide (x < 0) = decide (y < 0)) : signed (decide (x < 0)) (x.natAbs + y.natAbs) = x + y := by
  unfold signed
  by_cases hx : x < 0 <;> simp [hx] at h ⊢ <;> omega
theorem add_signed_ge {x y : Int} (h : decide (x < 0) ≠ decide (y < 0)) (hle : y.natAbs ≤ x.natAbs) : signed (decide (x < 0)) (x.natAbs - y.natAbs) = x + y := by
  unfold signed
  by_cases hx : x < 0 <;> simp [hx] at h ⊢ <;> omega

theorem mul_signed (x y : Int) : signed (decide (x < 0) != decide (y < 0)) (x.natAbs * y.natAbs) = x * y := by
  unfold signed
  rw [Int.natCast_mul]
  by_cases hx : x < 0
  · have ex : (x.natAbs : Int) = -x := by omega
    by_cases hy : y < 0
    · have ey : (y.natAbs : Int) = -y := by omega
      simp [hx, hy, ex, ey, Int.neg_mul_neg]
    · have ey : (y.natAbs : Int) = y := by omega
      simp [hx, hy, ex, ey, Int.neg_mul]
  · have ex : (x.natAbs : Int) = x := by omega
    by_cases hy : y < 0
    · have ey : (y.natAbs : Int) = -y := by omega
      simp [hx, hy, ex, ey, Int.mul_neg]
    · have ey : (y.natAbs : Int) = y := by omega
      simp [hx, hy, ex, ey]

end Go.Proofs.YthalpbjkkfkheaaDoor
/- limbs: Of, Div. -/
namespace Go.Proofs.YthalpbjkkfkheaaDoor
open Go.RowKit

theorem three_limbs (u : Nat) (hu : u < 18446744073709551616) : Dig [u % B9, u / B9 % B9, u / B9 / B9] ∧ val [u % B9, u / B9 % B9, u / B9 / B9] = u := by
  refine ⟨Dig.cons (Nat.mod_lt _ (by decide)) (Dig.cons (Nat.mod_lt _ (by decide)) (Dig.cons (by unfold B9; omega) Dig.nil)), ?_⟩
  simp only [val_cons, val_nil]
  unfold B9
  omega

theorem Sl.new' (w : World) (t : TypeId) (cs : Array Value) (g : Nat) (hg : g = w.heap.size) : Sl (w.alloc (.cells cs t)) t (some ⟨g, 0, none⟩) cs.toList := by subst hg; exact Sl.new w t cs
/-- what Div leaves: quotient and rest of a division by a positive number -/
def DivOf (x y : Int) (w : World) (e : Ending) (w' : World) : Prop :=
  ∃ q r, e = .returned (.tuple #[q, r]) ∧ Num w' q (x / y) ∧ Num w' r (x % y) ∧ Ext w w'
/-- for a walk: the slice's cells by name -/
theorem NatV.parts {w : World} {v : Value} {a : Nat} (h : NatV w v a) : ∃ A n c, v = .slice A n c ∧ decide (0 < n) = decide (0 < a) ∧ n ≤ c ∧ Hid (NatV w (.slice A n c) a) := by
  obtain ⟨A, c, rfl, hc, hs⟩ := h
  refine ⟨A, _, c, rfl, ?_, hc, ⟨A, c, rfl, hc, hs⟩⟩
  have h0 : (toL a).length = 0 ↔ a = 0 := by rw [List.length_eq_zero_iff, toL_eq_nil]
  by_cases h : a = 0
  · have := h0.2 h; rw [this, h]
  · have : (toL a).length ≠ 0 := fun k => h (h0.1 k)
    rw [decide_eq_true (by omega), decide_eq_true (by omega)]
theorem div_signed {x y : Int} (hy : 0 < y) (hp : ¬ (x < 0 ∧ 0 < x.natAbs % y.natAbs)) : signed (decide (x < 0) != decide (y < 0)) (x.natAbs / y.natAbs) = x / y ∧ signed false (x.natAbs % y.natAbs) = x % y := by
  obtain ⟨b, rfl⟩ : ∃ b : Nat, y = b := ⟨y.natAbs, by omega⟩
  have hb : decide ((b : Int) < 0) = false := decide_eq_false (by omega)
  simp only [Int.natAbs_natCast] at hp ⊢
  unfold signed
  by_cases hx : x < 0
  · obtain ⟨a, rfl⟩ : ∃ a : Nat, x = -(a : Int) := ⟨x.natAbs, by omega⟩
    simp only [Int.natAbs_neg, Int.natAbs_natCast] at hp ⊢
    have h0 : a % b = 0 := by omega
    have h1 : (b : Int) ∣ (a : Int) := Int.natCast_dvd_natCast.2 (Nat.dvd_of_mod_eq_zero h0)
    rw [hb, decide_eq_true hx, h0]
    refine ⟨?_, ?_⟩
    · simp only [bne, Bool.true_beq, Bool.not_false, if_true]
      rw [Int.neg_ediv_of_dvd h1, Int.natCast_ediv]
    · exact (Int.emod_eq_zero_of_dvd (Int.dvd_neg.2 h1)).symm
  · obtain ⟨a, rfl⟩ : ∃ a : Nat, x = (a : Int) := ⟨x.natAbs, by omega⟩
    rw [hb, decide_eq_false hx]
    simp only [Int.natAbs_natCast]
    exact ⟨by simp, by simp⟩

/-- two results that are numbers in boxes -/
theorem results_cell2 {fn : Func} {p q : Tmp} {ty ty' : TypeId} (h : fn.results = #[.cell p ty, .cell q ty']) (tmps : Array Value) {P : Program} (w : World) (g k : Nat) (u v : Value)
    (hp : tmps.getD p undef = .pointer (some ⟨g, 0, none⟩)) (hq : tmps.getD q undef = .pointer (some ⟨k, 0, none⟩))
    (hg : (loadVar ty ⟨g, 0, none⟩).run P w = .ok u w) (hk : (loadVar ty' ⟨k, 0, none⟩).run P w = .ok v w) :
    (results fn tmps).run P w = .ok (.tuple #[u, v]) w := by
  have hp' : tmps[p]?.getD undef = .pointer (some ⟨g, 0, none⟩) := by simpa using hp
  have hq' : tmps[q]?.getD undef = .pointer (some ⟨k, 0, none⟩) := by simpa using hq
  simp [results, h, hp', hq', asAddr, Sem.run_bind, Result.andThen, hg, hk]
theorem fit_one : Fit 1 := Fit.of_lt (e := 1) (by decide) (by decide)
theorem one_at (w : World) : NatV (w.alloc (Obj.cells #[.int .u64 1] 41)).drew (.slice (some ⟨w.heap.size, 0, none⟩) 1 1) 1 :=
  NatV.mk' (r := [1]) (c := 1) ⟨Dig.cons (by decide) Dig.nil, by unfold NoZ; decide⟩ rfl (by decide) (Sl.new w 41 #[.int .u64 1])
theorem div_signed_neg {x y : Int} (hy : 0 < y) (hp : x < 0 ∧ 0 < x.natAbs % y.natAbs) : signed (decide (x < 0) != decide (y < 0)) (x.natAbs / y.natAbs + 1) = x / y ∧ signed false (y.natAbs - x.natAbs % y.natAbs) = x % y := by
  obtain ⟨b, rfl⟩ : ∃ b : Nat, y = b := ⟨y.natAbs, by omega⟩
  obtain ⟨a, rfl⟩ : ∃ a : Nat, x = -(a : Int) := ⟨x.natAbs, by omega⟩
  simp only [Int.natAbs_neg, Int.natAbs_natCast] at hp ⊢
  have hb : decide ((b : Int) < 0) = false := decide_eq_false (by omega)
  rw [hb, decide_eq_true hp.1]
  have h1 := Nat.div_add_mod a b
  have h2 : a % b < b := Nat.mod_lt _ (by omega)
  have h3 : (-(a : Int)) = -((a / b + 1 : Nat) : Int) * (b : Int) + ((b - a % b : Nat) : Int) := by
    rw [Int.ofNat_sub (Nat.le_of_lt h2)]
    have : ((b * (a / b) + a % b : Nat) : Int) = (a : Int) := by rw [h1]
    push_cast at this ⊢
    grind
  have h4 : (-(a : Int)) / b = -((a / b + 1 : Nat) : Int) := by
    rw [h3, Int.add_comm, Int.add_mul_ediv_right _ _ (by omega), Int.ediv_eq_zero_of_lt (by omega) (by omega)]
    omega
  have h5 : (-(a : Int)) % b = ((b - a % b : Nat) : Int) := by
    rw [h3, Int.add_comm, Int.add_mul_emod_self_right, Int.emod_eq_of_lt (by omega) (by omega)]
  rw [h4, h5]
  exact ⟨rfl, rfl⟩
end Go.Proofs.YthalpbjkkfkheaaDoor
/- fraction: the values, whole, Whole, Of. -/
namespace Go.Proofs.YthalpbjkkfkheaaDoor
open Go.RowKit

/-- the value v is the rational q -/
def FracV (w : World) (v : Value) (q : Rat) : Prop := ∃ a b c d, v = .agg #[a, b, c, d] ∧ Num w (.agg #[a, b]) q.num ∧ Num w (.agg #[c, d]) q.den
theorem FracV.ext {w w' : World} {v : Value} {q : Rat} (h : FracV w v q) (hx : Ext w w') : FracV w' v q := by
  obtain ⟨a, b, c, d, rfl, h1, h2⟩ := h
  exact ⟨a, b, c, d, rfl, h1.ext hx, h2.ext hx⟩
theorem FracV.keep {w w' : World} {v : Value} {q : Rat} (h : FracV w v q) (hx : Kept 41 w w') : FracV w' v q := by
  obtain ⟨a, b, c, d, rfl, h1, h2⟩ := h
  exact ⟨a, b, c, d, rfl, h1.keep hx, h2.keep hx⟩
/-- for a walk: the value's cells by name, what they mean aside -/
theorem FracV.parts {w : World} {v : Value} {q : Rat} (h : FracV w v q) : ∃ b A n c b' A' n' c', v = .agg #[.bool b, .slice A n c, .bool b', .slice A' n' c'] ∧ Hid (Num w (.agg #[.bool b, .slice A n c]) q.num) ∧ Hid (Num w (.agg #[.bool b', .slice A' n' c']) q.den) := by
  obtain ⟨a, b, c, d, rfl, h1, h2⟩ := h
  obtain ⟨b1, A1, n1, c1, e1, H1⟩ := h1.parts
  obtain ⟨b2, A2, n2, c2, e2, H2⟩ := h2.parts
  simp at e1 e2
  obtain ⟨rfl, rfl⟩ := e1
  obtain ⟨rfl, rfl⟩ := e2
  exact ⟨b1, A1, n1, c1, b2, A2, n2, c2, rfl, H1, H2⟩
theorem FracV.mk' {w : World} {a b c d : Value} {q : Rat} (h1 : Num w (.agg #[a, b]) q.num) (h2 : Num w (.agg #[c, d]) q.den) : FracV w (.agg #[a, b, c, d]) q := ⟨a, b, c, d, rfl, h1, h2⟩

/-- at most e digits above and below -/
def FitQ (e : Nat) (q : Rat) : Prop := q.num.natAbs < 10 ^ e ∧ q.den < 10 ^ e
theorem FitQ.num {e : Nat} {q : Rat} (h : FitQ e q) (he : e ≤ 1000000) : FitZ q.num := ⟨e, he, h.1⟩
theorem FitQ.den {e : Nat} {q : Rat} (h : FitQ e q) (he : e ≤ 1000000) : FitZ q.den := ⟨e, he, by simpa using h.2⟩
theorem FitQ.mono {e d : Nat} {q : Rat} (h : FitQ e q) (he : e ≤ d) : FitQ d q := ⟨Nat.lt_of_lt_of_le h.1 (Nat.pow_le_pow_right (by decide) he), Nat.lt_of_lt_of_le h.2 (Nat.pow_le_pow_right (by decide) he)⟩

theorem fitz_one : FitZ 1 := ⟨1, by decide, by decide⟩
/-- a drawn region's world -/
theorem whole_iff (q : Rat) : (((q.den : Int) - 1).sign == 0) = decide (q.den = 1) := by
  by_cases h : q.den = 1
  · rw [h]; rfl
  · rw [decide_eq_false h]
    have : ((q.den : Int) - 1).sign ≠ 0 := by rw [Ne, Int.sign_eq_zero_iff_zero]; omega
    simpa using this

/-- boxes that a function makes at its start: the world by a name, what was there, what the boxes hold -/
theorem box1 {P : World → Prop} {w : World} {t : TypeId} {l : List Value} (h : ∀ W, Hid (Ext w W) → Hid (Blk W w.heap.size t l) → P W) : P (w.alloc (.cells l.toArray t)) :=
  h _ ((Ext.refl w).alloc _) (Blk.new w t l)
theorem box2 {P : World → Prop} {w : World} {t t' : TypeId} {l l' : List Value} (h : ∀ W, Hid (Ext w W) → Hid (Blk W w.heap.size t l) → Hid (Blk W (w.heap.size + 1) t' l') → P W) : P ((w.alloc (.cells l.toArray t)).alloc (.cells l'.toArray t')) :=
  h _ (((Ext.refl w).alloc _).alloc _) ((Blk.new w t l).ext ((Ext.refl _).alloc _)) (Blk.new' (w.alloc (.cells l.toArray t)) t' l' _ (by simp))
theorem box3 {P : World → Prop} {w : World} {t t' t'' : TypeId} {l l' l'' : List Value} (h : ∀ W, Hid (Ext w W) → Hid (Blk W w.heap.size t l) → Hid (Blk W (w.heap.size + 1) t' l') → Hid (Blk W (w.heap.size + 1 + 1) t'' l'') → P W) : P (((w.alloc (.cells l.toArray t)).alloc (.cells l'.toArray t')).alloc (.cells l''.toArray t'')) :=
  h _ ((((Ext.refl w).alloc _).alloc _).alloc _) ((Blk.new w t l).ext (((Ext.refl _).alloc _).alloc _)) ((Blk.new' (w.alloc (.cells l.toArray t)) t' l' _ (by simp)).ext ((Ext.refl _).alloc _)) (Blk.new' ((w.alloc (.cells l.toArray t)).alloc (.cells l'.toArray t')) t'' l'' _ (by simp))
/-- a store into another box -/
theorem Blk.past4 {w : World} {g k : Nat} {t : TypeId} {l : List Value} (h : Blk w g t l) (hne : g ≠ k) (u0 u1 u2 u3 : Value) : Blk ((((w.setCell ⟨k, 0, none⟩ u0).setCell ⟨k, 1, none⟩ u1).setCell ⟨k, 2, none⟩ u2).setCell ⟨k, 3, none⟩ u3) g t l :=
  (((h.far (p := ⟨k, 0, none⟩) hne u0).far (p := ⟨k, 1, none⟩) hne u1).far (p := ⟨k, 2, none⟩) hne u2).far (p := ⟨k, 3, none⟩) hne u3
theorem Blk.past2 {w : World} {g k : Nat} {t : TypeId} {l : List Value} (h : Blk w g t l) (hne : g ≠ k) (u0 u1 : Value) : Blk ((w.setCell ⟨k, 0, none⟩ u0).setCell ⟨k, 1, none⟩ u1) g t l :=
  (h.far (p := ⟨k, 0, none⟩) hne u0).far (p := ⟨k, 1, none⟩) hne u1
theorem ne1 (g : Nat) : g ≠ g + 1 := by omega
theorem ne2 (g : Nat) : g ≠ g + 1 + 1 := by omega
theorem ne12 (g : Nat) : g + 1 ≠ g + 1 + 1 := by omega
/-- the cells of a box of four -/
theorem Blk.four {w : World} {g : Nat} {t : TypeId} {a b c d : Value} (h : Blk w g t [a, b, c, d]) : w.cell? ⟨g, 0, none⟩ = some a ∧ w.cell? ⟨g, 1, none⟩ = some b ∧ w.cell? ⟨g, 2, none⟩ = some c ∧ w.cell? ⟨g, 3, none⟩ = some d :=
  ⟨h.cell (i := 0) rfl, h.cell (i := 1) rfl, h.cell (i := 2) rfl, h.cell (i := 3) rfl⟩
theorem Blk.free4 {w : World} {g : Nat} {t : TypeId} {l : List Value} (h : Blk w g t l) : w.frozen? ⟨g, 0, none⟩ = false ∧ w.frozen? ⟨g, 1, none⟩ = false ∧ w.frozen? ⟨g, 2, none⟩ = false ∧ w.frozen? ⟨g, 3, none⟩ = false :=
  ⟨h.frozen 0, h.frozen 1, h.frozen 2, h.frozen 3⟩
theorem Blk.two {w : World} {g : Nat} {t : TypeId} {a b : Value} (h : Blk w g t [a, b]) : w.cell? ⟨g, 0, none⟩ = some a ∧ w.cell? ⟨g, 1, none⟩ = some b :=
  ⟨h.cell (i := 0) rfl, h.cell (i := 1) rfl⟩

theorem int_rat_num (z : Int) : ((z : Rat)).num = z := rfl
theorem int_rat_den (z : Int) : ((z : Rat)).den = 1 := rfl
end Go.Proofs.YthalpbjkkfkheaaDoor
/- fraction: Of, Sign, Neg, New. -/
namespace Go.Proofs.YthalpbjkkfkheaaDoor
open Go.RowKit

/-- what New answers: the quotient in lowest terms -/
theorem divInt_parts (n d : Int) (hd : 0 < d) : (Rat.divInt n d).num = n / (Int.gcd n d : Nat) ∧ ((Rat.divInt n d).den : Int) = d / (Int.gcd n d : Nat) := by
  rw [Rat.num_divInt, Rat.den_divInt, if_neg (by omega), Int.sign_eq_one_of_pos hd, Int.one_mul, Int.gcd_comm d n]
  refine ⟨rfl, ?_⟩
  rw [Int.natCast_ediv]
  congr 1
  omega

/-- a store of two cells into a box: the world by a name -/
theorem put2 {P : World → Prop} {w : World} {g : Nat} {t : TypeId} {x0 x1 u0 u1 : Value} (ht : t ≠ 41) (hB : Blk w g t [x0, x1])
    (h : ∀ W, Hid (Kept 41 w W) → Hid (∀ k t' l, k ≠ g → Blk w k t' l → Blk W k t' l) → Hid (∀ a, Ext a w → a.heap.size ≤ g → Ext a W) → Hid (Blk W g t [u0, u1]) → P W) : P ((w.setCell ⟨g, 0, none⟩ u0).setCell ⟨g, 1, none⟩ u1) :=
  h _ (hB.kept2 ht 0 1 u0 u1) (fun _ _ _ hk hb => hb.past2 hk u0 u1) (fun _ hx hg => (hx.setCell hg _).setCell hg _) ((hB.set_ 0 u0).set_ 1 u1)

end Go.Proofs.YthalpbjkkfkheaaDoor
/- fraction: Add, Sub, Mul, Div, Compare, Floor. -/
namespace Go.Proofs.YthalpbjkkfkheaaDoor
open Go.RowKit

theorem q_den_pos (q : Rat) : 0 < (q.den : Int) := by have := q.den_pos; omega
theorem add_divInt (a b : Rat) : Rat.divInt (a.num * b.den + b.num * a.den) (a.den * b.den) = a + b := by
  rw [Rat.add_def', ← Rat.divInt_ofNat, Int.natCast_mul]
theorem mul_divInt (a b : Rat) : Rat.divInt (a.num * b.num) (a.den * b.den) = a * b := by
  rw [Rat.mul_def', ← Rat.divInt_ofNat, Int.natCast_mul]
theorem div_divInt (a b : Rat) : Rat.divInt (a.num * b.den) (a.den * b.num) = a / b := by
  rw [Rat.div_def, Rat.inv_def]
  conv => rhs; rw [← Rat.num_divInt_den a]
  rw [Rat.divInt_mul_divInt]
theorem divInt_fit {n d : Int} {e : Nat} (hd : 0 < d) (h1 : n.natAbs < 10 ^ e) (h2 : d.natAbs < 10 ^ e) : FitQ e (Rat.divInt n d) := by
  obtain ⟨p1, p2⟩ := divInt_parts n d hd
  refine ⟨?_, ?_⟩
  · rw [p1]
    refine Nat.lt_of_le_of_lt ?_ h1
    rw [Int.natAbs_ediv_of_dvd (Int.gcd_dvd_left ..)]
    exact Nat.div_le_self _ _
  · have : (Rat.divInt n d).den ≤ d.natAbs := by
      have : ((Rat.divInt n d).den : Int) ≤ d := by rw [p2]; exact Int.ediv_le_self _ (by omega)
      omega
    omega
theorem FitQ.add {a b : Rat} {d e : Nat} (ha : FitQ d a) (hb : FitQ e b) : FitQ (d + e + 1) (a + b) := by
  rw [← add_divInt]
  have hd := lt_mul_pow ha.1 hb.2
  have he := lt_mul_pow hb.1 ha.2
  have hq := lt_mul_pow ha.2 hb.2
  have hp : 10 ^ (d + e) < 10 ^ (d + e + 1) := Nat.pow_lt_pow_right (by decide) (by omega)
  refine divInt_fit (Int.mul_pos (q_den_pos a) (q_den_pos b)) ?_ ?_
  · have h1 : (a.num * b.den + b.num * a.den).natAbs ≤ a.num.natAbs * b.den + b.num.natAbs * a.den := by
      refine Nat.le_trans (Int.natAbs_add_le _ _) ?_
      rw [Int.natAbs_mul, Int.natAbs_mul, Int.natAbs_natCast, Int.natAbs_natCast]
      exact Nat.le_refl _
    rw [Nat.add_comm e d] at he
    rw [Nat.pow_succ]
    omega
  · rw [Int.natAbs_mul, Int.natAbs_natCast, Int.natAbs_natCast]; omega
theorem FitQ.mul {a b : Rat} {d e : Nat} (ha : FitQ d a) (hb : FitQ e b) : FitQ (d + e) (a * b) := by
  rw [← mul_divInt]
  have hd := lt_mul_pow ha.1 hb.1
  have hq := lt_mul_pow ha.2 hb.2
  refine divInt_fit (Int.mul_pos (q_den_pos a) (q_den_pos b)) ?_ ?_
  · rw [Int.natAbs_mul]; exact hd
  · rw [Int.natAbs_mul, Int.natAbs_natCast, Int.natAbs_natCast]; exact hq
theorem FitQ.neg {a : Rat} {d : Nat} (ha : FitQ d a) : FitQ d (-a) := ⟨by rw [Rat.neg_num, Int.natAbs_neg]; exact ha.1, by rw [Rat.neg_den]; exact ha.2⟩
theorem FitQ.sub {a b : Rat} {d e : Nat} (ha : FitQ d a) (hb : FitQ e b) : FitQ (d + e + 1) (a - b) := by
  rw [Rat.sub_eq_add_neg]; exact ha.add hb.neg
theorem FitQ.div {a b : Rat} {d e : Nat} (ha : FitQ d a) (hb : FitQ e b) (h0 : 0 < b.num) : FitQ (d + e) (a / b) := by
  rw [← div_divInt]
  have hd := lt_mul_pow ha.1 hb.2
  have hq := lt_mul_pow ha.2 hb.1
  refine divInt_fit (Int.mul_pos (q_den_pos a) h0) ?_ ?_
  · rw [Int.natAbs_mul, Int.natAbs_natCast]; exact hd
  · rw [Int.natAbs_mul, Int.natAbs_natCast]; exact hq
theorem FitZ.mul {x y : Int} {d e : Nat} (hx : x.natAbs < 10 ^ d) (hy : y.natAbs < 10 ^ e) (h : d + e ≤ 1000000) : FitZ (x * y) := ⟨d + e, h, by rw [Int.natAbs_mul]; exact lt_mul_pow hx hy⟩
theorem FitZ.add {x y : Int} {d e : Nat} (hx : x.natAbs < 10 ^ d) (hy : y.natAbs < 10 ^ e) (h : d + e + 1 ≤ 1000000) : FitZ (x + y) := ⟨d + e + 1, h, Nat.lt_of_le_of_lt (Int.natAbs_add_le _ _) (lt_add_pow hx hy)⟩
theorem whole_add {a b : Rat} (ha : a.den = 1) (hb : b.den = 1) : ((a.num + b.num : Int) : Rat) = a + b := by
  rw [← add_divInt, ha, hb, Rat.divInt_eq_div]
  simp only [Rat.intCast_add]
  grind
theorem whole_mul {a b : Rat} (ha : a.den = 1) (hb : b.den = 1) : ((a.num * b.num : Int) : Rat) = a * b := by
  rw [← mul_divInt, ha, hb, Rat.divInt_eq_div]
  simp only [Rat.intCast_mul]
  grind

/-- the sign of a difference -/
def cmpQ (p q : Rat) : Int := (p.num * q.den - q.num * p.den).sign
theorem sign_neg_iff (z : Int) : z.sign < 0 ↔ z < 0 := by
  rcases Int.lt_trichotomy z 0 with h | h | h
  · rw [Int.sign_eq_neg_one_of_neg h]; omega
  · subst h; simp
  · rw [Int.sign_eq_one_of_pos h]; omega
theorem sign_pos_iff (z : Int) : 0 < z.sign ↔ 0 < z := by
  rcases Int.lt_trichotomy z 0 with h | h | h
  · rw [Int.sign_eq_neg_one_of_neg h]; omega
  · subst h; simp
  · rw [Int.sign_eq_one_of_pos h]; omega
theorem cmpQ_lt {p q : Rat} : cmpQ p q < 0 ↔ p < q := by
  unfold cmpQ
  rw [sign_neg_iff, Rat.lt_iff]
  omega
theorem cmpQ_gt {p q : Rat} : 0 < cmpQ p q ↔ q < p := by
  unfold cmpQ
  rw [sign_pos_iff, Rat.lt_iff]
  omega
theorem FitQ.addZ {p q : Rat} {d e : Nat} (fa : FitQ d p) (fb : FitQ e q) (he : d + e + 1 ≤ 1000000) : FitZ (p.num * q.den + q.num * p.den) := by
  refine ⟨d + e + 1, he, ?_⟩
  have h1 := lt_mul_pow fa.1 fb.2
  have h2 := lt_mul_pow fb.1 fa.2
  rw [Nat.add_comm e d] at h2
  refine Nat.lt_of_le_of_lt (Int.natAbs_add_le _ _) ?_
  rw [Int.natAbs_mul, Int.natAbs_mul, Int.natAbs_natCast, Int.natAbs_natCast, Nat.pow_succ]
  omega
end Go.Proofs.YthalpbjkkfkheaaDoor
