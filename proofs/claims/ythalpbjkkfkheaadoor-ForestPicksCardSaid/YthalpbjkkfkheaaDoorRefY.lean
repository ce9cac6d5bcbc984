/- joinlearnref01: Minus, Add, Sub. joinlearnref01: Mul. joinlearnref01: times. joinlearnref01: Quo. joinlearnref01: Gcd. -/
import Derived.Test.YthalpbjkkfkheaaDoorRefX
import Derived.IntWalk
/- joinlearnref01: Minus, Add, Sub. -/
namespace Go.Proofs.YthalpbjkkfkheaaDoor
open Go.RowKit

theorem BigV.inv {w : World} {b : Bool} {A : Option Addr} {n c : Nat} {z : Int} (h : BigV w (.agg #[.bool b, .slice A n c]) z) : b = decide (z < 0) ∧ n = (toL z.natAbs).length ∧ Cap A n c ∧ LmI w A (toL z.natAbs) := by
  obtain ⟨A', c', e, hc, hs⟩ := h
  simp at e
  obtain ⟨rfl, rfl, rfl, rfl⟩ := e
  exact ⟨rfl, rfl, hc, hs⟩
section
variable {W W' : World} {g : Nat} {x0 x1 y0 y1 z0 z1 : Value}
end


/-- limbs that a helper hands back, to be trimmed -/
def Limbs (w : World) (v : Value) (n : Nat) : Prop := ∃ A l c, v = .slice A l.length c ∧ Cap A l.length c ∧ Dig l ∧ LmI w A l ∧ l.length ≤ 100000000 ∧ val l = n
theorem Limbs.parts {w : World} {v : Value} {n : Nat} (h : Limbs w v n) : ∃ A m c, v = .slice A m c ∧ Hid (Limbs w (.slice A m c) n) := by
  obtain ⟨A, l, c, rfl, r⟩ := h
  exact ⟨A, _, c, rfl, ⟨A, l, c, rfl, r⟩⟩
theorem Limbs.ext {w w' : World} {v : Value} {n : Nat} (h : Limbs w v n) (hx : Ext w w') : Limbs w' v n := by
  obtain ⟨A, l, c, rfl, h1, h2, h3, r⟩ := h
  exact ⟨A, l, c, rfl, h1, h2, h3.ext hx, r⟩
theorem toL_pos {n : Nat} : decide (0 < (toL n).length) = decide (0 < n) := by
  rcases Nat.eq_zero_or_pos n with h | h
  · subst h; rfl
  · have : (toL n).length ≠ 0 := fun h0 => by have := toL_eq_nil.1 (List.eq_nil_of_length_eq_zero h0); omega
    simp; omega
end Go.Proofs.YthalpbjkkfkheaaDoor
/- joinlearnref01: Mul. -/
namespace Go.Proofs.YthalpbjkkfkheaaDoor
open Go.RowKit

theorem mul_outer2 {p r a b : List Nat} {i k : Nat} (hk : b.length ≤ k) (hr : r.length = i + b.length) (hv : val r = val (a.take i) * val b)
    (h : val p + B9 ^ (i + k) * 0 = val (r.take (i + k)) + B9 ^ i * (limb a i * val (b.take k))) : val p = val (a.take (i + 1)) * val b := by
  rw [List.take_of_length_le (by omega), List.take_of_length_le hk, hv, Nat.mul_zero, Nat.add_zero] at h
  rw [h, val_take_getD a i, Nat.add_mul, Nat.mul_assoc]
theorem make_ints (m1 m2 n : Nat) (e : n = m1 + m2 + 1) (h : n ≤ 1000000000) (w : World) :
    (Instr.makeSlice tIs (.int .i64 ((m1 : Int) + m2 + 1)) (.int .i64 ((m1 : Int) + m2 + 1))).run Tryd.prog w = .ok (.slice (some ⟨w.heap.size, 0, none⟩) n n) (w.alloc (.cells (i64s (pad [] n)).toArray tI)) := by
  obtain ⟨i0, hi, hz0, hz1, hz2⟩ := info_parts int_info
  have e' : ((m1 : Int) + m2 + 1) = (n : Int) := by omega
  rw [e']
  have hr := run_make (P := Tryd.prog) w tIs tI i0 (.int .i64 0) Tryd.underlying22 hi hz0 .i64 .i64 (n : Int) (n : Int) (by omega) (Int.le_refl _) (by rw [hz2]; omega) (by omega)
  simp only [Int.toNat_natCast, hz1, Nat.mul_one, Value.cells, madeCells_one] at hr
  rw [hr, pad_nil, i64s, List.map_replicate]
  rfl
theorem ilimb_at {w : World} {g i : Nat} {l : List Nat} (h : Blk w g tI (i64s l)) (hi : i < l.length) : w.cell? ⟨g, i, none⟩ = some (.int .i64 (limb l i : Nat)) :=
  h.cell (by rw [i64s_get hi, limb_of hi])
theorem ilimb_set {w : World} {g i x : Nat} {l : List Nat} {z : Int} (h : Blk w g tI (i64s l)) (hz : z = x) : Blk (w.setCell ⟨g, i, none⟩ (.int .i64 z)) g tI (i64s (l.set i x)) := by
  have := h.set_ i (.int .i64 z)
  rw [i64s, List.map_set, ← i64s, ← hz]
  exact this
end Go.Proofs.YthalpbjkkfkheaaDoor
/- joinlearnref01: times. -/
namespace Go.Proofs.YthalpbjkkfkheaaDoor
open Go.RowKit

/-- the slice v holds the limbs of n -/
def NatI (w : World) (v : Value) (n : Nat) : Prop := ∃ A c, v = .slice A (toL n).length c ∧ Cap A (toL n).length c ∧ LmI w A (toL n)
theorem NatI.ext {w w' : World} {v : Value} {n : Nat} (h : NatI w v n) (hx : Ext w w') : NatI w' v n := by
  obtain ⟨A, c, rfl, hc, hs⟩ := h
  exact ⟨A, c, rfl, hc, hs.ext hx⟩
theorem NatI.parts {w : World} {v : Value} {n : Nat} (h : NatI w v n) : ∃ A m c, v = .slice A m c ∧ m = (toL n).length ∧ Hid (NatI w (.slice A m c) n) := by
  obtain ⟨A, c, rfl, r⟩ := h
  exact ⟨A, _, c, rfl, rfl, ⟨A, c, rfl, r⟩⟩
theorem BigV.nat {w : World} {b : Bool} {A : Option Addr} {m c : Nat} {z : Int} (h : BigV w (.agg #[.bool b, .slice A m c]) z) : NatI w (.slice A m c) z.natAbs := by
  obtain ⟨_, rfl, hc, hs⟩ := h.inv
  exact ⟨A, c, rfl, hc, hs⟩
theorem NatI.limbs {w : World} {v : Value} {n : Nat} (h : NatI w v n) (hf : Fit n) : Limbs w v n := by
  obtain ⟨A, c, rfl, hc, hs⟩ := h
  unfold Fit at hf
  exact ⟨A, toL n, c, rfl, hc, (toL_canon n).1, hs, by omega, val_toL n⟩
theorem NatI.nil (w : World) : NatI w (.slice none 0 0) 0 := ⟨none, 0, rfl, ⟨Nat.le_refl _, fun _ => rfl⟩, Sl.nil⟩
theorem times_round {r a : List Nat} {k c n t : Nat} (hr : r.length = k) (h : val r + B9 ^ k * c = val (a.take k) * n) (ht : t = c + limb a k * n) :
    val (r ++ [t % B9]) + B9 ^ (k + 1) * (t / B9) = val (a.take (k + 1)) * n := by
  rw [val_snoc, hr, val_take_getD a k, Nat.pow_succ, Nat.mul_assoc, Nat.add_assoc, ← Nat.mul_add, Nat.mod_add_div, ht, Nat.mul_add, Nat.add_mul, ← h]
  rw [Nat.mul_assoc]
  omega
end Go.Proofs.YthalpbjkkfkheaaDoor
/- joinlearnref01: Quo. -/
namespace Go.Proofs.YthalpbjkkfkheaaDoor
open Go.RowKit

theorem make_int1 (n : Nat) (h : n ≤ 1000000000) (w : World) :
    (Instr.makeSlice tIs (.int .i64 (n : Int)) (.int .i64 (n : Int))).run Tryd.prog w = .ok (.slice (some ⟨w.heap.size, 0, none⟩) n n) (w.alloc (.cells (i64s (List.replicate n 0)).toArray tI)) := by
  obtain ⟨i0, hi, hz0, hz1, hz2⟩ := info_parts int_info
  have hr := run_make (P := Tryd.prog) w tIs tI i0 (.int .i64 0) Tryd.underlying22 hi hz0 .i64 .i64 (n : Int) (n : Int) (by omega) (Int.le_refl _) (by rw [hz2]; omega) (by omega)
  simp only [Int.toNat_natCast, hz1, Nat.mul_one, Value.cells, madeCells_one] at hr
  rw [hr, i64s, List.map_replicate]
  rfl
theorem Blk.below {B : Nat} {W wr : World} {g : Nat} {t : TypeId} {l : List Value} (h : Blk W g t l) (hb : Below B W wr) (hg : g < B) : Blk wr g t l := (hb.block g hg).trans h
/-- a slice of its own, of one element -/
theorem own_one (w : World) (e : TypeId) (u : Value) (base : Nat) (hb : base ≤ w.heap.size) : (w.alloc (.cells #[u] e)).ownsRow base e 1 (.slice (some ⟨w.heap.size, 0, none⟩) 1 1) 1 [u] :=
  ⟨rfl, .inr ⟨w.heap.size, 1, #[u], rfl, hb, heap_alloc_new w _, Nat.le_refl _, by unfold maxLen; omega, rfl, rfl⟩⟩
/-- the slice v holds the limbs of n, in a block from B on -/
def NatF (w : World) (B : Nat) (v : Value) (n : Nat) : Prop := ∃ A m c, v = .slice A m c ∧ NatI w (.slice A m c) n ∧ ∀ ad, A = some ad → B ≤ ad.block
theorem NatF.nil (w : World) (B : Nat) : NatF w B (.slice none 0 0) 0 := ⟨none, 0, 0, rfl, NatI.nil w, fun _ h => by cases h⟩
theorem NatF.ext {w w' : World} {B : Nat} {v : Value} {n : Nat} (h : NatF w B v n) (hx : Ext w w') : NatF w' B v n := by
  obtain ⟨A, m, c, rfl, h1, h2⟩ := h
  exact ⟨A, m, c, rfl, h1.ext hx, h2⟩
theorem NatF.far {w : World} {B : Nat} {v : Value} {n : Nat} (h : NatF w B v n) {p : Addr} (hp : p.block < B) (u : Value) : NatF (w.setCell p u) B v n := by
  obtain ⟨A, m, c, rfl, ⟨A', c', e, hc, hs⟩, h2⟩ := h
  injection e with e1 e2 e3
  subst e1 e2 e3
  refine ⟨A, _, c, rfl, ⟨A, c, rfl, hc, ?_⟩, h2⟩
  intro j u' hu
  obtain ⟨g, o, cur, fr, hA, hb, hcu⟩ := hs j u' hu
  have hB := h2 _ hA
  exact ⟨g, o, cur, fr, hA, (Below.heap_setCell w p u g (by show g ≠ p.block; have : B ≤ g := hB; omega)).trans hb, hcu⟩
section
variable {W W' : World} {g : Nat} {x0 x1 y0 y1 q0 q1 r0 r1 : Value}
end
/-- what Quo answers -/
def QuoOf (q r : Int) (w : World) (e : Ending) (w' : World) : Prop := ∃ v1 v2, e = .returned (.tuple #[v1, v2]) ∧ BigV w' v1 q ∧ BigV w' v2 r ∧ Ext w w'
/-- the digit's bounds at the start of the search -/
theorem quo_start {R Y : Nat} (hY : 0 < Y) (h1 : Y ≤ R) (h2 : R < B9 * Y) : ∃ T s : Nat, ∃ n, (toL Y).length = n + 1 ∧ s = limb (toL Y) n ∧ 0 < s ∧ s < B9 ∧ T = limb (toL R) n + limb (toL R) (n + 1) * B9 ∧ limb (toL R) n < B9 ∧ limb (toL R) (n + 1) < B9 ∧ n < (toL R).length ∧ (toL R).length ≤ n + 2 ∧ Y * (T / (s + 1)) ≤ R ∧ R < Y * (T / s + 1) ∧ R < Y * B9 := by
  have hne : toL Y ≠ [] := fun h => by have := toL_eq_nil.1 h; omega
  have hlp : 0 < (toL Y).length := List.length_pos_iff.2 hne
  obtain ⟨n, hn⟩ : ∃ n, (toL Y).length = n + 1 := ⟨(toL Y).length - 1, by omega⟩
  have hl := quo_len (toL_canon R) (toL_canon Y) (by rw [val_toL, val_toL]; exact h1) (by rw [val_toL, val_toL]; exact h2)
  have hs0 : 0 < limb (toL Y) n := by
    have := (toL_canon Y).2.last hlp
    rw [limb_of (by omega)]
    have e : (toL Y)[(toL Y).length - 1] = (toL Y)[n]'(by omega) := by congr 1; omega
    rw [e] at this
    omega
  have hb := top_bounds (toL_canon Y).1 (k := n) (by omega) (by omega)
  rw [limb_beyond (l := toL Y) (k := n + 1) (by omega), Nat.zero_mul, Nat.add_zero, val_toL] at hb
  have ht := top_bounds (toL_canon R).1 (k := n) (by omega) (by omega)
  rw [val_toL] at ht
  have he := quo_est hb.1 hb.2 ht.1 ht.2 hs0
  exact ⟨_, _, n, hn, rfl, hs0, (toL_canon Y).1.getD n, rfl, (toL_canon R).1.getD n, (toL_canon R).1.getD (n + 1), by omega, by omega, he.1, he.2, by rw [Nat.mul_comm]; exact h2⟩

theorem fit_b9 {Y R : Nat} (h : ∃ e, e ≤ 1000000 ∧ Y < 10 ^ e) (hR : R ≤ B9 * Y) : Fit R := by
  obtain ⟨e, he, hY⟩ := h
  refine Fit.of_lt (e := 9 + e + 1) ?_ (by omega)
  have h1 : B9 * Y ≤ B9 * 10 ^ e := Nat.mul_le_mul_left _ (Nat.le_of_lt hY)
  have h2 : B9 * 10 ^ e = 10 ^ (9 + e) := by rw [Nat.pow_add]; rfl
  have h3 : 10 ^ (9 + e) < 10 ^ (9 + e + 1) := Nat.pow_lt_pow_right (by decide) (by omega)
  omega
end Go.Proofs.YthalpbjkkfkheaaDoor
/- joinlearnref01: Gcd. -/
namespace Go.Proofs.YthalpbjkkfkheaaDoor
open Go.RowKit

theorem signed_false (n : Nat) : signed false n = (n : Int) := rfl
theorem BigV.abs {w : World} {b : Bool} {A : Option Addr} {n c : Nat} {z : Int} (h : BigV w (.agg #[.bool b, .slice A n c]) z) : BigV w (.agg #[.bool false, .slice A n c]) (z.natAbs : Int) := by
  obtain ⟨_, rfl, hc, hs⟩ := h.inv
  exact ⟨A, c, by rw [Int.natAbs_natCast, decide_eq_false (by omega)], by rw [Int.natAbs_natCast]; exact hc, by rw [Int.natAbs_natCast]; exact hs⟩
theorem BigV.len {w : World} {b : Bool} {A : Option Addr} {n c : Nat} {y : Nat} (h : BigV w (.agg #[.bool b, .slice A n c]) (y : Int)) : decide (0 < n) = decide (0 < y) := by
  obtain ⟨_, rfl, _⟩ := h.inv
  rw [Int.natAbs_natCast]
  exact toL_pos
end Go.Proofs.YthalpbjkkfkheaaDoor
