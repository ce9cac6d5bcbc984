/- joinlearnref01: the references' long integers: trim, Of. joinlearnref01: Text. joinlearnref01: Digits, Give, Make, Valid; joinlearnref02.Whole. joinlearnref01: Read. joinlearnref01: size, plus, minus. joinlearnref01: minus. -/
import Derived.Test.YthalpbjkkfkheaaDoorExact
/- joinlearnref01: the references' long integers: trim, Of. -/
namespace Go.Proofs.YthalpbjkkfkheaaDoor
open Go.RowKit

abbrev tI : TypeId := 3
abbrev tIs : TypeId := 22
def i64s (l : List Nat) : List Value := l.map fun x : Nat => Value.int .i64 (x : Int)
theorem i64s_length (l : List Nat) : (i64s l).length = l.length := by simp [i64s]
theorem i64s_get {l : List Nat} {k : Nat} (h : k < l.length) : (i64s l)[k]? = some (.int .i64 (l[k] : Int)) := by simp [i64s, h]
theorem i64s_take (l : List Nat) (k : Nat) : (i64s l).take k = i64s (l.take k) := by simp [i64s, List.map_take]
theorem i64s_snoc (l : List Nat) (x : Nat) : i64s (l ++ [x]) = i64s l ++ [.int .i64 (x : Int)] := by simp [i64s]
abbrev LmI (w : World) (A : Option Addr) (l : List Nat) : Prop := Sl w tI A (i64s l)
/-- the capacity of a slice of n elements -/
def Cap (A : Option Addr) (n c : Nat) : Prop := n ≤ c ∧ (A = none → c = 0)
theorem own_cap {w : World} {base : Nat} {e : TypeId} {size n c : Nat} {A : Option Addr} {xs : List Value} (h : w.ownsRow base e size (.slice A n c) n xs) : Cap A n c := by
  rcases h.2 with ⟨hv, rfl⟩ | ⟨g, cap, cur, hv, _, _, hc, _⟩
  · injection hv with h1 _ h3
    exact ⟨by omega, fun _ => h3⟩
  · injection hv with h1 _ h3
    subst h3
    exact ⟨hc, fun h0 => by rw [h1] at h0; cases h0⟩
/-- the value v is the integer z -/
def BigV (w : World) (v : Value) (z : Int) : Prop := ∃ A c, v = .agg #[.bool (decide (z < 0)), .slice A (toL z.natAbs).length c] ∧ Cap A (toL z.natAbs).length c ∧ LmI w A (toL z.natAbs)
theorem BigV.ext {w w' : World} {v : Value} {z : Int} (h : BigV w v z) (hx : Ext w w') : BigV w' v z := by
  obtain ⟨A, c, rfl, hc, hs⟩ := h
  exact ⟨A, c, rfl, hc, hs.ext hx⟩
theorem BigV.keep {w w' : World} {v : Value} {z : Int} (h : BigV w v z) (hx : Kept tI w w') : BigV w' v z := by
  obtain ⟨A, c, rfl, hc, hs⟩ := h
  exact ⟨A, c, rfl, hc, hs.keep hx⟩
theorem BigV.parts {w : World} {v : Value} {z : Int} (h : BigV w v z) : ∃ b A n c, v = .agg #[.bool b, .slice A n c] ∧ Hid (BigV w (.agg #[.bool b, .slice A n c]) z) := by
  obtain ⟨A, c, rfl, hc, hs⟩ := h
  exact ⟨_, A, _, c, rfl, ⟨A, c, rfl, hc, hs⟩⟩
theorem BigV.mk' {w : World} {A : Option Addr} {c : Nat} {r : List Nat} {neg : Bool} {z : Int} (hr : Canon r) (hv : val r = z.natAbs) (hn : neg = decide (z < 0)) (hc : Cap A r.length c) (hs : LmI w A r) : BigV w (.agg #[.bool neg, .slice A r.length c]) z := by
  have e : toL z.natAbs = r := by rw [← hv]; exact toL_val hr
  exact ⟨A, c, by rw [e, hn], by rw [e]; exact hc, by rw [e]; exact hs⟩
/-- limbs that are not trimmed, with a sign -/
def RawV (w : World) (v : Value) (neg : Bool) (l : List Nat) : Prop := ∃ A c, v = .agg #[.bool neg, .slice A l.length c] ∧ Cap A l.length c ∧ Dig l ∧ LmI w A l
/-- the length of the slice in a cell -/
def cellLen (o : Option Value) : Nat := match o with
  | some (.slice _ n _) => n
  | _ => 0
theorem signed_dec (neg : Bool) (n : Nat) (h : 0 < n) : neg = decide (signed neg n < 0) := by rw [signed_neg, decide_eq_true h, Bool.and_true]

/-- int's slice type -/
theorem int_info : (Tryd.prog.info? tI).map (fun i => (i.zero, i.size, i.bytes)) = some (some (.int .i64 0), 1, 8) := by kernel_rfl
theorem int_slice : SliceTy Tryd.prog tIs tI 1 8 := .mk' Tryd.underlying22 int_info rfl (by decide) (by decide)

theorem own_far {w : World} {base : Nat} {e : TypeId} {size : Nat} {v : Value} {n : Nat} {xs : List Value} (h : w.ownsRow base e size v n xs) {p : Addr} (hp : p.block < base) (u : Value) : (w.setCell p u).ownsRow base e size v n xs := by
  obtain ⟨hl, h0 | ⟨g, cap, cur, hv, hb, hh, r⟩⟩ := h
  · exact ⟨hl, .inl h0⟩
  · exact ⟨hl, .inr ⟨g, cap, cur, hv, hb, (Below.heap_setCell w p u g (by omega)).trans hh, r⟩⟩
/-- what Of's loop has laid: limbs r, and what is left, a -/
def Ofing (n a : Nat) (r : List Nat) : Prop := Dig r ∧ (a = 0 → NoZ r) ∧ val r + B9 ^ r.length * a = n ∧ r.length ≤ 3 ∧ (r.length = 1 → a ≤ 9999999999) ∧ (r.length = 2 → a ≤ 9) ∧ (r.length = 3 → a = 0)
theorem ofing_start (n : Nat) : Ofing n n [] := ⟨Dig.nil, fun _ => NoZ.nil, by simp, by simp, by simp, by simp, by simp⟩
theorem ofing_step {n a : Nat} {r : List Nat} (h : Ofing n a r) (ha : 0 < a) (hn : n ≤ 9223372036854775808) : Ofing n (a / B9) (r ++ [a % B9]) ∧ a ≤ 9223372036854775808 := by
  obtain ⟨hd, hz, hv, hl, h1, h2, h3⟩ := h
  have hle : a ≤ n := by
    rw [← hv]
    have := Nat.le_mul_of_pos_left a (B9_pos r.length)
    omega
  refine ⟨⟨hd.snoc (Nat.mod_lt _ (by decide)), fun h0 => ?_, ?_, ?_, ?_, ?_, ?_⟩, by omega⟩
  · refine NoZ.of_last (by simp) ?_
    have : a % B9 = a := Nat.mod_eq_of_lt (by have := Nat.div_add_mod a B9; rw [h0] at this; have := Nat.mod_lt a (show 0 < B9 by decide); omega)
    simp
    omega
  · rw [val_snoc, List.length_append, List.length_singleton, Nat.pow_succ, ← hv, Nat.mul_assoc, Nat.add_assoc, ← Nat.mul_add]
    congr 2
    rw [Nat.add_comm]
    exact Nat.div_add_mod a B9
  · rw [List.length_append, List.length_singleton]
    rcases Nat.lt_or_ge r.length 3 with h | h
    · omega
    · have := h3 (by omega); omega
  · rw [List.length_append, List.length_singleton]
    intro h
    unfold B9
    omega
  · rw [List.length_append, List.length_singleton]
    intro h
    have := h1 (by omega)
    unfold B9
    omega
  · rw [List.length_append, List.length_singleton]
    intro h
    have := h2 (by omega)
    unfold B9
    omega
theorem ofing_end {n : Nat} {r : List Nat} (h : Ofing n 0 r) : Canon r ∧ val r = n := ⟨⟨h.1, h.2.1 rfl⟩, by have := h.2.2.1; simpa using this⟩

end Go.Proofs.YthalpbjkkfkheaaDoor
/- joinlearnref01: Text. -/
namespace Go.Proofs.YthalpbjkkfkheaaDoor
open Go.RowKit Go.Lib

abbrev t8s : TypeId := 43
theorem u8_info : (Tryd.prog.info? t8).map (fun i => (i.zero, i.size, i.bytes)) = some (some (.int .u8 0), 1, 1) := by kernel_rfl
theorem u8_slice : SliceTy Tryd.prog t8s t8 1 1 := .mk' Tryd.underlying43 u8_info rfl (by decide) (by decide)
/-- a shorter slice of an owned row -/
theorem own_take {w : World} {base : Nat} {e : TypeId} {A : Option Addr} {n c m : Nat} {xs : List Value} (h : w.ownsRow base e 1 (.slice A n c) n xs) (hm : m ≤ n) (h0 : 0 < n) : w.ownsRow base e 1 (.slice A m c) m (xs.take m) := by
  obtain ⟨hl, ⟨_, h1⟩ | ⟨g, cap, cur, hv, hb, hh, hc, hm', hs, hx⟩⟩ := h
  · omega
  · injection hv with e1 _ e3
    subst e1 e3
    refine ⟨by rw [List.length_take]; omega, .inr ⟨g, c, cur, rfl, hb, hh, by omega, hm', hs, ?_⟩⟩
    rw [← hx, List.take_take]
    congr 1
    omega
theorem own_at {w : World} {base : Nat} {e : TypeId} {A : Option Addr} {n c : Nat} {xs : List Value} (h : w.ownsRow base e 1 (.slice A n c) n xs) (h0 : 0 < n) : ∃ g, A = some ⟨g, 0, none⟩ ∧ base ≤ g ∧ g < w.heap.size ∧ xs.length = n := by
  obtain ⟨hl, ⟨_, h1⟩ | ⟨g, cap, cur, hv, hb, hh, hc, hm', hs, hx⟩⟩ := h
  · omega
  · injection hv with e1 _ e3
    exact ⟨g, e1, hb, lt_of_some hh, by omega⟩
/-- a list whose ends are exchanged up to i -/
def Rev (L M : List UInt8) (i : Nat) : Prop := M.length = L.length ∧ ∀ j, j < L.length → M[j]? = if j < i ∨ L.length ≤ j + i then L[L.length - 1 - j]? else L[j]?
theorem Rev.start (L : List UInt8) : Rev L L 0 := ⟨rfl, fun j hj => by rw [if_neg (by omega)]⟩
theorem Rev.step {L M : List UInt8} {i k : Nat} (h : Rev L M i) (hik : i + k + 1 = L.length) (hlt : i < k) (x y : UInt8) (hx : M[k]? = some x) (hy : M[i]? = some y) : Rev L ((M.set i x).set k y) (i + 1) := by
  refine ⟨by simpa using h.1, fun j hj => ?_⟩
  rw [List.getElem?_set]
  have hl := h.1
  have hi := h.2 i (by omega)
  have hk := h.2 k (by omega)
  rw [if_neg (by omega)] at hi hk
  by_cases hjk : k = j
  · subst hjk
    rw [if_pos rfl, if_pos (by simp; omega), if_pos (by omega), ← hy, hi]
    congr 1
    omega
  · rw [if_neg hjk, List.getElem?_set]
    by_cases hji : i = j
    · subst hji
      rw [if_pos rfl, if_pos (by omega), if_pos (by omega), ← hx, hk]
      congr 1
      omega
    · rw [if_neg hji, h.2 j hj]
      by_cases hc : j < i ∨ L.length ≤ j + i
      · rw [if_pos hc, if_pos (by omega)]
      · rw [if_neg hc, if_neg (by omega)]
theorem Rev.done {L M : List UInt8} {i k : Nat} (h : Rev L M i) (hik : i + k + 1 = L.length) (hlt : ¬ i < k) : M = L.reverse := by
  apply List.ext_getElem?
  intro j
  rcases Nat.lt_or_ge j L.length with hj | hj
  · rw [h.2 j hj, List.getElem?_reverse hj]
    by_cases hc : j < i ∨ L.length ≤ j + i
    · rw [if_pos hc]
    · rw [if_neg hc]
      congr 1
      omega
  · rw [List.getElem?_eq_none (by rw [h.1]; exact hj), List.getElem?_eq_none (by simpa using hj)]
theorem byteCells_set (M : List UInt8) (i : Nat) (x : UInt8) : (byteCells M).set i (.int .u8 (x.toNat : Int)) = byteCells (M.set i x) := by simp [byteCells, List.map_set]
theorem padk_rev (j x : Nat) : (padk (j + 1) x).reverse = (padk j x).reverse ++ [UInt8.ofNat (48 + x / 10 ^ j % 10)] := by rw [padk_head, List.reverse_cons]
theorem digit_cell (d : Nat) (h : d < 10) : byteCells [UInt8.ofNat (48 + d)] = [.int .u8 (48 + (d : Int))] := by
  simp only [byteCells, List.map_cons, List.map_nil]
  rw [dg_toNat h]
  congr 2

theorem text_back {w : World} {base : Nat} {g n c : Nat} {l : List UInt8} (h : w.ownsRow base t8 1 (.slice (some ⟨g, 0, none⟩) n c) n (byteCells l)) : (convert t8s 9 (.slice (some ⟨g, 0, none⟩) n c)).run Tryd.prog w = .ok (.string ⟨l.toArray⟩) w := by
  have hn : l.length = n := by have := h.1; rw [byteCells_length] at this; omega
  subst hn
  refine run_convert_bytes_back (P := Tryd.prog) w t8s 9 t8 ⟨g, 0, none⟩ c l Tryd.underlying43 Tryd.underlying5 Tryd.underlying9 (fun j hj => ?_)
  rw [Lib.add_plain, Nat.zero_add, h.cellAt j (by omega), byteCells_get hj]
end Go.Proofs.YthalpbjkkfkheaaDoor
/- joinlearnref01: Digits, Give, Make, Valid; joinlearnref02.Whole. -/
namespace Go.Proofs.YthalpbjkkfkheaaDoor
open Go.RowKit Go.Lib

/-- digits that are left to count -/
def nLeft (y : Nat) : Nat := if y = 0 then 0 else nDigits y
theorem nLeft_step {y : Nat} (h : 0 < y) : nLeft y = nLeft (y / 10) + 1 := by
  unfold nLeft
  rw [if_neg (by omega)]
  by_cases h1 : y < 10
  · rw [nDigits_small h1, if_pos (by omega)]
  · rw [nDigits_big h1, if_neg (by omega)]
theorem last_limb {l : List Nat} (h : Canon l) (h0 : l ≠ []) : ∃ x k : Nat, l.length = k + 1 ∧ (i64s l)[k]? = some (.int .i64 (x : Int)) ∧ nDigits (val l) = 9 * k + nDigits x ∧ x < 1000000000 ∧ x ≠ 0 := by
  have hl : 0 < l.length := List.length_pos_iff.2 h0
  have hd := digits_limbs h h0
  rw [List.getLast_eq_getElem] at hd
  exact ⟨l[l.length - 1], l.length - 1, by omega, i64s_get (by omega), hd, h.1.getElem (by omega), h.2.last hl⟩
theorem int_fit {z : Int} (h0 : -9223372036854775808 ≤ z) (h1 : z ≤ 9223372036854775807) : FitZ z := ⟨20, by decide, by omega⟩
end Go.Proofs.YthalpbjkkfkheaaDoor
/- joinlearnref01: Read. -/
namespace Go.Proofs.YthalpbjkkfkheaaDoor
open Go.RowKit Go.Lib

/-- what Read's loop has read: the limbs r, and the text T of m before them -/
def RReading (n : Nat) (T : List UInt8) (r : List Nat) (m : Nat) : Prop :=
  Dig r ∧ val r + B9 ^ r.length * m = n ∧ (T = decDigits m ∨ (T = [] ∧ m = 0))
theorem numL_bound (l : List UInt8) (a : Nat) (h : ∀ c ∈ l, isDg c) : numL a l < (a + 1) * 10 ^ l.length := by
  induction l generalizing a with
  | nil => rw [numL_nil]; simp
  | cons c r ih =>
    have hc := h c (by simp)
    unfold isDg at hc
    rw [numL_cons, List.length_cons, Nat.pow_succ]
    refine Nat.lt_of_lt_of_le (ih _ (fun x hx => h x (by simp [hx]))) ?_
    rw [Nat.mul_comm (10 ^ r.length) 10, ← Nat.mul_assoc]
    exact Nat.mul_le_mul_right _ (by omega)
theorem numL_pad9 {x : Nat} (h : x < B9) : numL 0 (padk 9 x) = x := by rw [numL_padk 9 x 0 h]; omega
/-- one round: where the limb's text begins, what it says, what is left -/
theorem rreading_round {n m : Nat} {T : List UInt8} {r : List Nat} (h : RReading n T r m) (hT : 0 < T.length) :
    ∃ (k m' : Nat), k = T.length - 9 ∧ (∀ c ∈ T, isDg c) ∧ numL 0 (T.drop k) < B9 ∧ RReading n (T.take k) (r ++ [numL 0 (T.drop k)]) m' := by
  obtain ⟨hd, hv, rfl | ⟨rfl, _⟩⟩ := h
  · by_cases hm : m < B9
    · have h9 := (pad9 hm).1
      refine ⟨0, 0, by rw [decDigits_length]; omega, dec_digits m, by rw [List.drop_zero, numL_dec]; exact hm, ?_⟩
      rw [List.drop_zero, numL_dec, List.take_zero]
      exact ⟨hd.snoc hm, by rw [val_snoc, Nat.mul_zero, Nat.add_zero]; exact hv, .inr ⟨rfl, rfl⟩⟩
    · have hm' : B9 ≤ m := Nat.le_of_not_lt hm
      have hs := dec_split hm'
      have hl : nDigits m = nDigits (m / B9) + 9 := by rw [← decDigits_length, hs, List.length_append, padk_length, decDigits_length]
      have hx : m % B9 < B9 := Nat.mod_lt _ (by decide)
      have hdr : (decDigits m).drop (nDigits (m / B9)) = padk 9 (m % B9) := by rw [hs, ← decDigits_length (m / B9), List.drop_left]
      have hnm : numL 0 (padk 9 (m % B9)) = m % B9 := numL_pad9 hx
      refine ⟨nDigits (m / B9), m / B9, by rw [decDigits_length]; omega, dec_digits m, by rw [hdr, hnm]; exact hx, ?_⟩
      rw [hdr, hnm]
      refine ⟨hd.snoc hx, ?_, .inl ?_⟩
      · rw [val_snoc, List.length_append, List.length_singleton, Nat.pow_succ, ← hv, Nat.mul_assoc, Nat.add_assoc, ← Nat.mul_add]
        congr 2
        rw [Nat.add_comm]
        exact Nat.div_add_mod m B9
      · rw [hs, ← decDigits_length (m / B9), List.take_left]
  · simp at hT
theorem rreading_end {n m : Nat} {T : List UInt8} {r : List Nat} (h : RReading n T r m) (hT : ¬ 0 < T.length) : Dig r ∧ val r = n := by
  obtain ⟨hd, hv, rfl | ⟨rfl, rfl⟩⟩ := h
  · rw [decDigits_length] at hT
    exact absurd (nDigits_pos m) hT
  · rw [Nat.mul_zero, Nat.add_zero] at hv
    exact ⟨hd, hv⟩

/-- the length of a string -/
def strLen (v : Value) : Nat := match v with
  | .string s => s.size
  | _ => 0
end Go.Proofs.YthalpbjkkfkheaaDoor
/- joinlearnref01: size, plus, minus. -/
namespace Go.Proofs.YthalpbjkkfkheaaDoor
open Go.RowKit

/-- minus: the cells at place k: digits behind, the limb less a borrow, the limbs ahead -/
def subCells (a r : List Nat) (k c : Nat) : List Value := i64s r ++ (if k < a.length then .int .i64 ((limb a k : Int) - c) :: i64s (a.drop (k + 1)) else [])
theorem subCells_at {a r : List Nat} {k c : Nat} (hr : r.length = k) (hk : k < a.length) : (subCells a r k c)[k]? = some (.int .i64 ((limb a k : Int) - c)) := by
  rw [subCells, if_pos hk, List.getElem?_append_right (by rw [i64s_length]; omega), i64s_length, hr]
  simp
theorem subCells_next {a r : List Nat} {k c : Nat} (hr : r.length = k) (hk : k + 1 < a.length) : (subCells a r k c)[k + 1]? = some (.int .i64 (limb a (k + 1) : Nat)) := by
  rw [subCells, if_pos (by omega), List.getElem?_append_right (by rw [i64s_length]; omega), i64s_length, hr, show k + 1 - k = 0 + 1 by omega, List.getElem?_cons_succ, i64s_get (by rw [List.length_drop]; omega), limb_of hk]
  simp
theorem subCells_set {a r : List Nat} {k c p : Nat} (hr : r.length = k) (hk : k < a.length) : (subCells a r k c).set k (.int .i64 (p : Int)) = subCells a (r ++ [p]) (k + 1) 0 := by
  rw [subCells, subCells, if_pos hk, List.set_append_right _ _ (by rw [i64s_length]; omega), i64s_length, hr, Nat.sub_self, List.set_cons_zero, i64s_snoc, List.append_assoc]
  congr 1
  rw [List.singleton_append]
  congr 1
  by_cases h : k + 1 < a.length
  · rw [if_pos h, drop_limb _ _ h]
    simp [i64s]
  · rw [if_neg h, List.drop_of_length_le (by omega)]
    rfl
theorem subCells_borrow {a r : List Nat} {k : Nat} (hr : r.length = k) (hk : k < a.length) : (subCells a r k 0).set k (.int .i64 ((limb a k : Int) - 1)) = subCells a r k 1 := by
  rw [subCells, subCells, if_pos hk, if_pos hk, List.set_append_right _ _ (by rw [i64s_length]; omega), i64s_length, hr, Nat.sub_self, List.set_cons_zero]
  rfl
end Go.Proofs.YthalpbjkkfkheaaDoor
/- joinlearnref01: minus. -/
namespace Go.Proofs.YthalpbjkkfkheaaDoor
open Go.RowKit

theorem subCells_self {a r : List Nat} {k c : Nat} (hr : r.length = k) (hk : k < a.length) : (subCells a r k c).set k (.int .i64 ((limb a k : Int) - c)) = subCells a r k c := by
  rw [subCells, if_pos hk, List.set_append_right _ _ (by rw [i64s_length]; omega), i64s_length, hr, Nat.sub_self, List.set_cons_zero]
theorem subCells_length {a r : List Nat} {k c : Nat} (hr : r.length = k) (hk : k ≤ a.length) : (subCells a r k c).length = a.length := by
  rw [subCells, List.length_append, i64s_length]
  split
  · rw [List.length_cons, i64s_length, List.length_drop]; omega
  · simp; omega
theorem subCells_start (a : List Nat) : subCells a [] 0 0 = i64s a := by
  unfold subCells
  rcases a with _ | ⟨x, l⟩
  · rfl
  · simp [i64s, limb]
theorem subCells_end {a r : List Nat} {k c : Nat} (hk : ¬ k < a.length) : subCells a r k c = i64s r := by
  rw [subCells, if_neg hk, List.append_nil]
/-- no borrow is left behind the last limb -/
theorem sub_last {a b r : List Nat} {c : Nat} (ha : Canon a) (hb : Canon b) (hle : val b ≤ val a) (hr : r.length = a.length) (hd : Dig r) (h : val r + val (b.take a.length) = val (a.take a.length) + B9 ^ a.length * c) : c = 0 := by
  have hl := length_le_of_val ha hb hle
  rw [List.take_of_length_le hl, List.take_of_length_le (Nat.le_refl _)] at h
  have hv := val_lt hd
  rw [hr] at hv
  rcases Nat.eq_zero_or_pos c with h0 | h0
  · exact h0
  · have := Nat.le_mul_of_pos_right (B9 ^ a.length) h0
    omega

theorem own_fresh {w : World} {base : Nat} {e : TypeId} {size n c : Nat} {A : Option Addr} {xs : List Value} (h : w.ownsRow base e size (.slice A n c) n xs) : ∀ ad, A = some ad → base ≤ ad.block := by
  rcases h.2 with ⟨hv, _⟩ | ⟨g, cap, cur, hv, hb, _⟩
  · injection hv with h1
    intro ad h0
    rw [h1] at h0
    cases h0
  · injection hv with h1
    intro ad h0
    rw [h1] at h0
    injection h0 with h0
    subst h0
    exact hb
end Go.Proofs.YthalpbjkkfkheaaDoor
