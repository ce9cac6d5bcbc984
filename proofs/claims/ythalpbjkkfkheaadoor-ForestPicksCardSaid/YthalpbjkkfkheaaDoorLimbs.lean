/- Plain arithmetic of numbers in limbs of nine digits. No program is named here. The mathematics of the long division (a limb of the quotient is guessed from the first limbs, and corrected at most once). No program is named here. limbs: trim, sign, at, compare. limbs: add, sub. limbs: mul, short. limbs: step, a limb of the quotient. limbs: divide. limbs: small, gcd; a natural number as a value. -/
import Derived.Test.YthalpbjkkfkheaaDoorBase
import Derived.Test.YthalpbjkkfkheaaDoorProg
import Derived.Deep.QuietTactic
import Derived.BigQuiet
import Derived.RegionTactic
import Derived.Deep.RegionWith
import Derived.Deep.DeepCutAuto
import Derived.Laws.CopyOwn
import Derived.Deep.LoopGhost
/- Plain arithmetic of numbers in limbs of nine digits. No program is named here. -/
namespace Go.Proofs.YthalpbjkkfkheaaDoor

/-- the base of the limbs -/
def B9 : Nat := 1000000000
def val : List Nat → Nat
  | [] => 0
  | x :: r => x + B9 * val r
def Dig (l : List Nat) : Prop := ∀ x ∈ l, x < B9
/-- no zero at the end -/
def NoZ (l : List Nat) : Prop := l.getLast? ≠ some 0
def Canon (l : List Nat) : Prop := Dig l ∧ NoZ l

@[simp] theorem val_nil : val [] = 0 := rfl
@[simp] theorem val_cons (x : Nat) (r : List Nat) : val (x :: r) = x + B9 * val r := rfl
theorem val_append (a b : List Nat) : val (a ++ b) = val a + B9 ^ a.length * val b := by
  induction a with
  | nil => simp
  | cons x a ih => simp only [List.cons_append, val_cons, ih, List.length_cons, Nat.pow_succ, Nat.mul_add]; rw [Nat.mul_comm (B9 ^ a.length) B9, Nat.mul_assoc]; omega
theorem val_snoc (a : List Nat) (x : Nat) : val (a ++ [x]) = val a + B9 ^ a.length * x := by simp [val_append]
theorem Dig.nil : Dig [] := by simp [Dig]
theorem Dig.cons {x : Nat} {l : List Nat} (h : x < B9) (hl : Dig l) : Dig (x :: l) := by
  intro y hy; rcases List.mem_cons.1 hy with rfl | h'
  · exact h
  · exact hl y h'
theorem Dig.head {x : Nat} {l : List Nat} (h : Dig (x :: l)) : x < B9 := h x (by simp)
theorem Dig.tail {x : Nat} {l : List Nat} (h : Dig (x :: l)) : Dig l := fun y hy => h y (by simp [hy])
theorem Dig.take {l : List Nat} (h : Dig l) (k : Nat) : Dig (l.take k) := fun x hx => h x (List.mem_of_mem_take hx)
theorem Dig.drop {l : List Nat} (h : Dig l) (k : Nat) : Dig (l.drop k) := fun x hx => h x (List.mem_of_mem_drop hx)
theorem Dig.append {a b : List Nat} (ha : Dig a) (hb : Dig b) : Dig (a ++ b) := fun x hx => by
  rcases List.mem_append.1 hx with h | h
  · exact ha x h
  · exact hb x h
theorem Dig.snoc {a : List Nat} {x : Nat} (ha : Dig a) (hx : x < B9) : Dig (a ++ [x]) := ha.append (Dig.cons hx Dig.nil)
theorem Dig.getElem {l : List Nat} (h : Dig l) {k : Nat} (hk : k < l.length) : l[k] < B9 := h _ (by simp)
theorem B9_pos (n : Nat) : 0 < B9 ^ n := Nat.pow_pos (by decide)
theorem val_lt {l : List Nat} (h : Dig l) : val l < B9 ^ l.length := by
  induction l with
  | nil => simp
  | cons x l ih =>
    have h1 := ih h.tail
    have h2 := h.head
    simp only [val_cons, List.length_cons, Nat.pow_succ]
    have : B9 * val l + B9 ≤ B9 * B9 ^ l.length := by rw [← Nat.mul_succ]; exact Nat.mul_le_mul_left _ h1
    rw [Nat.mul_comm (B9 ^ l.length)]; omega
theorem val_zeros {l : List Nat} (h : ∀ x ∈ l, x = 0) : val l = 0 := by
  induction l with
  | nil => rfl
  | cons x l ih => simp only [val_cons, h x (by simp), ih (fun y hy => h y (by simp [hy]))]; rfl
theorem val_split (l : List Nat) (k : Nat) : val l = val (l.take k) + B9 ^ (l.take k).length * val (l.drop k) := by
  rw [← val_append, List.take_append_drop]
theorem val_take_of_zeros (l : List Nat) (k : Nat) (h : ∀ x ∈ l.drop k, x = 0) : val (l.take k) = val l := by
  rw [val_split l k, val_zeros h]; simp
theorem val_take_succ (l : List Nat) (k : Nat) (h : k < l.length) : val (l.take (k + 1)) = val (l.take k) + B9 ^ k * l[k] := by
  rw [List.take_succ_eq_append_getElem h, val_snoc, List.length_take, Nat.min_eq_left (by omega)]

theorem NoZ.nil : NoZ [] := by simp [NoZ]
theorem NoZ.of_last {l : List Nat} (hl : 0 < l.length) (h : l[l.length - 1] ≠ 0) : NoZ l := by
  unfold NoZ; rw [List.getLast?_eq_getElem?, List.getElem?_eq_getElem (by omega)]; simpa using h
theorem NoZ.last {l : List Nat} (h : NoZ l) (hl : 0 < l.length) : l[l.length - 1] ≠ 0 := by
  unfold NoZ at h; rw [List.getLast?_eq_getElem?, List.getElem?_eq_getElem (by omega)] at h; simpa using h
theorem NoZ.tail {x y : Nat} {l : List Nat} (h : NoZ (x :: y :: l)) : NoZ (y :: l) := by
  unfold NoZ at *; simpa using h
theorem NoZ.tail' {x : Nat} {l : List Nat} (h : NoZ (x :: l)) : NoZ l := by
  cases l with
  | nil => exact NoZ.nil
  | cons y l => exact h.tail
theorem Canon.nil : Canon [] := ⟨Dig.nil, NoZ.nil⟩
theorem Canon.tail {x : Nat} {l : List Nat} (h : Canon (x :: l)) : Canon l := ⟨h.1.tail, h.2.tail'⟩
theorem val_pos_of_noz {l : List Nat} (h : NoZ l) (hl : 0 < l.length) : B9 ^ (l.length - 1) ≤ val l := by
  have h1 := h.last hl
  have h2 := val_take_succ l (l.length - 1) (by omega)
  rw [List.take_of_length_le (by omega)] at h2
  rw [h2]
  have : B9 ^ (l.length - 1) * 1 ≤ B9 ^ (l.length - 1) * l[l.length - 1] := Nat.mul_le_mul_left _ (by omega)
  omega
/-- a longer canonical list is greater -/
theorem val_lt_of_length {a b : List Nat} (ha : Canon a) (hb : Canon b) (h : a.length < b.length) : val a < val b := by
  have h1 := val_lt ha.1
  have h2 := val_pos_of_noz hb.2 (by omega)
  have h3 : B9 ^ a.length ≤ B9 ^ (b.length - 1) := Nat.pow_le_pow_right (by decide) (by omega)
  omega
/-- equal above k, and less at k: less -/
theorem val_lt_of_at {a b : List Nat} (ha : Dig a) (hl : a.length = b.length) (k : Nat) (hk : k < a.length) (h : a[k] < b[k]) (hab : a.drop (k + 1) = b.drop (k + 1)) : val a < val b := by
  rw [val_split a (k + 1), val_split b (k + 1), hab, val_take_succ a k hk, val_take_succ b k (by omega), List.length_take, List.length_take, Nat.min_eq_left (by omega), Nat.min_eq_left (by omega)]
  have h1 := val_lt (ha.take k)
  rw [List.length_take, Nat.min_eq_left (by omega)] at h1
  have h2 : B9 ^ k * a[k] + B9 ^ k ≤ B9 ^ k * b[k] := by rw [← Nat.mul_succ]; exact Nat.mul_le_mul_left _ h
  omega
/-- the digits of a canonical list are determined by its value -/
theorem canon_unique {a b : List Nat} (ha : Canon a) (hb : Canon b) (h : val a = val b) : a = b := by
  induction a generalizing b with
  | nil =>
    cases b with
    | nil => rfl
    | cons y b => have := val_lt_of_length ha hb (by simp); simp only [val_nil] at *; omega
  | cons x a ih =>
    cases b with
    | nil => have := val_lt_of_length hb ha (by simp); simp only [val_nil] at *; omega
    | cons y b =>
      have hx := ha.1.head
      have hy := hb.1.head
      simp only [val_cons] at h
      have h1 : x = y := by
        have := congrArg (· % B9) h
        simp only [Nat.add_mul_mod_self_left] at this
        rwa [Nat.mod_eq_of_lt hx, Nat.mod_eq_of_lt hy] at this
      have h2 : val a = val b := by unfold B9 at h; omega
      rw [h1, ih ha.tail hb.tail h2]
theorem val_eq_zero {l : List Nat} (h : Canon l) (h0 : val l = 0) : l = [] := canon_unique h Canon.nil h0
theorem val_pos {l : List Nat} (h : Canon l) (hl : l ≠ []) : 0 < val l := by
  rcases Nat.eq_zero_or_pos (val l) with h0 | h0
  · exact absurd (val_eq_zero h h0) hl
  · exact h0
/-- how long a number of at most e decimal digits is -/
theorem length_of_lt {l : List Nat} (h : Canon l) {e : Nat} (hv : val l < 10 ^ e) : l.length ≤ e / 9 + 1 := by
  rcases Nat.eq_zero_or_pos l.length with h0 | h0
  · omega
  · have h1 := val_pos_of_noz h.2 h0
    have h2 : B9 ^ (l.length - 1) < 10 ^ e := by omega
    have h3 : B9 ^ (l.length - 1) = 10 ^ (9 * (l.length - 1)) := by rw [Nat.pow_mul]; rfl
    rw [h3] at h2
    have h4 := (Nat.pow_lt_pow_iff_right (a := 10) (by decide)).1 h2
    omega
/-- the limb at k, 0 beyond the end -/
def limb (l : List Nat) (k : Nat) : Nat := l.getD k 0
theorem limb_of {l : List Nat} {k : Nat} (h : k < l.length) : limb l k = l[k] := by rw [limb, List.getD_eq_getElem?_getD, List.getElem?_eq_getElem h]; rfl
theorem limb_beyond {l : List Nat} {k : Nat} (h : l.length ≤ k) : limb l k = 0 := by rw [limb, List.getD_eq_getElem?_getD, List.getElem?_eq_none h]; rfl
theorem val_take_getD (l : List Nat) (k : Nat) : val (l.take (k + 1)) = val (l.take k) + B9 ^ k * limb l k := by
  rcases Nat.lt_or_ge k l.length with h | h
  · rw [val_take_succ l k h, limb_of h]
  · rw [List.take_of_length_le (by omega), List.take_of_length_le h, limb_beyond h]; simp
theorem Dig.getD {l : List Nat} (h : Dig l) (k : Nat) : limb l k < B9 := by
  rcases Nat.lt_or_ge k l.length with hk | hk
  · rw [limb_of hk]; exact h.getElem hk
  · rw [limb_beyond hk]; decide
/-- r, then zeros, N limbs in all -/
def pad (r : List Nat) (N : Nat) : List Nat := r ++ List.replicate (N - r.length) 0
theorem pad_length {r : List Nat} {N : Nat} (h : r.length ≤ N) : (pad r N).length = N := by simp [pad]; omega
theorem pad_set {r : List Nat} {N : Nat} (x : Nat) (h : r.length < N) : (pad r N).set r.length x = pad (r ++ [x]) N := by
  obtain ⟨m, hm⟩ : ∃ m, N - r.length = m + 1 := ⟨N - r.length - 1, by omega⟩
  have h2 : N - (r.length + 1) = m := by omega
  simp [pad, hm, h2, List.replicate_succ]
theorem pad_full {r : List Nat} {N : Nat} (h : r.length = N) : pad r N = r := by simp [pad, h]
theorem pad_nil (N : Nat) : pad [] N = List.replicate N 0 := by simp [pad]
/-- one round of an addition -/
theorem add_round {r a b : List Nat} {k c t : Nat} (hr : r.length = k) (h : val r + B9 ^ k * c = val (a.take k) + val (b.take k)) (ht : t = limb a k + limb b k + c) :
    val (r ++ [t % B9]) + B9 ^ (k + 1) * (t / B9) = val (a.take (k + 1)) + val (b.take (k + 1)) := by
  rw [val_snoc, hr, val_take_getD, val_take_getD, Nat.pow_succ, Nat.mul_assoc]
  have h1 : B9 ^ k * (t % B9) + B9 ^ k * (B9 * (t / B9)) = B9 ^ k * t := by rw [← Nat.mul_add, Nat.mod_add_div]
  have h2 : B9 ^ k * t = B9 ^ k * limb a k + B9 ^ k * limb b k + B9 ^ k * c := by rw [ht, Nat.mul_add, Nat.mul_add]
  omega
theorem add_end {r a b : List Nat} {N c : Nat} (ha : Dig a) (hb : Dig b) (hr : r.length = N) (hN : N = max a.length b.length + 1) (h : val r + B9 ^ N * c = val (a.take N) + val (b.take N)) : val r = val a + val b := by
  rw [List.take_of_length_le (by omega), List.take_of_length_le (by omega)] at h
  have h1 := val_lt ha
  have h2 := val_lt hb
  have h3 : B9 ^ a.length ≤ B9 ^ (N - 1) := Nat.pow_le_pow_right (by decide) (by omega)
  have h4 : B9 ^ b.length ≤ B9 ^ (N - 1) := Nat.pow_le_pow_right (by decide) (by omega)
  have h5 : B9 ^ N = B9 ^ (N - 1) * B9 := by rw [← Nat.pow_succ]; congr 1; omega
  have h6 : B9 ^ (N - 1) * 2 ≤ B9 ^ N := by rw [h5]; exact Nat.mul_le_mul_left _ (by decide)
  have hc : c = 0 := by
    rcases Nat.eq_zero_or_pos c with h0 | h0
    · exact h0
    · have : B9 ^ N * 1 ≤ B9 ^ N * c := Nat.mul_le_mul_left _ h0
      omega
  subst hc
  omega
/-- one round of a subtraction -/
theorem sub_round {r a b : List Nat} {k c t : Nat} (hr : r.length = k) (h : val r + val (b.take k) = val (a.take k) + B9 ^ k * c) (ht : t + limb b k + c = limb a k + B9) (hc : t / B9 ≤ 1) :
    val (r ++ [t % B9]) + val (b.take (k + 1)) = val (a.take (k + 1)) + B9 ^ (k + 1) * (1 - t / B9) := by
  rw [val_snoc, hr, val_take_getD, val_take_getD, Nat.pow_succ, Nat.mul_assoc]
  have h1 : t % B9 + B9 * (t / B9) = t := Nat.mod_add_div t B9
  have h2 : t % B9 + limb b k + c = limb a k + B9 * (1 - t / B9) := by
    generalize t / B9 = q at *
    generalize t % B9 = m at *
    have : q = 0 ∨ q = 1 := by omega
    unfold B9 at *
    rcases this with rfl | rfl <;> omega
  have h3 : B9 ^ k * (t % B9) + B9 ^ k * limb b k + B9 ^ k * c = B9 ^ k * limb a k + B9 ^ k * (B9 * (1 - t / B9)) := by rw [← Nat.mul_add, ← Nat.mul_add, ← Nat.mul_add, h2]
  omega
theorem length_le_of_val {a b : List Nat} (ha : Canon a) (hb : Canon b) (h : val b ≤ val a) : b.length ≤ a.length := by
  rcases Nat.lt_or_ge a.length b.length with hl | hl
  · have := val_lt_of_length ha hb hl; omega
  · exact hl
theorem sub_end {r a b : List Nat} {c : Nat} (ha : Canon a) (hb : Canon b) (hr : r.length = a.length) (hd : Dig r) (hle : val b ≤ val a) (h : val r + val (b.take a.length) = val (a.take a.length) + B9 ^ a.length * c) : val r = val a - val b := by
  rw [List.take_of_length_le (length_le_of_val ha hb hle), List.take_of_length_le (Nat.le_refl _)] at h
  have h1 := val_lt hd
  rw [hr] at h1
  have hc : c = 0 := by
    rcases Nat.eq_zero_or_pos c with h0 | h0
    · exact h0
    · have : B9 ^ a.length * 1 ≤ B9 ^ a.length * c := Nat.mul_le_mul_left _ h0
      omega
  subst hc
  omega
/-- one limb of a product row -/
theorem mul_round {p r b : List Nat} {i k c x t z : Nat} (hp : p.length = i + k) (h : val p + B9 ^ (i + k) * c = val (r.take (i + k)) + B9 ^ i * (x * val (b.take k))) (hz : z = limb r (i + k)) (ht : t = z + x * limb b k + c) :
    val (p ++ [t % B9]) + B9 ^ (i + (k + 1)) * (t / B9) = val (r.take (i + (k + 1))) + B9 ^ i * (x * val (b.take (k + 1))) := by
  rw [val_snoc, hp, val_take_getD b k, ← Nat.add_assoc, val_take_getD r (i + k), Nat.pow_succ, Nat.mul_assoc, ← hz]
  have h1 : B9 ^ (i + k) * (t % B9) + B9 ^ (i + k) * (B9 * (t / B9)) = B9 ^ (i + k) * t := by rw [← Nat.mul_add, Nat.mod_add_div]
  have h2 : B9 ^ (i + k) * t = B9 ^ (i + k) * z + B9 ^ (i + k) * (x * limb b k) + B9 ^ (i + k) * c := by rw [ht, Nat.mul_add, Nat.mul_add]
  have h3 : B9 ^ i * (x * (val (b.take k) + B9 ^ k * limb b k)) = B9 ^ i * (x * val (b.take k)) + B9 ^ (i + k) * (x * limb b k) := by
    rw [Nat.mul_add, Nat.mul_add, Nat.pow_add, Nat.mul_assoc, Nat.mul_left_comm x (B9 ^ k)]
  omega
theorem mul_limb_le {x y : Nat} (hx : x < B9) (hy : y < B9) : x * y ≤ 999999998000000001 := by
  have : x * y ≤ 999999999 * 999999999 := Nat.mul_le_mul (by unfold B9 at hx; omega) (by unfold B9 at hy; omega)
  omega
theorem mul_outer {p r a b : List Nat} {i c : Nat} (hp : p.length = i + b.length) (hr : r.length = i + b.length) (hv : val r = val (a.take i) * val b)
    (h : val p + B9 ^ (i + b.length) * c = val (r.take (i + b.length)) + B9 ^ i * (limb a i * val (b.take b.length))) : val (p ++ [c]) = val (a.take (i + 1)) * val b := by
  rw [List.take_of_length_le (by omega), List.take_of_length_le (Nat.le_refl _), hv] at h
  rw [val_snoc, hp, h, val_take_getD a i, Nat.add_mul, Nat.mul_assoc]
/-- one limb of a short division -/
theorem short_round {a q : List Nat} {i rest d t : Nat} (hi : i < a.length) (h : val (a.drop (i + 1)) = val q * d + rest) (ht : t = rest * B9 + limb a i) :
    val (a.drop i) = val (t / d :: q) * d + t % d := by
  rw [List.drop_eq_getElem_cons hi, val_cons, h, ← limb_of hi, val_cons, Nat.add_mul]
  have h1 : t / d * d + t % d = t := Nat.div_add_mod' t d
  have h2 : B9 * (val q * d + rest) = B9 * val q * d + rest * B9 := by rw [Nat.mul_add, Nat.mul_assoc, Nat.mul_comm rest]
  omega
theorem short_lt {rest d x : Nat} (hr : rest < d) (hx : x < B9) : (rest * B9 + x) / d < B9 := by
  rw [Nat.div_lt_iff_lt_mul (by omega)]
  have : (rest + 1) * B9 ≤ d * B9 := Nat.mul_le_mul_right _ hr
  rw [Nat.add_mul] at this
  rw [Nat.mul_comm B9 d]
  omega
/-- the canonical list of a number -/
def toLF : Nat → Nat → List Nat
  | 0, _ => []
  | f + 1, n => if n = 0 then [] else n % B9 :: toLF f (n / B9)
def toL (n : Nat) : List Nat := toLF n n
theorem toLF_spec (f n : Nat) (h : n ≤ f) : Canon (toLF f n) ∧ val (toLF f n) = n := by
  induction f generalizing n with
  | zero => have : n = 0 := by omega
            subst this; exact ⟨Canon.nil, rfl⟩
  | succ f ih =>
    unfold toLF
    split
    · rename_i h0; subst h0; exact ⟨Canon.nil, rfl⟩
    · rename_i h0
      have hd : n / B9 ≤ f := by
        have : n / B9 < n := Nat.div_lt_self (by omega) (by decide)
        omega
      obtain ⟨h1, h2⟩ := ih (n / B9) hd
      refine ⟨⟨Dig.cons (Nat.mod_lt _ (by decide)) h1.1, ?_⟩, ?_⟩
      · generalize hr : toLF f (n / B9) = r at *
        cases r with
        | nil =>
          simp only [val_nil] at h2
          unfold NoZ
          simp only [List.getLast?_singleton, ne_eq, Option.some.injEq]
          have := Nat.div_add_mod n B9
          rw [← h2] at this
          omega
        | cons y r => have := h1.2; unfold NoZ at *; simpa using this
      · simp only [val_cons, h2]; exact Nat.mod_add_div n B9
theorem toL_canon (n : Nat) : Canon (toL n) := (toLF_spec n n (Nat.le_refl _)).1
theorem val_toL (n : Nat) : val (toL n) = n := (toLF_spec n n (Nat.le_refl _)).2
theorem toL_val {l : List Nat} (h : Canon l) : toL (val l) = l := canon_unique (toL_canon _) h (val_toL _)
theorem toL_zero : toL 0 = [] := rfl
theorem toL_length_le {n e : Nat} (h : n < 10 ^ e) : (toL n).length ≤ e / 9 + 1 := length_of_lt (toL_canon n) (by rwa [val_toL])
theorem toL_eq_nil {n : Nat} : toL n = [] ↔ n = 0 := ⟨fun h => by rw [← val_toL n, h]; rfl, fun h => by rw [h]; rfl⟩

end Go.Proofs.YthalpbjkkfkheaaDoor
/- The mathematics of the long division (a limb of the quotient is guessed from the first limbs, and corrected at most once). No program is named here. -/
namespace Go.Proofs.YthalpbjkkfkheaaDoor

theorem val_two {v : List Nat} {n : Nat} (hn : 2 ≤ n) (hl : v.length = n) : val v = val (v.take (n - 2)) + B9 ^ (n - 2) * (limb v (n - 1) * B9 + limb v (n - 2)) := by
  have h1 := val_take_getD v (n - 2)
  have h2 := val_take_getD v (n - 1)
  have e1 : n - 2 + 1 = n - 1 := by omega
  have e2 : n - 1 + 1 = n := by omega
  rw [e1] at h1
  rw [e2, List.take_of_length_le (by omega), h1] at h2
  have e3 : B9 ^ (n - 1) = B9 ^ (n - 2) * B9 := by rw [← Nat.pow_succ]; congr 1; omega
  rw [h2, e3, Nat.mul_add, Nat.mul_comm (limb v (n - 1)), ← Nat.mul_assoc]
  omega
theorem val_three {u : List Nat} {n : Nat} (hn : 2 ≤ n) (hl : u.length = n + 1) : val u = val (u.take (n - 2)) + B9 ^ (n - 2) * ((limb u n * B9 + limb u (n - 1)) * B9 + limb u (n - 2)) := by
  have h1 := val_take_getD u (n - 2)
  have h2 := val_take_getD u (n - 1)
  have h3 := val_take_getD u n
  have e1 : n - 2 + 1 = n - 1 := by omega
  have e2 : n - 1 + 1 = n := by omega
  rw [e1] at h1
  rw [e2] at h2
  rw [List.take_of_length_le (by omega)] at h3
  have e3 : B9 ^ (n - 1) = B9 ^ (n - 2) * B9 := by rw [← Nat.pow_succ]; congr 1; omega
  have e4 : B9 ^ n = B9 ^ (n - 2) * B9 * B9 := by rw [← Nat.pow_succ, ← Nat.pow_succ]; congr 1; omega
  rw [h3, h2, h1, e3, e4]
  generalize B9 ^ (n - 2) = P
  grind

section
variable {u v : List Nat} {n : Nat} (hn : 2 ≤ n) (hv : v.length = n) (hu : u.length = n + 1) (dv : Dig v) (du : Dig u)
include hn hv
theorem v_lo : (limb v (n - 1) * B9 + limb v (n - 2)) * B9 ^ (n - 2) ≤ val v := by
  rw [val_two hn hv, Nat.mul_comm]; omega
include dv in
theorem v_hi : val v < (limb v (n - 1) * B9 + limb v (n - 2) + 1) * B9 ^ (n - 2) := by
  have h := val_lt (dv.take (n - 2))
  rw [List.length_take, Nat.min_eq_left (by omega)] at h
  rw [val_two hn hv, Nat.add_mul, Nat.one_mul, Nat.mul_comm]; omega
theorem v_top : limb v (n - 1) * B9 ^ (n - 1) ≤ val v := by
  have h := val_take_getD v (n - 1)
  have e2 : n - 1 + 1 = n := by omega
  rw [e2, List.take_of_length_le (by omega)] at h
  rw [h, Nat.mul_comm]; omega
include dv in
theorem v_top_hi : val v < (limb v (n - 1) + 1) * B9 ^ (n - 1) := by
  have h := val_take_getD v (n - 1)
  have h0 := val_lt (dv.take (n - 1))
  rw [List.length_take, Nat.min_eq_left (by omega)] at h0
  have e2 : n - 1 + 1 = n := by omega
  rw [e2, List.take_of_length_le (by omega)] at h
  rw [h, Nat.add_mul, Nat.one_mul, Nat.mul_comm]; omega
end
section
variable {u : List Nat} {n : Nat} (hn : 2 ≤ n) (hu : u.length = n + 1) (du : Dig u)
include hn hu
theorem u_lo : ((limb u n * B9 + limb u (n - 1)) * B9 + limb u (n - 2)) * B9 ^ (n - 2) ≤ val u := by
  rw [val_three hn hu, Nat.mul_comm]; omega
include du in
theorem u_hi : val u < ((limb u n * B9 + limb u (n - 1)) * B9 + limb u (n - 2) + 1) * B9 ^ (n - 2) := by
  have h := val_lt (du.take (n - 2))
  rw [List.length_take, Nat.min_eq_left (by omega)] at h
  rw [val_three hn hu, Nat.add_mul _ 1, Nat.one_mul, Nat.mul_comm]; omega
omit hn in
theorem u_top : limb u n * B9 ^ n ≤ val u := by
  have h := val_take_getD u n
  rw [List.take_of_length_le (by omega)] at h
  rw [h, Nat.mul_comm]; omega
include du in
theorem u_top2_hi : val u < (limb u n * B9 + limb u (n - 1) + 1) * B9 ^ (n - 1) := by
  have h := u_hi hn hu du
  have h2 := du.getD (n - 2)
  have e3 : B9 ^ (n - 1) = B9 * B9 ^ (n - 2) := by rw [Nat.mul_comm, ← Nat.pow_succ]; congr 1; omega
  rw [e3, ← Nat.mul_assoc]
  refine Nat.lt_of_lt_of_le h (Nat.mul_le_mul_right _ ?_)
  rw [Nat.add_mul _ 1]; omega
end

/-- what the guess of a limb knows at every moment -/
structure Guess (u v : List Nat) (n q r : Nat) : Prop where
  top : q * limb v (n - 1) + r = limb u n * B9 + limb u (n - 1)
  up : val u < (q + 1) * val v
  rb : r < B9 + limb v (n - 1)
theorem guess_start {u v : List Nat} {n : Nat} (hn : 2 ≤ n) (hv : v.length = n) (hu : u.length = n + 1) (_dv : Dig v) (du : Dig u) (h1 : 0 < limb v (n - 1)) :
    Guess u v n ((limb u n * B9 + limb u (n - 1)) / limb v (n - 1)) ((limb u n * B9 + limb u (n - 1)) % limb v (n - 1)) := by
  refine ⟨Nat.div_add_mod' _ _, ?_, ?_⟩
  · have h2 := u_top2_hi hn hu du
    have h3 := v_top hn hv
    have h4 := Nat.lt_mul_div_succ (limb u n * B9 + limb u (n - 1)) h1
    generalize limb u n * B9 + limb u (n - 1) = T at *
    have h5 : (T + 1) * B9 ^ (n - 1) ≤ (T / limb v (n - 1) + 1) * val v := by
      refine Nat.le_trans (Nat.mul_le_mul_right (B9 ^ (n - 1)) (show T + 1 ≤ (T / limb v (n - 1) + 1) * limb v (n - 1) by rw [Nat.mul_comm]; omega)) ?_
      rw [Nat.mul_assoc]
      exact Nat.mul_le_mul_left _ h3
    omega
  · have := Nat.mod_lt (limb u n * B9 + limb u (n - 1)) h1
    omega
theorem guess_down {u v : List Nat} {n q r : Nat} (hn : 2 ≤ n) (hv : v.length = n) (hu : u.length = n + 1) (_dv : Dig v) (du : Dig u) (hB : val u < B9 * val v) (g : Guess u v n q r) (hr : r < B9)
    (h : B9 ≤ q ∨ r * B9 + limb u (n - 2) < q * limb v (n - 2)) : 1 ≤ q ∧ Guess u v n (q - 1) (r + limb v (n - 1)) := by
  have hq : 1 ≤ q := by
    rcases h with h | h
    · unfold B9 at h; omega
    · rcases Nat.eq_zero_or_pos q with h0 | h0
      · subst h0; simp at h
      · exact h0
  refine ⟨hq, ?_, ?_, by omega⟩
  · have h1 := g.top
    have : q * limb v (n - 1) = (q - 1) * limb v (n - 1) + limb v (n - 1) := by
      rw [← Nat.succ_mul]; congr 1; omega
    omega
  · have e : q - 1 + 1 = q := by omega
    rw [e]
    rcases h with h | h
    · exact Nat.lt_of_lt_of_le hB (Nat.mul_le_mul_right _ h)
    · have h1 := u_hi hn hu du
      have h2 := v_lo hn hv
      have h3 : (limb u n * B9 + limb u (n - 1)) * B9 + limb u (n - 2) + 1 ≤ q * (limb v (n - 1) * B9 + limb v (n - 2)) := by
        rw [← g.top, Nat.mul_add, ← Nat.mul_assoc, Nat.add_mul]; omega
      have h4 : ((limb u n * B9 + limb u (n - 1)) * B9 + limb u (n - 2) + 1) * B9 ^ (n - 2) ≤ q * val v := by
        refine Nat.le_trans (Nat.mul_le_mul_right _ h3) ?_
        rw [Nat.mul_assoc]
        exact Nat.mul_le_mul_left _ h2
      omega
theorem u0_le {u v : List Nat} {n : Nat} (hn : 2 ≤ n) (hv : v.length = n) (hu : u.length = n + 1) (dv : Dig v) (_du : Dig u) (hB : val u < B9 * val v) : limb u n ≤ limb v (n - 1) := by
  rcases Nat.lt_or_ge (limb v (n - 1)) (limb u n) with h | h
  · exfalso
    have h1 := u_top hu
    have h2 := v_top_hi hn hv dv
    have h3 : (limb v (n - 1) + 1) * B9 ^ n ≤ limb u n * B9 ^ n := Nat.mul_le_mul_right _ h
    have e : B9 ^ n = B9 ^ (n - 1) * B9 := by rw [← Nat.pow_succ]; congr 1; omega
    have h4 : B9 * val v ≤ B9 * ((limb v (n - 1) + 1) * B9 ^ (n - 1)) := Nat.mul_le_mul_left _ (by omega)
    have h5 : B9 * ((limb v (n - 1) + 1) * B9 ^ (n - 1)) = (limb v (n - 1) + 1) * B9 ^ n := by rw [e]; grind
    omega
  · exact h
/-- when the guessing ends -/
theorem guess_end {u v : List Nat} {n q r : Nat} (hn : 2 ≤ n) (hv : v.length = n) (hu : u.length = n + 1) (dv : Dig v) (du : Dig u) (hB : val u < B9 * val v) (g : Guess u v n q r)
    (h : B9 ≤ r ∨ (q < B9 ∧ q * limb v (n - 2) ≤ r * B9 + limb u (n - 2))) : q < B9 ∧ q * (limb v (n - 1) * B9 + limb v (n - 2)) ≤ (limb u n * B9 + limb u (n - 1)) * B9 + limb u (n - 2) := by
  have ht := g.top
  rcases h with h | ⟨h1, h2⟩
  · have h0 := u0_le hn hv hu dv du hB
    have hu1 := du.getD (n - 1)
    have hv2 := dv.getD (n - 2)
    have h3 : limb u n * B9 ≤ limb v (n - 1) * B9 := Nat.mul_le_mul_right _ h0
    have hq : q < B9 := by
      rcases Nat.lt_or_ge q B9 with hq | hq
      · exact hq
      · exfalso
        have : B9 * limb v (n - 1) ≤ q * limb v (n - 1) := Nat.mul_le_mul_right _ hq
        rw [Nat.mul_comm] at this
        omega
    refine ⟨hq, ?_⟩
    rw [← ht, Nat.mul_add, ← Nat.mul_assoc, Nat.add_mul]
    have h4 : q * limb v (n - 2) ≤ B9 * B9 := Nat.mul_le_mul (by omega) (by omega)
    have h5 : B9 * B9 ≤ r * B9 := Nat.mul_le_mul_right _ h
    omega
  · refine ⟨h1, ?_⟩
    rw [← ht, Nat.mul_add, ← Nat.mul_assoc, Nat.add_mul]
    omega
/-- the guess is at most one too great -/
theorem guess_near {u v : List Nat} {n q : Nat} (hn : 2 ≤ n) (hv : v.length = n) (hu : u.length = n + 1) (dv : Dig v) (_du : Dig u) (h1 : 0 < limb v (n - 1)) (hq : q < B9)
    (h : q * (limb v (n - 1) * B9 + limb v (n - 2)) ≤ (limb u n * B9 + limb u (n - 1)) * B9 + limb u (n - 2)) : q * val v ≤ val u + val v := by
  have h2 := u_lo hn hu
  have h3 := v_hi hn hv dv
  have h4 := v_top hn hv
  have e : B9 ^ (n - 1) = B9 * B9 ^ (n - 2) := by rw [Nat.mul_comm, ← Nat.pow_succ]; congr 1; omega
  have h5 : q * val v ≤ q * ((limb v (n - 1) * B9 + limb v (n - 2) + 1) * B9 ^ (n - 2)) := Nat.mul_le_mul_left _ (by omega)
  have h6 : q * ((limb v (n - 1) * B9 + limb v (n - 2) + 1) * B9 ^ (n - 2)) = q * (limb v (n - 1) * B9 + limb v (n - 2)) * B9 ^ (n - 2) + q * B9 ^ (n - 2) := by
    rw [Nat.add_mul, Nat.one_mul, Nat.mul_add, Nat.mul_assoc]
  have h7 : q * (limb v (n - 1) * B9 + limb v (n - 2)) * B9 ^ (n - 2) ≤ ((limb u n * B9 + limb u (n - 1)) * B9 + limb u (n - 2)) * B9 ^ (n - 2) := Nat.mul_le_mul_right _ h
  have h8 : q * B9 ^ (n - 2) ≤ B9 * B9 ^ (n - 2) := Nat.mul_le_mul_right _ (by omega)
  have h9 : 1 * B9 ^ (n - 1) ≤ limb v (n - 1) * B9 ^ (n - 1) := Nat.mul_le_mul_right _ h1
  omega
/-- one limb of the subtraction of q divisors -/
theorem take_round {p u v : List Nat} {k c q t y c' : Nat} (hp : p.length = k) (h : val p + q * val (v.take k) = val (u.take k) + B9 ^ k * c) (ht : t = q * limb v k + c) (hy : y + t = limb u k + B9 * c') :
    val (p ++ [y]) + q * val (v.take (k + 1)) = val (u.take (k + 1)) + B9 ^ (k + 1) * c' := by
  rw [val_snoc, hp, val_take_getD v k, val_take_getD u k, Nat.pow_succ, Nat.mul_assoc, Nat.mul_add]
  have h1 : B9 ^ k * y + B9 ^ k * t = B9 ^ k * limb u k + B9 ^ k * (B9 * c') := by rw [← Nat.mul_add, ← Nat.mul_add, hy]
  have h2 : B9 ^ k * t = B9 ^ k * (q * limb v k) + B9 ^ k * c := by rw [ht, Nat.mul_add]
  have h3 : q * (B9 ^ k * limb v k) = B9 ^ k * (q * limb v k) := Nat.mul_left_comm _ _ _
  omega
/-- q was right -/
theorem take_right {p u v : List Nat} {n c q : Nat} (hv : v.length = n) (hu : u.length = n + 1) (hp : p.length = n) (up : val u < (q + 1) * val v)
    (h : val p + q * val (v.take n) = val (u.take n) + B9 ^ n * c) (hc : c ≤ limb u n) : val u / val v = q ∧ val (p ++ [limb u n - c]) = val u % val v := by
  rw [List.take_of_length_le (by omega)] at h
  have h1 := val_take_getD u n
  rw [List.take_of_length_le (by omega)] at h1
  have h2 : B9 ^ n * limb u n = B9 ^ n * c + B9 ^ n * (limb u n - c) := by rw [← Nat.mul_add]; congr 1; omega
  have h3 : val (p ++ [limb u n - c]) + q * val v = val u := by rw [val_snoc, hp]; omega
  have hd : val u / val v = q := by
    refine (Nat.div_eq_iff (by rcases Nat.eq_zero_or_pos (val v) with h0 | h0; (rw [h0] at up; simp at up); exact h0)).2 ⟨by omega, ?_⟩
    rw [Nat.add_mul] at up; omega
  refine ⟨hd, ?_⟩
  have := Nat.div_add_mod (val u) (val v)
  rw [hd, Nat.mul_comm] at this
  omega
/-- q was one too great: a divisor is added again -/
theorem take_back {p r u v : List Nat} {n c q d : Nat} (hv : v.length = n) (hu : u.length = n + 1) (hp : p.length = n) (hr : r.length = n) (dr : Dig r) (dv : Dig v) (up : val u < (q + 1) * val v) (near : q * val v ≤ val u + val v)
    (h : val p + q * val (v.take n) = val (u.take n) + B9 ^ n * c) (hc : limb u n < c) (hdp : Dig p) (hb : val r + B9 ^ n * d = val (p.take n) + val (v.take n)) :
    1 ≤ q ∧ val u / val v = q - 1 ∧ val r = val u % val v ∧ limb u n + d = c := by
  rw [List.take_of_length_le (by omega)] at h
  rw [List.take_of_length_le (by omega), List.take_of_length_le (by omega)] at hb
  have h1 := val_take_getD u n
  rw [List.take_of_length_le (by omega)] at h1
  have lp := val_lt hdp
  have lr := val_lt dr
  have lv := val_lt dv
  rw [hp] at lp
  rw [hr] at lr
  rw [hv] at lv
  have h2 : B9 ^ n * c = B9 ^ n * limb u n + B9 ^ n * (c - limb u n) := by rw [← Nat.mul_add]; congr 1; omega
  have h3 : B9 ^ n * 1 ≤ B9 ^ n * (c - limb u n) := Nat.mul_le_mul_left _ (by omega)
  have hlt : val u < q * val v := by omega
  have hq : 1 ≤ q := by
    rcases Nat.eq_zero_or_pos q with h0 | h0
    · subst h0; simp at hlt
    · exact h0
  have e1 : q * val v = (q - 1) * val v + val v := by rw [← Nat.succ_mul]; congr 1; omega
  have h4 : val r + B9 ^ n * d + (q - 1) * val v = val u + B9 ^ n * (c - limb u n) := by omega
  have h5 : d = c - limb u n := by
    rcases Nat.lt_trichotomy d (c - limb u n) with hd | hd | hd
    · exfalso
      have : B9 ^ n * (d + 1) ≤ B9 ^ n * (c - limb u n) := Nat.mul_le_mul_left _ hd
      rw [Nat.mul_succ] at this
      omega
    · exact hd
    · exfalso
      have : B9 ^ n * (c - limb u n + 1) ≤ B9 ^ n * d := Nat.mul_le_mul_left _ hd
      rw [Nat.mul_succ] at this
      omega
  have h6 : val r + (q - 1) * val v = val u := by rw [h5] at h4; omega
  have hd : val u / val v = q - 1 := by
    refine (Nat.div_eq_iff (by omega)).2 ⟨by omega, by omega⟩
  refine ⟨hq, hd, ?_, by omega⟩
  have := Nat.div_add_mod (val u) (val v)
  rw [hd, Nat.mul_comm] at this
  omega

/-- the factor makes the first limb great enough -/
theorem norm_top {x : Nat} (h0 : 0 < x) (h1 : x < B9) : 500000000 ≤ x * (B9 / (x + 1)) := by
  have hd := Nat.div_add_mod B9 (x + 1)
  have hm := Nat.mod_lt B9 (show 0 < x + 1 by omega)
  generalize hf : B9 / (x + 1) = f at *
  generalize hr : B9 % (x + 1) = r at *
  have hB : B9 = 1000000000 := rfl
  rcases Nat.lt_or_ge f 2 with h | h
  · have : f = 0 ∨ f = 1 := by omega
    rcases this with rfl | rfl
    · omega
    · omega
  · rcases Nat.lt_or_ge x 2 with hx | hx
    · have : x = 1 := by omega
      subst this
      omega
    · have h3 : f * (x - 1) ≥ 2 * (x - 1) := Nat.mul_le_mul_right _ h
      have h4 : (x + 1) * f = f * (x - 1) + 2 * f := by
        have : x + 1 = (x - 1) + 2 := by omega
        rw [this, Nat.add_mul, Nat.mul_comm (x - 1)]
      have h5 : x * f = (x + 1) * f - f := by rw [Nat.add_mul]; omega
      omega
theorem norm_len {b v : List Nat} {n f : Nat} (hb : Canon b) (hn : b.length = n) (h1 : 1 ≤ n) (hf : f = B9 / (limb b (n - 1) + 1)) (hv : Canon v) (hval : val v = val b * f) :
    v.length = n ∧ 500000000 ≤ limb v (n - 1) := by
  have hx0 : 0 < limb b (n - 1) := by
    have := hb.2.last (by omega)
    rw [limb_of (by omega)]
    have e : b.length - 1 = n - 1 := by omega
    simp only [e] at this
    omega
  have hx1 := hb.1.getD (n - 1)
  have hnt := norm_top hx0 hx1
  rw [← hf] at hnt
  have ht := val_take_getD b (n - 1)
  have e2 : n - 1 + 1 = n := by omega
  rw [e2, List.take_of_length_le (by omega)] at ht
  have hlt := val_lt (hb.1.take (n - 1))
  rw [List.length_take, Nat.min_eq_left (by omega)] at hlt
  have hfx : (limb b (n - 1) + 1) * f ≤ B9 := by rw [hf]; exact Nat.mul_div_le _ _
  generalize limb b (n - 1) = x at *
  have hup : val v < B9 ^ n := by
    have h2 : val b < (x + 1) * B9 ^ (n - 1) := by rw [Nat.add_mul, Nat.one_mul, Nat.mul_comm]; omega
    have hf0 : 0 < f := by
      rcases Nat.eq_zero_or_pos f with h | h
      · subst h; simp at hnt
      · exact h
    have h3 : val b * f < (x + 1) * B9 ^ (n - 1) * f := Nat.mul_lt_mul_of_pos_right h2 hf0
    have h4 : (x + 1) * B9 ^ (n - 1) * f = (x + 1) * f * B9 ^ (n - 1) := by rw [Nat.mul_assoc, Nat.mul_assoc, Nat.mul_comm f]
    have h5 : (x + 1) * f * B9 ^ (n - 1) ≤ B9 * B9 ^ (n - 1) := Nat.mul_le_mul_right _ hfx
    have h6 : B9 ^ n = B9 * B9 ^ (n - 1) := by rw [Nat.mul_comm, ← Nat.pow_succ]; congr 1; omega
    omega
  have hlo : 500000000 * B9 ^ (n - 1) ≤ val v := by
    have h2 : x * B9 ^ (n - 1) ≤ val b := by rw [Nat.mul_comm]; omega
    have h3 : x * B9 ^ (n - 1) * f ≤ val b * f := Nat.mul_le_mul_right _ h2
    have h4 : x * B9 ^ (n - 1) * f = x * f * B9 ^ (n - 1) := by rw [Nat.mul_assoc, Nat.mul_assoc, Nat.mul_comm f]
    have h5 : 500000000 * B9 ^ (n - 1) ≤ x * f * B9 ^ (n - 1) := Nat.mul_le_mul_right _ hnt
    omega
  have hlen : v.length = n := by
    rcases Nat.lt_trichotomy v.length n with h | h | h
    · exfalso
      have h2 := val_lt hv.1
      have h3 : B9 ^ v.length ≤ B9 ^ (n - 1) := Nat.pow_le_pow_right (by decide) (by omega)
      have h4 : 1 * B9 ^ (n - 1) ≤ 500000000 * B9 ^ (n - 1) := Nat.mul_le_mul_right _ (by decide)
      omega
    · exact h
    · exfalso
      have h2 := val_pos_of_noz hv.2 (by omega)
      have h3 : B9 ^ n ≤ B9 ^ (v.length - 1) := Nat.pow_le_pow_right (by decide) (by omega)
      omega
  refine ⟨hlen, ?_⟩
  have h2 := val_take_getD v (n - 1)
  rw [e2, List.take_of_length_le (by omega)] at h2
  have h3 := val_lt (hv.1.take (n - 1))
  rw [List.length_take, Nat.min_eq_left (by omega)] at h3
  rcases Nat.lt_or_ge (limb v (n - 1)) 500000000 with h | h
  · exfalso
    have h4 : (limb v (n - 1) + 1) * B9 ^ (n - 1) ≤ 500000000 * B9 ^ (n - 1) := Nat.mul_le_mul_right _ h
    rw [Nat.add_mul, Nat.one_mul, Nat.mul_comm (limb v (n - 1))] at h4
    omega
  · exact h

/-- what the long division knows when m limbs of the quotient are still to be found -/
structure Long (A V : Nat) (n m : Nat) (uw q : List Nat) : Prop where
  dig : Dig uw
  qdig : Dig q
  zero : ∀ x ∈ uw.drop (m + n), x = 0
  rem : val ((uw.drop m).take n) < V
  sum : A = val q * (B9 ^ m * V) + val uw
theorem long_window {A V n j : Nat} {uw q : List Nat} (h : Long A V n (j + 1) uw q) (hl : j < uw.length) : val ((uw.drop j).take (n + 1)) < B9 * V := by
  rw [List.drop_eq_getElem_cons hl, List.take_succ_cons, val_cons]
  have h1 := h.dig.getElem hl
  have h2 := h.rem
  have h3 : B9 * (val ((uw.drop (j + 1)).take n) + 1) ≤ B9 * V := Nat.mul_le_mul_left _ h2
  rw [Nat.mul_succ] at h3
  omega
theorem drop_app_left {a b : List Nat} {k : Nat} (h : a.length = k) : (a ++ b).drop k = b := by subst h; simp
theorem long_round {A V n j : Nat} {uw q u' : List Nat} (h : Long A V n (j + 1) uw q) (hl : j + n + 1 ≤ uw.length) (hu : u'.length = n + 1) (du : Dig u') (hV : V < B9 ^ n) (hV0 : 0 < V)
    (hr : val u' = val ((uw.drop j).take (n + 1)) % V) : Long A V n j (uw.take j ++ (u' ++ uw.drop (j + (n + 1)))) (val ((uw.drop j).take (n + 1)) / V :: q) := by
  have hw := long_window h (by omega)
  have hq : val ((uw.drop j).take (n + 1)) / V < B9 := by rw [Nat.div_lt_iff_lt_mul hV0]; exact hw
  have hz : ∀ x ∈ uw.drop (j + (n + 1)), x = 0 := by have := h.zero; rwa [Nat.add_right_comm, Nat.add_assoc j n 1] at this
  have htl : (uw.take j).length = j := by rw [List.length_take]; omega
  have hur : val u' < V := by rw [hr]; exact Nat.mod_lt _ hV0
  have hut := val_take_getD u' n
  rw [List.take_of_length_le (by omega)] at hut
  have htop : limb u' n = 0 := by
    rcases Nat.eq_zero_or_pos (limb u' n) with h0 | h0
    · exact h0
    · have : B9 ^ n * 1 ≤ B9 ^ n * limb u' n := Nat.mul_le_mul_left _ h0
      omega
  refine ⟨(h.dig.take j).append (du.append (h.dig.drop _)), Dig.cons hq h.qdig, ?_, ?_, ?_⟩
  · intro x hx
    rw [← List.drop_drop, drop_app_left htl, List.drop_append, List.mem_append] at hx
    rcases hx with hx | hx
    · rw [List.drop_eq_getElem_cons (by omega), List.drop_of_length_le (by omega), List.mem_singleton, ← limb_of (by omega), htop] at hx
      exact hx
    · exact hz x (List.mem_of_mem_drop hx)
  · rw [drop_app_left htl, List.take_append_of_le_length (by omega)]
    rw [htop] at hut
    omega
  · have e1 : val uw = val (uw.take j) + B9 ^ j * val ((uw.drop j).take (n + 1)) := by
      rw [val_split uw j, htl, val_split (uw.drop j) (n + 1), List.drop_drop, val_zeros hz]
      simp
    have e2 : val (uw.take j ++ (u' ++ uw.drop (j + (n + 1)))) = val (uw.take j) + B9 ^ j * val u' := by
      rw [val_append, htl, val_append, val_zeros hz]
      simp
    have e3 := Nat.div_add_mod (val ((uw.drop j).take (n + 1))) V
    rw [h.sum, e1, e2, val_cons, hr, Nat.pow_succ]
    generalize val ((uw.drop j).take (n + 1)) = W at *
    generalize W / V = Q at *
    generalize W % V = R at *
    generalize B9 ^ j = P at *
    rw [← e3]
    grind
theorem long_start {a b : List Nat} {r : List Nat} {n la f : Nat} (ca : Canon a) (cb : Canon b) (hla : a.length = la) (hn : b.length = n) (h1 : 1 ≤ n) (hle : n ≤ la) (hf : 0 < f) (hr : Canon r) (hrl : r.length ≤ la + 1) (hv : val r = val a * f) :
    Long (val a * f) (val b * f) n (la + 1 - n) (pad r (la + 1)) [] := by
  have hpv : val (pad r (la + 1)) = val a * f := by
    have hz : val (List.replicate (la + 1 - r.length) 0) = 0 := val_zeros (by intro x hx; exact (List.mem_replicate.1 hx).2)
    rw [pad, val_append, hz, hv]; simp
  have hpl := pad_length (r := r) (N := la + 1) hrl
  refine ⟨hr.1.append (by intro x hx; rw [List.mem_replicate] at hx; rw [hx.2]; decide), Dig.nil, ?_, ?_, ?_⟩
  · intro x hx
    rw [List.drop_of_length_le (by omega)] at hx
    cases hx
  · rw [List.take_of_length_le (by rw [List.length_drop]; omega)]
    have h2 := val_split (pad r (la + 1)) (la + 1 - n)
    rw [hpv, List.length_take, Nat.min_eq_left (by omega)] at h2
    have h3 := val_lt ca.1
    have h4 := val_pos_of_noz cb.2 (by omega)
    rw [hla] at h3
    rw [hn] at h4
    have h5 : val a * f < B9 ^ la * f := Nat.mul_lt_mul_of_pos_right h3 hf
    have h6 : B9 ^ la = B9 ^ (la + 1 - n) * B9 ^ (n - 1) := by rw [← Nat.pow_add]; congr 1; omega
    have h7 : B9 ^ (la + 1 - n) * (B9 ^ (n - 1) * f) ≤ B9 ^ (la + 1 - n) * (val b * f) := Nat.mul_le_mul_left _ (Nat.mul_le_mul_right _ h4)
    rw [h6, Nat.mul_assoc] at h5
    rcases Nat.lt_or_ge (val ((pad r (la + 1)).drop (la + 1 - n))) (val b * f) with h | h
    · exact h
    · exfalso
      have : B9 ^ (la + 1 - n) * (val b * f) ≤ B9 ^ (la + 1 - n) * val ((pad r (la + 1)).drop (la + 1 - n)) := Nat.mul_le_mul_left _ h
      omega
  · rw [hpv]; simp
theorem long_end {a b f n : Nat} {uw q : List Nat} (hb : 0 < b) (hf : 0 < f) (h : Long (a * f) (b * f) n 0 uw q) : val q = a / b ∧ val (uw.take n) / f = a % b ∧ val (uw.take n) % f = 0 := by
  have hr := h.rem
  have hs := h.sum
  rw [List.drop_zero] at hr
  have hz := h.zero
  rw [Nat.zero_add] at hz
  rw [Nat.pow_zero, Nat.one_mul, ← val_take_of_zeros uw n hz] at hs
  generalize val (uw.take n) = R at *
  generalize val q = Q at *
  have h1 : a * f / (b * f) = Q := by
    rw [hs, Nat.mul_comm Q, Nat.mul_add_div (Nat.mul_pos hb hf), Nat.div_eq_of_lt hr, Nat.add_zero]
  have h2 : a * f % (b * f) = R := by
    rw [hs, Nat.mul_comm Q, Nat.mul_add_mod, Nat.mod_eq_of_lt hr]
  rw [Nat.mul_div_mul_right _ _ hf] at h1
  rw [Nat.mul_mod_mul_right] at h2
  rw [← h2, Nat.mul_div_cancel _ hf, Nat.mul_mod_left]
  exact ⟨h1.symm, rfl, rfl⟩
end Go.Proofs.YthalpbjkkfkheaaDoor
/- limbs: trim, sign, at, compare. -/
namespace Go.Proofs.YthalpbjkkfkheaaDoor
open Go.RowKit

/-- limbs as cells -/
def u64s (l : List Nat) : List Value := l.map fun x : Nat => Value.int .u64 (x : Int)
theorem u64s_length (l : List Nat) : (u64s l).length = l.length := by simp [u64s]
theorem u64s_get {l : List Nat} {k : Nat} (h : k < l.length) : (u64s l)[k]? = some (.int .u64 (l[k] : Int)) := by simp [u64s, h]
theorem u64s_take (l : List Nat) (k : Nat) : (u64s l).take k = u64s (l.take k) := by simp [u64s, List.map_take]
/-- the address A holds the limbs l -/
abbrev Lm (w : World) (A : Option Addr) (l : List Nat) : Prop := Sl w 41 A (u64s l)

/-- what trim has found at n: all that lies behind is 0 -/
def Behind (l : List Nat) (n : Nat) : Prop := n ≤ l.length ∧ ∀ x ∈ l.drop n, x = 0
theorem Behind.step {l : List Nat} {n : Nat} (h : Behind l (n + 1)) (h0 : ∀ hl : n < l.length, l[n] = 0) : Behind l n := by
  refine ⟨by have := h.1; omega, fun x hx => ?_⟩
  have hn : n < l.length := by have := h.1; omega
  rw [List.drop_eq_getElem_cons hn] at hx
  rcases List.mem_cons.1 hx with rfl | hx
  · exact h0 hn
  · exact h.2 x hx

/-- the sign of a comparison -/
def cmpN (a b : Nat) : Int := if a < b then -1 else if b < a then 1 else 0
theorem cmpN_lt {a b : Nat} (h : a < b) : cmpN a b = -1 := by simp [cmpN, h]
theorem cmpN_gt {a b : Nat} (h : b < a) : cmpN a b = 1 := by simp [cmpN, h]; omega
theorem cmpN_eq {a b : Nat} (h : a = b) : cmpN a b = 0 := by simp [cmpN, h]

end Go.Proofs.YthalpbjkkfkheaaDoor
/- limbs: add, sub. -/
namespace Go.Proofs.YthalpbjkkfkheaaDoor
open Go.RowKit

theorem u64_info : (Tryd.prog.info? 41).map (fun i => (i.zero, i.size, i.bytes)) = some (some (.int .u64 0), 1, 8) := by kernel_rfl
theorem limb_store {w : World} {g k N x : Nat} {r : List Nat} {z : Int} (h : Blk w g 41 (u64s (pad r N))) (hr : r.length = k) (hk : k < N) (hz : z = x) : Blk (w.setCell ⟨g, k, none⟩ (.int .u64 z)) g 41 (u64s (pad (r ++ [x]) N)) := by
  have := h.set_ k (.int .u64 z)
  subst hr
  rw [← pad_set x hk, u64s, List.map_set, ← u64s, ← hz]
  exact this
theorem limb_cell {w : World} {g k N : Nat} {r : List Nat} (h : Blk w g 41 (u64s (pad r N))) (hr : r.length = k) (hk : k < N) : w.cell? ⟨g, k, none⟩ = some (.int .u64 (0 : Nat)) :=
  h.cell (by rw [u64s_get (by rw [pad_length (by omega)]; omega)]; simp [pad, hr])
end Go.Proofs.YthalpbjkkfkheaaDoor
/- limbs: mul, short. -/
namespace Go.Proofs.YthalpbjkkfkheaaDoor
open Go.RowKit

theorem limb_at {w : World} {g i : Nat} {l : List Nat} (h : Blk w g 41 (u64s l)) (hi : i < l.length) : w.cell? ⟨g, i, none⟩ = some (.int .u64 (limb l i : Nat)) :=
  h.cell (by rw [u64s_get hi, limb_of hi])
theorem limb_set {w : World} {g i x : Nat} {l : List Nat} {z : Int} (h : Blk w g 41 (u64s l)) (hz : z = x) : Blk (w.setCell ⟨g, i, none⟩ (.int .u64 z)) g 41 (u64s (l.set i x)) := by
  have := h.set_ i (.int .u64 z)
  rw [u64s, List.map_set, ← u64s, ← hz]
  exact this
theorem set_mid (p : List Nat) (z : Nat) (q : List Nat) (x i : Nat) (h : p.length = i) : (p ++ z :: q).set i x = p ++ x :: q := by
  subst h
  simp
theorem limb_mid (p : List Nat) (z : Nat) (q : List Nat) (i : Nat) (h : p.length = i) : limb (p ++ z :: q) i = z := by
  subst h
  rw [limb_of (by simp)]
  simp
theorem drop_limb (l : List Nat) (i : Nat) (h : i < l.length) : l.drop i = limb l i :: l.drop (i + 1) := by
  rw [limb_of h]; exact List.drop_eq_getElem_cons h
theorem limb_pad {r : List Nat} {N i : Nat} : limb (pad r N) i = limb r i := by
  unfold limb pad
  rw [List.getD_eq_getElem?_getD, List.getD_eq_getElem?_getD, List.getElem?_append]
  split
  · rfl
  · rename_i h
    rw [List.getElem?_replicate, List.getElem?_eq_none (l := r) (by omega)]
    split <;> rfl
theorem pad_zeros (m N : Nat) (h : m ≤ N) : pad (List.replicate m 0) N = pad [] N := by
  simp [pad]
  omega

end Go.Proofs.YthalpbjkkfkheaaDoor
/- limbs: step, a limb of the quotient. -/
namespace Go.Proofs.YthalpbjkkfkheaaDoor
open Go.RowKit

theorem limb_take {s : List Nat} {m k : Nat} (h : k < m) : limb (s.take m) k = limb s k := by
  unfold limb
  rw [List.getD_eq_getElem?_getD, List.getD_eq_getElem?_getD, List.getElem?_take, if_pos h]
theorem limb_app {pre s : List Nat} {o k : Nat} (h : pre.length = o) : limb (pre ++ s) (o + k) = limb s k := by
  subst h
  unfold limb
  rw [List.getD_eq_getElem?_getD, List.getD_eq_getElem?_getD, List.getElem?_append_right (by omega)]
  congr 2
  omega
/-- a cell of the part of block g that lies behind pre -/
theorem part_cell {w : World} {g o k : Nat} {pre s : List Nat} (h : Blk w g 41 (u64s (pre ++ s))) (ho : pre.length = o) (hk : k < s.length) : w.cell? ⟨g, o + k, none⟩ = some (.int .u64 (limb s k : Nat)) := by
  rw [limb_at h (by rw [List.length_append]; omega), limb_app ho]

theorem part_set {w : World} {g o k y : Nat} {z : Int} {pre p s : List Nat} (h : Blk w g 41 (u64s (pre ++ (p ++ s.drop k)))) (ho : pre.length = o) (hp : p.length = k) (hk : k < s.length) (hz : z = y) :
    Blk (w.setCell ⟨g, o + k, none⟩ (.int .u64 z)) g 41 (u64s (pre ++ ((p ++ [y]) ++ s.drop (k + 1)))) := by
  have h1 := limb_set (i := o + k) (x := y) h hz
  rw [List.drop_eq_getElem_cons hk, ← List.append_assoc, set_mid _ _ _ _ _ (by rw [List.length_append]; omega)] at h1
  simpa using h1
theorem part_set2 {w : World} {g o k y y1 : Nat} {z : Int} {pre p r : List Nat} (h : Blk w g 41 (u64s (pre ++ ((p ++ [y1]) ++ r)))) (ho : pre.length = o) (hp : p.length = k) (hz : z = y) :
    Blk (w.setCell ⟨g, o + k, none⟩ (.int .u64 z)) g 41 (u64s (pre ++ ((p ++ [y]) ++ r))) := by
  have h1 := limb_set (i := o + k) (x := y) h hz
  have e : pre ++ ((p ++ [y1]) ++ r) = (pre ++ p) ++ y1 :: r := by simp
  rw [e, set_mid _ _ _ _ _ (by rw [List.length_append]; omega)] at h1
  simpa using h1
theorem limb_rest {p s : List Nat} {k : Nat} (hp : p.length = k) : limb (p ++ s.drop k) k = limb s k := by
  have := limb_app (s := s.drop k) (k := 0) hp
  rw [Nat.add_zero] at this
  rw [this]
  unfold limb
  rw [List.getD_eq_getElem?_getD, List.getD_eq_getElem?_getD, List.getElem?_drop, Nat.add_zero]

end Go.Proofs.YthalpbjkkfkheaaDoor
/- limbs: divide. -/
namespace Go.Proofs.YthalpbjkkfkheaaDoor
open Go.RowKit

/-- what divide leaves -/
def Divided (a b : List Nat) (w : World) (e : Ending) (w' : World) : Prop :=
  ∃ Aq lq cq Ar lr cr, e = .returned (.tuple #[.slice Aq lq.length cq, .slice Ar lr.length cr]) ∧ lq.length ≤ cq ∧ lr.length ≤ cr ∧ Canon lq ∧ Canon lr ∧ val lq = val a / val b ∧ val lr = val a % val b ∧ Lm w' Aq lq ∧ Lm w' Ar lr ∧ Ext w w'

/-- the general case -/
def Setup (a b : List Nat) (f : Nat) : Prop := Canon a ∧ Canon b ∧ 2 ≤ b.length ∧ val b ≤ val a ∧ f = B9 / (limb b (b.length - 1) + 1)

end Go.Proofs.YthalpbjkkfkheaaDoor
/- limbs: small, gcd; a natural number as a value. -/
namespace Go.Proofs.YthalpbjkkfkheaaDoor
open Go.RowKit

/-- the value v is the natural number n -/
def NatV (w : World) (v : Value) (n : Nat) : Prop := ∃ A c, v = .slice A (toL n).length c ∧ (toL n).length ≤ c ∧ Lm w A (toL n)
theorem NatV.ext {w w' : World} {v : Value} {n : Nat} (h : NatV w v n) (hx : Ext w w') : NatV w' v n := by
  obtain ⟨A, c, rfl, hc, hs⟩ := h
  exact ⟨A, c, rfl, hc, hs.ext hx⟩
theorem NatV.keep {w w' : World} {v : Value} {n : Nat} (h : NatV w v n) (hx : Kept 41 w w') : NatV w' v n := by
  obtain ⟨A, c, rfl, hc, hs⟩ := h
  exact ⟨A, c, rfl, hc, hs.keep hx⟩
theorem NatV.mk' {w : World} {A : Option Addr} {r : List Nat} {c n : Nat} (hr : Canon r) (hv : val r = n) (hc : r.length ≤ c) (hs : Lm w A r) : NatV w (.slice A r.length c) n := by
  subst hv
  have := toL_val hr
  exact ⟨A, c, by rw [this], by rw [this]; exact hc, by rw [this]; exact hs⟩
/-- numbers of at most about nine million digits -/
def Fit (n : Nat) : Prop := (toL n).length ≤ 1000000
theorem Fit.of_lt {n e : Nat} (h : n < 10 ^ e) (he : e ≤ 8000000) : Fit n := by
  have := toL_length_le h
  unfold Fit; omega
theorem Fit.le {m n : Nat} (h : Fit n) (hm : m ≤ n) : Fit m := by
  have := length_le_of_val (toL_canon n) (toL_canon m) (by rw [val_toL, val_toL]; exact hm)
  unfold Fit at *; omega

/-- Euclid's rounds on words, then the limbs of the result -/
theorem words_limbs (x : Nat) (hx : x < 1000000000000000000) : Dig [x % B9, x / B9] ∧ val [x % B9, x / B9] = x := by
  refine ⟨Dig.cons (Nat.mod_lt _ (by decide)) (Dig.cons (by unfold B9; omega) Dig.nil), ?_⟩
  simp only [val_cons, val_nil, Nat.mul_zero, Nat.add_zero]
  exact Nat.mod_add_div x B9

end Go.Proofs.YthalpbjkkfkheaaDoor
