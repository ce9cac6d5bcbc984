/- Plain arithmetic of numbers in limbs of nine digits. No program is named here. The mathematics of the long division (a limb of the quotient is guessed from the first limbs, and corrected at most once). No program is named here. limbs: trim, sign, at, compare. limbs: add, sub. limbs: mul, short. limbs: step, a limb of the quotient. limbs: divide. limbs: small, gcd; a natural number as a value. -/
import Derived.Test.YthalpbjkkfkheaaGreatDoorBase
import Derived.Test.YthalpbjkkfkheaaGreatDoorProg
import Derived.Deep.QuietTactic
import Derived.BigQuiet
import Derived.RegionTactic
import Derived.Deep.RegionWith
import Derived.Deep.DeepCutAuto
import Derived.Laws.CopyOwn
import Derived.Deep.LoopGhost
/- Plain arithmetic of numbers in limbs of nine digits. No program is named here. -/
namespace Go.Proofs.YthalpbjkkfkheaaGreatDoor

/-- the base of the limbs -/
def B9 : Nat := 1000000000
def val : List Nat → Nat
  | [] => 0
  | x :: r => x + B9 * val r
def Dig (l : List Nat) : Prop := ∀ x ∈ l, x < B9
/-- no zero at the end -/
def NoZ (l : List Nat) : Prop := l.getLast? ≠ some 0
def Canon (l : List Nat) : Prop := Dig l ∧ NoZ l

@[simp] theorem val_nil : val [] = 0 := rfl
@[simp] theorem val_cons (x : Nat) (r : List Nat) : val (x :: r) = x + B9 * val r := rfl
theorem val_append (a b : List Nat) : val (a ++ b) = val a + B9 ^ a.length * val b := by
  induction a with
  | nil => simp
  | cons x a ih => simp only [List.cons_append, val_cons, ih, List.length_cons, Nat.pow_succ, Nat.mul_add]; rw [Nat.mul_comm (B9 ^ a.length) B9, Nat.mul_assoc]; omega
theorem val_snoc (a : List Nat) (x : Nat) : val (a ++ [x]) = val a + B9 ^ a.length * x := by simp [val_append]
theorem Dig.nil : Dig [] := by simp [Dig]
theorem Dig.cons {x : Nat} {l : List Nat} (h : x < B9) (hl : Dig l) : Dig (x :: l) := by
  intro y hy; rcases List.mem_cons.1 hy with rfl | h'
  · exact h
  · exact hl y h'
theorem Dig.head {x : Nat} {l : List Nat} (h : Dig (x :: l)) : x < B9 := h x (by simp)
theorem Dig.tail {x : Nat} {l : List Nat} (h : Dig (x :: l)) : Dig l := fun y hy => h y (by simp [hy])
theorem Dig.take {l : List Nat} (h : Dig l) (k : Nat) : Dig (l.take k) := fun x hx => h x (List.mem_of_mem_take hx)
theorem Dig.drop {l : List Nat} (h : Dig l) (k : Nat) : Dig (l.drop k) := fun x hx => h x (List.mem_of_mem_drop hx)
theorem Dig.append {a b : List Nat} (ha : Dig a) (hb : Dig b) : Dig (a ++ b) := fun x hx => by
  rcases List.mem_append.1 hx with h | h
  · exact ha x h
  · exact hb x h
theorem Dig.snoc {a : List Nat} {x : Nat} (ha : Dig a) (hx : x < B9) : Dig (a ++ [x]) := ha.append (Dig.cons hx Dig.nil)
theorem Dig.getElem {l : List Nat} (h : Dig l) {k : Nat} (hk : k < l.length) : l[k] < B9 := h _ (by simp)
theorem B9_pos (n : Nat) : 0 < B9 ^ n := Nat.pow_pos (by decide)
theorem val_lt {l : List Nat} (h : Dig l) : val l < B9 ^ l.length := by
  induction l with
  | nil => simp
  | cons x l ih =>
    have h1 := ih h.tail
    have h2 := h.head
    simp only [val_cons, List.length_cons, Nat.pow_succ]
    have : B9 * val l + B9 ≤ B9 * B9 ^ l.length := by rw [← Nat.mul_succ]; exact Nat.mul_le_mul_left _ h1
    rw [Nat.mul_comm (B9 ^ l.length)]; omega
theorem val_zeros {l : List Nat} (h : ∀ x ∈ l, x = 0) : val l = 0 := by
  induction l with
  | nil => rfl
  | cons x l ih => simp only [val_cons, h x (by simp), ih (fun y hy => h y (by simp [hy]))]; rfl
theorem val_split (l : List Nat) (k : Nat) : val l = val (l.take k) + B9 ^ (l.take k).length * val (l.drop k) := by
  rw [← val_append, List.take_append_drop]
theorem val_take_of_zeros (l : List Nat) (k : Nat) (h : ∀ x ∈ l.drop k, x = 0) : val (l.take k) = val l := by
  rw [val_split l k, val_zeros h]; simp
theorem val_take_succ (l : List Nat) (k : Nat) (h : k < l.length) : val (l.take (k + 1)) = val (l.take k) + B9 ^ k * l[k] := by
  rw [List.take_succ_eq_append_getElem h, val_snoc, List.length_take, Nat.min_eq_left (by omega)]

theorem NoZ.nil : NoZ [] := by simp [NoZ]
theorem NoZ.of_last {l : List Nat} (hl : 0 < l.length) (h : l[l.length - 1] ≠ 0) : NoZ l := by
  unfold NoZ; rw [List.getLast?_eq_getElem?, List.getElem?_eq_getElem (by omega)]; simpa using h
theorem NoZ.last {l : List Nat} (h : NoZ l) (hl : 0 < l.length) : l[l.length - 1] ≠ 0 := by
  unfold NoZ at h; rw [List.getLast?_eq_getElem?, List.getElem?_eq_getElem (by omega)] at h; simpa using h
theorem NoZ.tail {x y : Nat} {l : List Nat} (h : NoZ (x :: y :: l)) : NoZ (y :: l) := by
  unfold NoZ at *; simpa using h
theorem NoZ.tail' {x : Nat} {l : List Nat} (h : NoZ (x :: l)) : NoZ l := by
  cases l with
  | nil => exact NoZ.nil
  | cons y l => exact h.tail
theorem Canon.nil : Canon [] := ⟨Dig.nil, NoZ.nil⟩
theorem Canon.tail {x : Nat} {l : List Nat} (h : Canon (x :: l)) : Canon l := ⟨h.1.tail, h.2.tail'⟩
theorem val_pos_of_noz {l : List Nat} (h : NoZ l) (hl : 0 < l.length) : B9 ^ (l.length - 1) ≤ val l := by
  have h1 := h.last hl
  have h2 := val_take_succ l (l.length - 1) (by omega)
  rw [List.take_of_length_le (by omega)] at h2
  rw [h2]
  have : B9 ^ (l.length - 1) * 1 ≤ B9 ^ (l.length - 1) * l[l.length - 1] := Nat.mul_le_mul_left _ (by omega)
  omega
/-- a longer canonical list is greater -/
theorem val_lt_of_length {a b : List Nat} (ha : Canon a) (hb : Canon b) (h : a.length < b.length) : val a < val b := by
  have h1 := val_lt ha.1
  have h2 := val_pos_of_noz hb.2 (by omega)
  have h3 : B9 ^ a.length ≤ B9 ^ (b.length - 1) := Nat.pow_le_pow_right (by decide) (by omega)
  omega
/-- equal above k, and less at k: less -/
theorem val_lt_of_at {a b : List Nat} (ha : Dig a) (hl : a.length = b.length) (k : Nat) (hk : k < a.length) (h : a[k] < b[k]) (hab : a.drop (k + 1) = b.drop (k + 1)) : val a < val b := by
  rw [val_split a (k + 1), val_split b (k + 1), hab, val_take_succ a k hk, val_take_succ b k (by omega), List.length_take, List.length_take, Nat.min_eq_left (by omega), Nat.min_eq_left (by omega)]
  have h1 := val_lt (ha.take k)
  rw [List.length_take, Nat.min_eq_left (by omega)] at h1
  have h2 : B9 ^ k * a[k] + B9 ^ k ≤ B9 ^ k * b[k] := by rw [← Nat.mul_succ]; exact Nat.mul_le_mul_left _ h
  omega
/-- the digits of a canonical list are determined by its value -/
theorem canon_unique {a b : List Nat} (ha : Canon a) (hb : Canon b) (h : val a = val b) : a = b := by
  induction a generalizing b with
  | nil =>
    cases b with
    | nil => rfl
    | cons y b => have := val_lt_of_length ha hb (by simp); simp only [val_nil] at *; omega
  | cons x a ih =>
    cases b with
    | nil => have := val_lt_of_length hb ha (by simp); simp only [val_nil] at *; omega
    | cons y b =>
      have hx := ha.1.head
      have hy := hb.1.head
      simp only [val_cons] at h
      have h1 : x = y := by
        have := congrArg (· % B9) h
        simp only [Nat.add_mul_mod_self_left] at this
        rwa [Nat.mod_eq_of_lt hx, Nat.mod_eq_of_lt hy] at this
      have h2 : val a = val b := by unfold B9 at h; omega
      rw [h1, ih ha.tail hb.tail h2]
theorem val_eq_zero {l : List Nat} (h : Canon l) (h0 : val l = 0) : l = [] := canon_unique h Canon.nil h0
theorem val_pos {l : List Nat} (h : Canon l) (hl : l ≠ []) : 0 < val l := by
  rcases Nat.eq_zero_or_pos (val l) with h0 | h0
  · exact absurd (val_eq_zero h h0) hl
  · exact h0
/-- how long a number of at most e decimal digits is -/
theorem length_of_lt {l : List Nat} (h : Canon l) {e : Nat} (hv : val l < 10 ^ e) : l.length ≤ e / 9 + 1 := by
  rcases Nat.eq_zero_or_pos l.length with h0 | h0
  · omega
  · have h1 := val_pos_of_noz h.2 h0
    have h2 : B9 ^ (l.length - 1) < 10 ^ e := by omega
    have h3 : B9 ^ (l.length - 1) = 10 ^ (9 * (l.length - 1)) := by rw [Nat.pow_mul]; rfl
    rw [h3] at h2
    have h4 := (Nat.pow_lt_pow_iff_right (a := 10) (by decide)).1 h2
    omega
/-- the limb at k, 0 beyond the end -/
def limb (l : List Nat) (k : Nat) : Nat := l.getD k 0
theorem limb_of {l : List Nat} {k : Nat} (h : k < l.length) : limb l k = l[k] := by rw [limb, List.getD_eq_getElem?_getD, List.getElem?_eq_getElem h]; rfl
theorem limb_beyond {l : List Nat} {k : Nat} (h : l.length ≤ k) : limb l k = 0 := by rw [limb, List.getD_eq_getElem?_getD, List.getElem?_eq_none h]; rfl
theorem val_take_getD (l : List Nat) (k : Nat) : val (l.take (k + 1)) = val (l.take k) + B9 ^ k * limb l k := by
  rcases Nat.lt_or_ge k l.length with h | h
  · rw [val_take_succ l k h, limb_of h]
  · rw [List.take_of_length_le (by omega), List.take_of_length_le h, limb_beyond h]; simp
theorem Dig.getD {l : List Nat} (h : Dig l) (k : Nat) : limb l k < B9 := by
  rcases Nat.lt_or_ge k l.length with hk | hk
  · rw [limb_of hk]; exact h.getElem hk
  · rw [limb_beyond hk]; decide
/-- r, then zeros, N limbs in all -/
def pad (r : List Nat) (N : Nat) : List Nat := r ++ List.replicate (N - r.length) 0
theorem pad_length {r : List Nat} {N : Nat} (h : r.length ≤ N) : (pad r N).length = N := by simp [pad]; omega
theorem pad_set {r : List Nat} {N : Nat} (x : Nat) (h : r.length < N) : (pad r N).set r.length x = pad (r ++ [x]) N := by
  obtain ⟨m, hm⟩ : ∃ m, N - r.length = m + 1 := ⟨N - r.length - 1, by omega⟩
  have h2 : N - (r.length + 1) = m := by omega
  simp [pad, hm, h2, List.replicate_succ]
theorem pad_full {r : List Nat} {N : Nat} (h : r.length = N) : pad r N = r := by simp [pad, h]
theorem pad_nil (N : Nat) : pad [] N = List.replicate N 0 := by simp [pad]
/-- one round of an addition -/
theorem add_round {r a b : List Nat} {k c t : Nat} (hr : r.length = k) (h : val r + B9 ^ k * c = val (a.take k) + val (b.take k)) (ht : t = limb a k + limb b k + c) :
    val (r ++ [t % B9]) + B9 ^ (k + 1) * (t / B9) = val (a.take (k + 1)) + val (b.take (k + 1)) := by
  rw [val_snoc, hr, val_take_getD, val_take_getD, Nat.pow_succ, Nat.mul_assoc]
  have h1 : B9 ^ k * (t % B9) + B9 ^ k * (B9 * (t / B9)) = B9 ^ k * t := by rw [← Nat.mul_add, Nat.mod_add_div]
  have h2 : B9 ^ k * t = B9 ^ k * limb a k + B9 ^ k * limb b k + B9 ^ k * c := by rw [ht, Nat.mul_add, Nat.mul_add]
  omega
theorem add_end {r a b : List Nat} {N c : Nat} (ha : Dig a) (hb : Dig b) (hr : r.length = N) (hN : N = max a.length b.length + 1) (h : val r + B9 ^ N * c = val (a.take N) + val (b.take N)) : val r = val a + val b := by
  rw [List.take_of_length_le (by omega), List.take_of_length_le (by omega)] at h
  have h1 := val_lt ha
  have h2 := val_lt hb
  have h3 : B9 ^ a.length ≤ B9 ^ (N - 1) := Nat.pow_le_pow_right (by decide) (by omega)
  have h4 : B9 ^ b.length ≤ B9 ^ (N - 1) := Nat.pow_le_pow_right (by decide) (by omega)
  have h5 : B9 ^ N = B9 ^ (N - 1) * B9 := by rw [← Nat.pow_succ]; congr 1; omega
  have h6 : B9 ^ (N - 1) * 2 ≤ B9 ^ N := by rw [h5]; exact Nat.mul_le_mul_left _ (by decide)
  have hc : c = 0 := by
    rcases Nat.eq_zero_or_pos c with h0 | h0
    · exact h0
    · have : B9 ^ N * 1 ≤ B9 ^ N * c := Nat.mul_le_mul_left _ h0
      omega
  subst hc
  omega
/-- one round of a subtraction -/
theorem sub_round {r a b : List Nat} {k c t : Nat} (hr : r.length = k) (h : val r + val (b.take k) = val (a.take k) + B9 ^ k * c) (ht : t + limb b k + c = limb a k + B9) (hc : t / B9 ≤ 1) :
    val (r ++ [t % B9]) + val (b.take (k + 1)) = val (a.take (k + 1)) + B9 ^ (k + 1) * (1 - t / B9) := by
  rw [val_snoc, hr, val_take_getD, val_take_getD, Nat.pow_succ, Nat.mul_assoc]
  have h1 : t % B9 + B9 * (t / B9) = t := Nat.mod_add_div t B9
  have h2 : t % B9 + limb b k + c = limb a k + B9 * (1 - t / B9) := by
    generalize t / B9 = q at *
    generalize t % B9 = m at *
    have : q = 0 ∨ q = 1 := by omega
    unfold B9 at *
    rcases this with rfl | rfl <;> omega
  have h3 : B9 ^ k * (t % B9) + B9 ^ k * limb b k + B9 ^ k * c = B9 ^ k * limb a k + B9 ^ k * (B9 * (1 - t / B9)) := by rw [← Nat.mul_add, ← Nat.mul_add, ← Nat.mul_add, h2]
  omega
theorem length_le_of_val {a b : List Nat} (ha : Canon a) (hb : Canon b) (h : val b ≤ val a) : b.length ≤ a.length := by
  rcases Nat.lt_or_ge a.length b.length with hl | hl
  · have := val_lt_of_length ha hb hl; omega
  · exact hl
theorem sub_end {r a b : List Nat} {c : Nat} (ha : Canon a) (hb : Canon b) (hr : r.length = a.length) (hd : Dig r) (hle : val b ≤ val a) (h : val r + val (b.take a.length) = val (a.take a.length) + B9 ^ a.length * c) : val r = val a - val b := by
  rw [List.take_of_length_le (length_le_of_val ha hb hle), List.take_of_length_le (Nat.le_refl _)] at h
  have h1 := val_lt hd
  rw [hr] at h1
  have hc : c = 0 := by
    rcases Nat.eq_zero_or_pos c with h0 | h0
    · exact h0
    · have : B9 ^ a.length * 1 ≤ B9 ^ a.length * c := Nat.mul_le_mul_left _ h0
      omega
  subst hc
  omega
/-- one limb of a product row -/
theorem mul_round {p r b : List Nat} {i k c x t z : Nat} (hp : p.length = i + k) (h : val p + B9 ^ (i + k) * c = val (r.take (i + k)) + B9 ^ i * (x * val (b.take k))) (hz : z = limb r (i + k)) (ht : t = z + x * limb b k + c) :
    val (p ++ [t % B9]) + B9 ^ (i + (k + 1)) * (t / B9) = val (r.take (i + (k + 1))) + B9 ^ i * (x * val (b.take (k + 1))) := by
  rw [val_snoc, hp, val_take_getD b k, ← Nat.add_assoc, val_take_getD r (i + k), Nat.pow_succ, Nat.mul_assoc, ← hz]
  have h1 : B9 ^ (i + k) * (t % B9) + B9 ^ (i + k) * (B9 * (t / B9)) = B9 ^ (i + k) * t := by rw [← Nat.mul_add, Nat.mod_add_div]
  have h2 : B9 ^ (i + k) * t = B9 ^ (i + k) * z + B9 ^ (i + k) * (x * limb b k) + B9 ^ (i + k) * c := by rw [ht, Nat.mul_add, Nat.mul_add]
  have h3 : B9 ^ i * (x * (val (b.take k) + B9 ^ k * limb b k)) = B9 ^ i * (x * val (b.take k)) + B9 ^ (i + k) * (x * limb b k) := by
    rw [Nat.mul_add, Nat.mul_add, Nat.pow_add, Nat.mul_assoc, Nat.mul_left_comm x (B9 ^ k)]
  omega
theorem mul_limb_le {x y : Nat} (hx : x < B9) (hy : y < B9) : x * y ≤ 999999998000000001 := by
  have : x * y ≤ 999999999 * 999999999 := Nat.mul_le_mul (by unfold B9 at hx; omega) (by unfold B9 at hy; omega)
  omega
theorem mul_outer {p r a b : List Nat} {i c : Nat} (hp : p.length = i + b.length) (hr : r.length = i + b.length) (hv : val r = val (a.take i) * val b)
    (h : val p + B9 ^ (i + b.length) * c = val (r.take (i + b.length)) + B9 ^ i * (limb a i * val (b.take b.length))) : val (p ++ [c]) = val (a.take (i + 1)) * val b := by
  rw [List.take_of_length_le (by omega), List.take_of_length_le (Nat.le_refl _), hv] at h
  rw [val_snoc, hp, h, val_take_getD a i, Nat.add_mul, Nat.mul_assoc]
/-- one limb of a short division -/
theorem short_round {a q : List Nat} {i rest d t : Nat} (hi : i < a.length) (h : val (a.drop (i + 1)) = val q * d + rest) (ht : t = rest * B9 + limb a i) :
    val (a.drop i) = val (t / d :: q) * d + t % d := by
  rw [List.drop_eq_getElem_cons hi, val_cons, h, ← limb_of hi, val_cons, Nat.add_mul]
  have h1 : t / d * d + t % d = t := Nat.div_add_mod' t d
  have h2 : B9 * (val q * d + rest) = B9 * val q * d + rest * B9 := by rw [Nat.mul_add, Nat.mul_assoc, Nat.mul_comm rest]
  omega
theorem short_lt {rest d x : Nat} (hr : rest < d) (hx : x < B9) : (rest * B9 + x) / d < B9 := by
  rw [Nat.div_lt_iff_lt_mul (by omega)]
  have : (rest + 1) * B9 ≤ d * B9 := Nat.mul_le_mul_right _ hr
  rw [Nat.add_mul] at this
  rw [Nat.mul_comm B9 d]
  omega
/-- the canonical list of a number -/
def toLF : Nat → Nat → List Nat
  | 0, _ => []
  | f + 1, n => if n = 0 then [] else n % B9 :: toLF f (n / B9)
def toL (n : Nat) : List Nat := toLF n n
theorem toLF_spec (f n : Nat) (h : n ≤ f) : Canon (toLF f n) ∧ val (toLF f n) = n := by
  induction f generalizing n with
  | zero => have : n = 0 := by omega
            subst this; exact ⟨Canon.nil, rfl⟩
  | succ f ih =>
    unfold toLF
    split
    · rename_i h0; subst h0; exact ⟨Canon.nil, rfl⟩
    · rename_i h0
      have hd : n / B9 ≤ f := by
        have : n / B9 < n := Nat.div_lt_self (by omega) (by decide)
        omega
      obtain ⟨h1, h2⟩ := ih (n / B9) hd
      refine ⟨⟨Dig.cons (Nat.mod_lt _ (by decide)) h1.1, ?_⟩, ?_⟩
      · generalize hr : toLF f (n / B9) = r at *
        cases r with
        | nil =>
          simp only [val_nil] at h2
          unfold NoZ
          simp only [List.getLast?_singleton, ne_eq, Option.some.injEq]
          have := Nat.div_add_mod n B9
          rw [← h2] at this
          omega
        | cons y r => have := h1.2; unfold NoZ at *; simpa using this
      · simp only [val_cons, h2]; exact Nat.mod_add_div n B9
theorem toL_canon (n : Nat) : Canon (toL n) := (toLF_spec n n (Nat.le_refl _)).1
theorem val_toL (n : Nat) : val (toL n) = n := (toLF_spec n n (Nat.le_refl _)).2
theorem toL_val {l : List Nat} (h : Canon l) : toL (val l) = l := canon_unique (toL_canon _) h (val_toL _)
theorem toL_zero : toL 0 = [] := rfl
theorem toL_length_le {n e : Nat} (h : n < 10 ^ e) : (toL n).length ≤ e / 9 + 1 := length_of_lt (toL_canon n) (by rwa [val_toL])
theorem toL_eq_nil {n : Nat} : toL n = [] ↔ n = 0 := ⟨fun h => by rw [← val_toL n, h]; rfl, fun h => by rw [h]; rfl⟩

end Go.Proofs.YthalpbjkkfkheaaGreatDoor
/- The mathematics of the long division (a limb of the quotient is guessed from the first limbs, and corrected at most once). No program is named here. -/
namespace Go.Proofs.YthalpbjkkfkheaaGreatDoor

theorem val_two {v : List Nat} {n : Nat} (hn : 2 ≤ n) (hl : v.length = n) : val v = val (v.take (n - 2)) + B9 ^ (n - 2) * (limb v (n - 1) * B9 + limb v (n - 2)) := by
  have h1 := val_take_getD v (n - 2)
  have h2 := val_take_getD v (n - 1)
  have e1 : n - 2 + 1 = n - 1 := by omega
  have e2 : n - 1 + 1 = n := by omega
  rw [e1] at h1
  rw [e2, List.take_of_length_le (by omega), h1] at h2
  have e3 : B9 ^ (n - 1) = B9 ^ (n - 2) * B9 := by rw [← Nat.pow_succ]; congr 1; omega
  rw [h2, e3, Nat.mul_add, Nat.mul_comm (limb v (n - 1)), ← Nat.mul_assoc]
  omega
theorem val_three {u : List Nat} {n : Nat} (hn : 2 ≤ n) (hl : u.length = n + 1) : val u = val (u.take (n - 2)) + B9 ^ (n - 2) * ((limb u n * B9 + limb u (n - 1)) * B9 + limb u (n - 2)) := by
  have h1 := val_take_getD u (n - 2)
  have h2 := val_take_getD u (n - 1)
  have h3 := val_take_getD u n
  have e1 : n - 2 + 1 = n - 1 := by omega
  have e2 : n - 1 + 1 = n := by omega
  rw [e1] at h1
  rw [e2] at h2
  rw [List.take_of_length_le (by omega)] at h3
  have e3 : B9 ^ (n - 1) = B9 ^ (n - 2) * B9 := by rw [← Nat.pow_succ]; congr 1; omega
  have e4 : B9 ^ n = B9 ^ (n - 2) * B9 * B9 := by rw [← Nat.pow_succ, ← Nat.pow_succ]; congr 1; omega
  rw [h3, h2, h1, e3, e4]
  generalize B9 ^ (n - 2) = P
  grind

section
variable {u v : List Nat} {n : Nat} (hn : 2 ≤ n) (hv : v.length = n) (hu : u.length = n + 1) (dv : Dig v) (du : Dig u)
include hn hv
theorem v_lo : (limb v (n - 1) * B9 + limb v (n - 2)) * B9 ^ (n - 2) ≤ val v := by
  rw [val_two hn hv, Nat.mul_comm]; omega
include dv in
theorem v_hi : val v < (limb v (n - 1) * B9 + limb v (n - 2) + 1) * B9 ^ (n - 2) := by
  have h := val_lt (dv.take (n - 2))
  rw [List.length_take, Nat.min_eq_left (by omega)] at h
  rw [val_two hn hv, Nat.add_mul, Nat.one_mul, Nat.mul_comm]; omega
theorem v_top : limb v (n - 1) * B9 ^ (n - 1) ≤ val v := by
  have h := val_take_getD v (n - 1)
  have e2 : n - 1 + 1 = n := by omega
  rw [e2, List.take_of_length_le (by omega)] at h
  rw [h, Nat.mul_comm]; omega
include dv in
theorem v_top_hi : val v < (limb v (n - 1) + 1) * B9 ^ (n - 1) := by
  have h := val_take_getD v (n - 1)
  have h0 := val_lt (dv.take (n - 1))
  rw [List.length_take, Nat.min_eq_left (by omega)] at h0
  have e2 : n - 1 + 1 = n := by omega
  rw [e2, List.take_of_length_le (by omega)] at h
  rw [h, Nat.add_mul, Nat.one_mul, Nat.mul_comm]; omega
end
section
variable {u : List Nat} {n : Nat} (hn : 2 ≤ n) (hu : u.length = n + 1) (du : Dig u)
include hn hu
theorem u_lo : ((limb u n * B9 + limb u (n - 1)) * B9 + limb u (n - 2)) * B9 ^ (n - 2) ≤ val u := by
  rw [val_three hn hu, Nat.mul_comm]; omega
include du in
theorem u_hi : val u < ((limb u n * B9 + limb u (n - 1)) * B9 + limb u (n - 2) + 1) * B9 ^ (n - 2) := by
  have h := val_lt (du.take (n - 2))
  rw [List.length_take, Nat.min_eq_left (by omega)] at h
  rw [val_three hn hu, Nat.add_mul _ 1, Nat.one_mul, Nat.mul_comm]; omega
omit hn in
theorem u_top : limb u n * B9 ^ n ≤ val u := by
  have h := val_take_getD u n
  rw [List.take_of_length_le (by omega)] at h
  rw [h, Nat.mul_comm]; omega
include du in
theorem u_top2_hi : val u < (limb u n * B9 + limb u (n - 1) + 1) * B9 ^ (n - 1) := by
  have h := u_hi hn hu du
  have h2 := du.getD (n - 2)
  have e3 : B9 ^ (n - 1) = B9 * B9 ^ (n - 2) := by rw [Nat.mul_comm, ← Nat.pow_succ]; congr 1; omega
  rw [e3, ← Nat.mul_assoc]
  refine Nat.lt_of_lt_of_le h (Nat.mul_le_mul_right _ ?_)
  rw [Nat.add_mul _ 1]; omega
end

/-- what the guess of a limb knows at every moment -/
structure Guess (u v : List Nat) (n q r : Nat) : Prop where
  top : q * limb v (n - 1) + r = limb u n * B9 + limb u (n - 1)
  up : val u < (q + 1) * val v
  rb : r < B9 + limb v (n - 1)
theorem guess_start {u v : List Nat} {n : Nat} (hn : 2 ≤ n) (hv : v.length = n) (hu : u.length = n + 1) (_dv : Dig v) (du : Dig u) (h1 : 0 < limb v (n - 1)) :
    Guess u v n ((limb u n * B9 + limb u (n - 1)) / limb v (n - 1)) ((limb u n * B9 + limb u (n - 1)) % limb v (n - 1)) := by
  refine ⟨Nat.div_add_mod' _ _, ?_, ?_⟩
  · have h2 := u_top2_hi hn hu du
    have h3 := v_top hn hv
    have h4 := Nat.lt_mul_div_succ (limb u n * B9 + limb u (n - 1)) h1
    generalize limb u n * B9 + limb u (n - 1) = T at *
    have h5 : (T + 1) * B9 ^ (n - 1) ≤ (T / limb v (n - 1) + 1) * val v := by
      refine Nat.le_trans (Nat.mul_le_mul_right (B9 ^ (n - 1)) (show T + 1 ≤ (T / limb v (n - 1) + 1) * limb v (n - 1) by rw [Nat.mul_comm]; omega)) ?_
      rw [Nat.mul_assoc]
      exact Nat.mul_le_mul_left _ h3
    omega
  · have := Nat.mod_lt (limb u n * B9 + limb u (n - 1)) h1
    omega
theorem guess_down {u v : List Nat} {n q r : Nat} (hn : 2 ≤ n) (hv : v.length = n) (hu : u.length = n + 1) (_dv : Dig v) (du : Dig u) (hB : val u < B9 * val v) (g : Guess u v n q r) (hr : r < B9)
    (h : B9 ≤ q ∨ r * B9 + limb u (n - 2) < q * limb v (n - 2)) : 1 ≤ q ∧ Guess u v n (q - 1) (r + limb v (n - 1)) := by
  have hq : 1 ≤ q := by
    rcases h with h | h
    · unfold B9 at h; omega
    · rcases Nat.eq_zero_or_pos q with h0 | h0
      · subst h0; simp at h
      · exact h0
  refine ⟨hq, ?_, ?_, by omega⟩
  · have h1 := g.top
    have : q * limb v (n - 1) = (q - 1) * limb v (n - 1) + limb v (n - 1) := by
      rw [← Nat.succ_mul]; congr 1; omega
    omega
  · have e : q - 1 + 1 = q := by omega
    rw [e]
    rcases h with h | h
    · exact Nat.lt_of_lt_of_le hB (Nat.mul_le_mul_right _ h)
    · have h1 := u_hi hn hu du
      have h2 := v_lo hn hv
      have h3 : (limb u n * B9 + limb u (n - 1)) * B9 + limb u (n - 2) + 1 ≤ q * (limb v (n - 1) * B9 + limb v (n - 2)) := by
        rw [← g.top, Nat.mul_add, ← Nat.mul_assoc, Nat.add_mul]; omega
      have h4 : ((limb u n * B9 + limb u (n - 1)) * B9 + limb u (n - 2) + 1) * B9 ^ (n - 2) ≤ q * val v := by
        refine Nat.le_trans (Nat.mul_le_mul_right _ h3) ?_
        rw [Nat.mul_assoc]
        exact Nat.mul_le_mul_left _ h2
      omega
theorem u0_le {u v : List Nat} {n : Nat} (hn : 2 ≤ n) (hv : v.length = n) (hu : u.length = n + 1) (dv : Dig v) (_du : Dig u) (hB : val u < B9 * val v) : limb u n ≤ limb v (n - 1) := by
  rcases Nat.lt_or_ge (limb v (n - 1)) (limb u n) with h | h
  · exfalso
    have h1 := u_top hu
    have h2 := v_top_hi hn hv dv
    have h3 : (limb v (n - 1) + 1) * B9 ^ n ≤ limb u n * B9 ^ n := Nat.mul_le_mul_right _ h
    have e : B9 ^ n = B9 ^ (n - 1) * B9 := by rw [← Nat.pow_succ]; congr 1; omega
    have h4 : B9 * val v ≤ B9 * ((limb v (n - 1) + 1) * B9 ^ (n - 1)) := Nat.mul_le_mul_left _ (by omega)
    have h5 : B9 * ((limb v (n - 1) + 1) * B9 ^ (n - 1)) = (limb v (n - 1) + 1) * B9 ^ n := by rw [e]; grind
    omega
  · exact h
/-- when the guessing ends -/
theorem guess_end {u v : List Nat} {n q r : Nat} (hn : 2 ≤ n) (hv : v.length = n) (hu : u.length = n + 1) (dv : Dig v) (du : Dig u) (hB : val u < B9 * val v) (g : Guess u v n q r)
    (h : B9 ≤ r ∨ (q < B9 ∧ q * limb v (n - 2) ≤ r * B9 + limb u (n - 2))) : q < B9 ∧ q * (limb v (n - 1) * B9 + limb v (n - 2)) ≤ (limb u n * B9 + limb u (n - 1)) * B9 + limb u (n - 2) := by
  have ht := g.top
  rcases h with h | ⟨h1, h2⟩
  · have h0 := u0_le hn hv hu dv du hB
    have hu1 := du.getD (n - 1)
    have hv2 := dv.getD (n - 2)
    have h3 : limb u n * B9 ≤ limb v (n - 1) * B9 := Nat.mul_le_mul_right _ h0
    have hq : q < B9 := by
      rcases Nat.lt_or_ge q B9 with hq | hq
      · exact hq
      · exfalso
        have : B9 * limb v (n - 1) ≤ q * limb v (n - 1) := Nat.mul_le_mul_right _ hq
        rw [Nat.mul_comm] at this
        omega
    refine ⟨hq, ?_⟩
    rw [← ht, Nat.mul_add, ← Nat.mul_assoc, Nat.add_mul]
    have h4 : q * limb v (n - 2) ≤ B9 * B9 := Nat.mul_le_mul (by omega) (by omega)
    have h5 : B9 * B9 ≤ r * B9 := Nat.mul_le_mul_right _ h
    omega
  · refine ⟨h1, ?_⟩
    rw [← ht, Nat.mul_add, ← Nat.mul_assoc, Nat.add_mul]
    omega
/-- the guess is at most one too great -/
theorem guess_near {u v : List Nat} {n q : Nat} (hn : 2 ≤ n) (hv : v.length = n) (hu : u.length = n + 1) (dv : Dig v) (_du : Dig u) (h1 : 0 < limb v (n - 1)) (hq : q < B9)
    (h : q * (limb v (n - 1) * B9 + limb v (n - 2)) ≤ (limb u n * B9 + limb u (n - 1)) * B9 + limb u (n - 2)) : q * val v ≤ val u + val v := by
  have h2 := u_lo hn hu
  have h3 := v_hi hn hv dv
  have h4 := v_top hn hv
  have e : B9 ^ (n - 1) = B9 * B9 ^ (n - 2) := by rw [Nat.mul_comm, ← Nat.pow_succ]; congr 1; omega
  have h5 : q * val v ≤ q * ((limb v (n - 1) * B9 + limb v (n - 2) + 1) * B9 ^ (n - 2)) := Nat.mul_le_mul_left _ (by omega)
  have h6 : q * ((limb v (n - 1) * B9 + limb v (n - 2) + 1) * B9 ^ (n - 2)) = q * (limb v (n - 1) * B9 + limb v (n - 2)) * B9 ^ (n - 2) + q * B9 ^ (n - 2) := by
    rw [Nat.add_mul, Nat.one_mul, Nat.mul_add, Nat.mul_assoc]
  have h7 : q * (limb v (n - 1) * B9 + limb v (n - 2)) * B9 ^ (n - 2) ≤ ((limb u n * B9 + limb u (n - 1)) * B9 + limb u (n - 2)) * B9 ^ (n - 2) := Nat.mul_le_mul_right _ h
  have h8 : q * B9 ^ (n - 2) ≤ B9 * B9 ^ (n - 2) := Nat.mul_le_mul_right _ (by omega)
  have h9 : 1 * B9 ^ (n - 1) ≤ limb v (n - 1) * B9 ^ (n - 1) := Nat.mul_le_mul_right _ h1
  omega
/-- one limb of the subtraction of q divisors -/
theorem take_round {p u v : List Nat} {k c q t y c' : Nat} (hp : p.length = k) (h : val p + q * val (v.take k) = val (u.take k) + B9 ^ k * c) (ht : t = q * limb v k + c) (hy : y + t = limb u k + B9 * c') :
    val (p ++ [y]) + q * val (v.take (k + 1)) = val (u.take (k + 1)) + B9 ^ (k + 1) * c' := by
  rw [val_snoc, hp, val_take_getD v k, val_take_getD u k, Nat.pow_succ, Nat.mul_assoc, Nat.mul_add]
  have h1 : B9 ^ k * y + B9 ^ k * t = B9 ^ k * limb u k + B9 ^ k * (B9 * c') := by rw [← Nat.mul_add, ← Nat.mul_add, hy]
  have h2 : B9 ^ k * t = B9 ^ k * (q * limb v k) + B9 ^ k * c := by rw [ht, Nat.mul_add]
  have h3 : q * (B9 ^ k * limb v k) = B9 ^ k * (q * limb v k) := Nat.mul_left_comm _ _ _
  omega
/-- q was right -/
theorem take_right {p u v : List Nat} {n c q : Nat} (hv : v.length = n) (hu : u.length = n + 1) (hp : p.length = n) (up : val u < (q + 1) * val v)
    (h : val p + q * val (v.take n) = val (u.take n) + B9 ^ n * c) (hc : c ≤ limb u n) : val u / val v = q ∧ val (p ++ [limb u n - c]) = val u % val v := by
  rw [List.take_of_length_le (by omega)] at h
  have h1 := val_take_getD u n
  rw [List.take_of_length_le (by omega)] at h1
  have h2 : B9 ^ n * limb u n = B9 ^ n * c + B9 ^ n * (limb u n - c) := by rw [← Nat.mul_add]; congr 1; omega
  have h3 : val (p ++ [limb u n - c]) + q * val v = val u := by rw [val_snoc, hp]; omega
  have hd : val u / val v = q := by
    refine (Nat.div_eq_iff (by rcases Nat.eq_zero_or_pos (val v) with h0 | h0; (rw [h0] at up; simp at up); exact h0)).2 ⟨by omega, ?_⟩
    rw [Nat.add_mul] at up; omega
  refine ⟨hd, ?_⟩
  have := Nat.div_add_mod (val u) (val v)
  rw [hd, Nat.mul_comm] at this
  omega
/-- q was one too great: a divisor is added again -/
theorem take_back {p r u v : List Nat} {n c q d : Nat} (hv : v.length = n) (hu : u.length = n + 1) (hp : p.length = n) (hr : r.length = n) (dr : Dig r) (dv : Dig v) (up : val u < (q + 1) * val v) (near : q * val v ≤ val u + val v)
    (h : val p + q * val (v.take n) = val (u.take n) + B9 ^ n * c) (hc : limb u n < c) (hdp : Dig p) (hb : val r + B9 ^ n * d = val (p.take n) + val (v.take n)) :
    1 ≤ q ∧ val u / val v = q - 1 ∧ val r = val u % val v ∧ limb u n + d = c := by
  rw [List.take_of_length_le (by omega)] at h
  rw [List.take_of_length_le (by omega), List.take_of_length_le (by omega)] at hb
  have h1 := val_take_getD u n
  rw [List.take_of_length_le (by omega)] at h1
  have lp := val_lt hdp
  have lr := val_lt dr
  have lv := val_lt dv
  rw [hp] at lp
  rw [hr] at lr
  rw [hv] at lv
  have h2 : B9 ^ n * c = B9 ^ n * limb u n + B9 ^ n * (c - limb u n) := by rw [← Nat.mul_add]; congr 1; omega
  have h3 : B9 ^ n * 1 ≤ B9 ^ n * (c - limb u n) := Nat.mul_le_mul_left _ (by omega)
  have hlt : val u < q * val v := by omega
  have hq : 1 ≤ q := by
    rcases Nat.eq_zero_or_pos q with h0 | h0
    · subst h0; simp at hlt
    · exact h0
  have e1 : q * val v = (q - 1) * val v + val v := by rw [← Nat.succ_mul]; congr 1; omega
  have h4 : val r + B9 ^ n * d + (q - 1) * val v = val u + B9 ^ n * (c - limb u n) := by omega
  have h5 : d = c - limb u n := by
    rcases Nat.lt_trichotomy d (c - limb u n) with hd | hd | hd
    · exfalso
      have : B9 ^ n * (d + 1) ≤ B9 ^ n * (c - limb u n) := Nat.mul_le_mul_left _ hd
      rw [Nat.mul_succ] at this
      omega
    · exact hd
    · exfalso
      have : B9 ^ n * (c - limb u n + 1) ≤ B9 ^ n * d := Nat.mul_le_mul_left _ hd
      rw [Nat.mul_succ] at this
      omega
  have h6 : val r + (q - 1) * val v = val u := by rw [h5] at h4; omega
  have hd : val u / val v = q - 1 := by
    refine (Nat.div_eq_iff (by omega)).2 ⟨by omega, by omega⟩
  refine ⟨hq, hd, ?_, by omega⟩
  have := Nat.div_add_mod (val u) (val v)
  rw [hd, Nat.mul_comm] at this
  omega

/-- the factor makes the first limb great enough -/
theorem norm_top {x : Nat} (h0 : 0 < x) (h1 : x < B9) : 500000000 ≤ x * (B9 / (x + 1)) := by
  have hd := Nat.div_add_mod B9 (x + 1)
  have hm := Nat.mod_lt B9 (show 0 < x + 1 by omega)
  generalize hf : B9 / (x + 1) = f at *
  generalize hr : B9 % (x + 1) = r at *
  have hB : B9 = 1000000000 := rfl
  rcases Nat.lt_or_ge f 2 with h | h
  · have : f = 0 ∨ f = 1 := by omega
    rcases this with rfl | rfl
    · omega
    · omega
  · rcases Nat.lt_or_ge x 2 with hx | hx
    · have : x = 1 := by omega
      subst this
      omega
    · have h3 : f * (x - 1) ≥ 2 * (x - 1) := Nat.mul_le_mul_right _ h
      have h4 : (x + 1) * f = f * (x - 1) + 2 * f := by
        have : x + 1 = (x - 1) + 2 := by omega
        rw [this, Nat.add_mul, Nat.mul_comm (x - 1)]
      have h5 : x * f = (x + 1) * f - f := by rw [Nat.add_mul]; omega
      omega
theorem norm_len {b v : List Nat} {n f : Nat} (hb : Canon b) (hn : b.length = n) (h1 : 1 ≤ n) (hf : f = B9 / (limb b (n - 1) + 1)) (hv : Canon v) (hval : val v = val b * f) :
    v.length = n ∧ 500000000 ≤ limb v (n - 1) := by
  have hx0 : 0 < limb b (n - 1) := by
    have := hb.2.last (by omega)
    rw [limb_of (by omega)]
    have e : b.length - 1 = n - 1 := by omega
    simp only [e] at this
    omega
  have hx1 := hb.1.getD (n - 1)
  have hnt := norm_top hx0 hx1
  rw [← hf] at hnt
  have ht := val_take_getD b (n - 1)
  have e2 : n - 1 + 1 = n := by omega
  rw [e2, List.take_of_length_le (by omega)] at ht
  have hlt := val_lt (hb.1.take (n - 1))
  rw [List.length_take, Nat.min_eq_left (by omega)] at hlt
  have hfx : (limb b (n - 1) + 1) * f ≤ B9 := by rw [hf]; exact Nat.mul_div_le _ _
  generalize limb b (n - 1) = x at *
  have hup : val v < B9 ^ n := by
    have h2 : val b < (x + 1) * B9 ^ (n - 1) := by rw [Nat.add_mul, Nat.one_mul, Nat.mul_comm]; omega
    have hf0 : 0 < f := by
      rcases Nat.eq_zero_or_pos f with h | h
      · subst h; simp at hnt
      · exact h
    have h3 : val b * f < (x + 1) * B9 ^ (n - 1) * f := Nat.mul_lt_mul_of_pos_right h2 hf0
    have h4 : (x + 1) * B9 ^ (n - 1) * f = (x + 1) * f * B9 ^ (n - 1) := by rw [Nat.mul_assoc, Nat.mul_assoc, Nat.mul_comm f]
    have h5 : (x + 1) * f * B9 ^ (n - 1) ≤ B9 * B9 ^ (n - 1) := Nat.mul_le_mul_right _ hfx
    have h6 : B9 ^ n = B9 * B9 ^ (n - 1) := by rw [Nat.mul_comm, ← Nat.pow_succ]; congr 1; omega
    omega
  have hlo : 500000000 * B9 ^ (n - 1) ≤ val v := by
    have h2 : x * B9 ^ (n - 1) ≤ val b := by rw [Nat.mul_comm]; omega
    have h3 : x * B9 ^ (n - 1) * f ≤ val b * f := Nat.mul_le_mul_right _ h2
    have h4 : x * B9 ^ (n - 1) * f = x * f * B9 ^ (n - 1) := by rw [Nat.mul_assoc, Nat.mul_assoc, Nat.mul_comm f]
    have h5 : 500000000 * B9 ^ (n - 1) ≤ x * f * B9 ^ (n - 1) := Nat.mul_le_mul_right _ hnt
    omega
  have hlen : v.length = n := by
    rcases Nat.lt_trichotomy v.length n with h | h | h
    · exfalso
      have h2 := val_lt hv.1
      have h3 : B9 ^ v.length ≤ B9 ^ (n - 1) := Nat.pow_le_pow_right (by decide) (by omega)
      have h4 : 1 * B9 ^ (n - 1) ≤ 500000000 * B9 ^ (n - 1) := Nat.mul_le_mul_right _ (by decide)
      omega
    · exact h
    · exfalso
      have h2 := val_pos_of_noz hv.2 (by omega)
      have h3 : B9 ^ n ≤ B9 ^ (v.length - 1) := Nat.pow_le_pow_right (by decide) (by omega)
      omega
  refine ⟨hlen, ?_⟩
  have h2 := val_take_getD v (n - 1)
  rw [e2, List.take_of_length_le (by omega)] at h2
  have h3 := val_lt (hv.1.take (n - 1))
  rw [List.length_take, Nat.min_eq_left (by omega)] at h3
  rcases Nat.lt_or_ge (limb v (n - 1)) 500000000 with h | h
  · exfalso
    have h4 : (limb v (n - 1) + 1) * B9 ^ (n - 1) ≤ 500000000 * B9 ^ (n - 1) := Nat.mul_le_mul_right _ h
    rw [Nat.add_mul, Nat.one_mul, Nat.mul_comm (limb v (n - 1))] at h4
    omega
  · exact h

/-- what the long division knows when m limbs of the quotient are still to be found -/
structure Long (A V : Nat) (n m : Nat) (uw q : List Nat) : Prop where
  dig : Dig uw
  qdig : Dig q
  zero : ∀ x ∈ uw.drop (m + n), x = 0
  rem : val ((uw.drop m).take n) < V
  sum : A = val q * (B9 ^ m * V) + val uw
theorem long_window {A V n j : Nat} {uw q : List Nat} (h : Long A V n (j + 1) uw q) (hl : j < uw.length) : val ((uw.drop j).take (n + 1)) < B9 * V := by
  rw [List.drop_eq_getElem_cons hl, List.take_succ_cons, val_cons]
  have h1 := h.dig.getElem hl
  have h2 := h.rem
  have h3 : B9 * (val ((uw.drop (j + 1)).take n) + 1) ≤ B9 * V := Nat.mul_le_mul_left _ h2
  rw [Nat.mul_succ] at h3
  omega
theorem drop_app_left {a b : List Nat} {k : Nat} (h : a.length = k) : (a ++ b).drop k = b := by subst h; simp
theorem long_round {A V n j : Nat} {uw q u' : List Nat} (h : Long A V n (j + 1) uw q) (hl : j + n + 1 ≤ uw.length) (hu : u'.length = n + 1) (du : Dig u') (hV : V < B9 ^ n) (hV0 : 0 < V)
    (hr : val u' = val ((uw.drop j).take (n + 1)) % V) : Long A V n j (uw.take j ++ (u' ++ uw.drop (j + (n + 1)))) (val ((uw.drop j).take (n + 1)) / V :: q) := by
  have hw := long_window h (by omega)
  have hq : val ((uw.drop j).take (n + 1)) / V < B9 := by rw [Nat.div_lt_iff_lt_mul hV0]; exact hw
  have hz : ∀ x ∈ uw.drop (j + (n + 1)), x = 0 := by have := h.zero; rwa [Nat.add_right_comm, Nat.add_assoc j n 1] at this
  have htl : (uw.take j).length = j := by rw [List.length_take]; omega
  have hur : val u' < V := by rw [hr]; exact Nat.mod_lt _ hV0
  have hut := val_take_getD u' n
  rw [List.take_of_length_le (by omega)] at hut
  have htop : limb u' n = 0 := by
    rcases Nat.eq_zero_or_pos (limb u' n) with h0 | h0
    · exact h0
    · have : B9 ^ n * 1 ≤ B9 ^ n * limb u' n := Nat.mul_le_mul_left _ h0
      omega
  refine ⟨(h.dig.take j).append (du.append (h.dig.drop _)), Dig.cons hq h.qdig, ?_, ?_, ?_⟩
  · intro x hx
    rw [← List.drop_drop, drop_app_left htl, List.drop_append, List.mem_append] at hx
    rcases hx with hx | hx
    · rw [List.drop_eq_getElem_cons (by omega), List.drop_of_length_le (by omega), List.mem_singleton, ← limb_of (by omega), htop] at hx
      exact hx
    · exact hz x (List.mem_of_mem_drop hx)
  · rw [drop_app_left htl, List.take_append_of_le_length (by omega)]
    rw [htop] at hut
    omega
  · have e1 : val uw = val (uw.take j) + B9 ^ j * val ((uw.drop j).take (n + 1)) := by
      rw [val_split uw j, htl, val_split (uw.drop j) (n + 1), List.drop_drop, val_zeros hz]
      simp
    have e2 : val (uw.take j ++ (u' ++ uw.drop (j + (n + 1)))) = val (uw.take j) + B9 ^ j * val u' := by
      rw [val_append, htl, val_append, val_zeros hz]
      simp
    have e3 := Nat.div_add_mod (val ((uw.drop j).take (n + 1))) V
    rw [h.sum, e1, e2, val_cons, hr, Nat.pow_succ]
    generalize val ((uw.drop j).take (n + 1)) = W at *
    generalize W / V = Q at *
    generalize W % V = R at *
    generalize B9 ^ j = P at *
    rw [← e3]
    grind
theorem long_start {a b : List Nat} {r : List Nat} {n la f : Nat} (ca : Canon a) (cb : Canon b) (hla : a.length = la) (hn : b.length = n) (h1 : 1 ≤ n) (hle : n ≤ la) (hf : 0 < f) (hr : Canon r) (hrl : r.length ≤ la + 1) (hv : val r = val a * f) :
    Long (val a * f) (val b * f) n (la + 1 - n) (pad r (la + 1)) [] := by
  have hpv : val (pad r (la + 1)) = val a * f := by
    have hz : val (List.replicate (la + 1 - r.length) 0) = 0 := val_zeros (by intro x hx; exact (List.mem_replicate.1 hx).2)
    rw [pad, val_append, hz, hv]; simp
  have hpl := pad_length (r := r) (N := la + 1) hrl
  refine ⟨hr.1.append (by intro x hx; rw [List.mem_replicate] at hx; rw [hx.2]; decide), Dig.nil, ?_, ?_, ?_⟩
  · intro x hx
    rw [List.drop_of_length_le (by omega)] at hx
    cases hx
  · rw [List.take_of_length_le (by rw [List.length_drop]; omega)]
    have h2 := val_split (pad r (la + 1)) (la + 1 - n)
    rw [hpv, List.length_take, Nat.min_eq_left (by omega)] at h2
    have h3 := val_lt ca.1
    have h4 := val_pos_of_noz cb.2 (by omega)
    rw [hla] at h3
    rw [hn] at h4
    have h5 : val a * f < B9 ^ la * f := Nat.mul_lt_mul_of_pos_right h3 hf
    have h6 : B9 ^ la = B9 ^ (la + 1 - n) * B9 ^ (n - 1) := by rw [← Nat.pow_add]; congr 1; omega
    have h7 : B9 ^ (la + 1 - n) * (B9 ^ (n - 1) * f) ≤ B9 ^ (la + 1 - n) * (val b * f) := Nat.mul_le_mul_left _ (Nat.mul_le_mul_right _ h4)
    rw [h6, Nat.mul_assoc] at h5
    rcases Nat.lt_or_ge (val ((pad r (la + 1)).drop (la + 1 - n))) (val b * f) with h | h
    · exact h
    · exfalso
      have : B9 ^ (la + 1 - n) * (val b * f) ≤ B9 ^ (la + 1 - n) * val ((pad r (la + 1)).drop (la + 1 - n)) := Nat.mul_le_mul_left _ h
      omega
  · rw [hpv]; simp
theorem long_end {a b f n : Nat} {uw q : List Nat} (hb : 0 < b) (hf : 0 < f) (h : Long (a * f) (b * f) n 0 uw q) : val q = a / b ∧ val (uw.take n) / f = a % b ∧ val (uw.take n) % f = 0 := by
  have hr := h.rem
  have hs := h.sum
  rw [List.drop_zero] at hr
  have hz := h.zero
  rw [Nat.zero_add] at hz
  rw [Nat.pow_zero, Nat.one_mul, ← val_take_of_zeros uw n hz] at hs
  generalize val (uw.take n) = R at *
  generalize val q = Q at *
  have h1 : a * f / (b * f) = Q := by
    rw [hs, Nat.mul_comm Q, Nat.mul_add_div (Nat.mul_pos hb hf), Nat.div_eq_of_lt hr, Nat.add_zero]
  have h2 : a * f % (b * f) = R := by
    rw [hs, Nat.mul_comm Q, Nat.mul_add_mod, Nat.mod_eq_of_lt hr]
  rw [Nat.mul_div_mul_right _ _ hf] at h1
  rw [Nat.mul_mod_mul_right] at h2
  rw [← h2, Nat.mul_div_cancel _ hf, Nat.mul_mod_left]
  exact ⟨h1.symm, rfl, rfl⟩
end Go.Proofs.YthalpbjkkfkheaaGreatDoor
/- limbs: trim, sign, at, compare. -/
namespace Go.Proofs.YthalpbjkkfkheaaGreatDoor
open Go.RowKit

/-- limbs as cells -/
def u64s (l : List Nat) : List Value := l.map fun x : Nat => Value.int .u64 (x : Int)
theorem u64s_length (l : List Nat) : (u64s l).length = l.length := by simp [u64s]
theorem u64s_get {l : List Nat} {k : Nat} (h : k < l.length) : (u64s l)[k]? = some (.int .u64 (l[k] : Int)) := by simp [u64s, h]
theorem u64s_take (l : List Nat) (k : Nat) : (u64s l).take k = u64s (l.take k) := by simp [u64s, List.map_take]
/-- the address A holds the limbs l -/
abbrev Lm (w : World) (A : Option Addr) (l : List Nat) : Prop := Sl w 47 A (u64s l)

/-- what trim has found at n: all that lies behind is 0 -/
def Behind (l : List Nat) (n : Nat) : Prop := n ≤ l.length ∧ ∀ x ∈ l.drop n, x = 0
theorem Behind.step {l : List Nat} {n : Nat} (h : Behind l (n + 1)) (h0 : ∀ hl : n < l.length, l[n] = 0) : Behind l n := by
  refine ⟨by have := h.1; omega, fun x hx => ?_⟩
  have hn : n < l.length := by have := h.1; omega
  rw [List.drop_eq_getElem_cons hn] at hx
  rcases List.mem_cons.1 hx with rfl | hx
  · exact h0 hn
  · exact h.2 x hx

set_option maxHeartbeats 1000000 in
theorem trim_any (A : Option Addr) (c : Nat) (l : List Nat) (w : World) (hl : l.length ≤ c) (hc : l.length ≤ 1000000000) (hs : Lm w A l) :
    Calls Tryz.prog 100 #[.slice A l.length c] w fun e w' => ∃ n, n ≤ l.length ∧ Behind l n ∧ NoZ (l.take n) ∧ e = .returned (.slice A n c) ∧ w = w' := by
  have HS := Lib.hid hs
  clear hs
  go_enter Tryz.func100, Tryz.ntmps100
  go_wp2
  go_loop [3] (fun i => ∃ n : Nat, n ≤ l.length ∧ i = .int .i64 n ∧ Behind l n) (fun i => (intOf i).toNat)
  case atStart => exact ⟨l.length, Nat.le_refl _, rfl, ⟨Nat.le_refl _, by simp⟩⟩
  case round =>
    obtain ⟨n, hn, rfl, hb⟩ := hrel
    have HB := Lib.hid hb
    clear hb
    by_cases h0 : 0 < n
    · obtain ⟨k, rfl⟩ : ∃ k, n = k + 1 := ⟨n - 1, by omega⟩
      obtain ⟨g, o, rfl, _, hcell⟩ := HS.out.at_ (u64s_get (show k < l.length by omega))
      have hd0 : decide ((0 : Int) < (k : Int) + 1) = true := decide_eq_true (by omega)
      by_cases hz : l[k] = 0
      · have hz' : ((l[k] : Int) == 0) = true := by simp [hz]
        have HZ := Lib.hid hz
        clear hz
        go_wp2
        go_round
        case rel => exact ⟨k, by omega, by go_num, HB.out.step (fun _ => HZ.out)⟩
        case measure => simp [intOf]
      · have hz' : ((l[k] : Int) == 0) = false := by simpa using hz
        have HZ := Lib.hid hz
        clear hz
        go_wp2
        go_ret
        refine ⟨k + 1, hn, HB.out, ?_, rfl, rfl⟩
        exact NoZ.of_last (by simp; omega) (by simpa [List.length_take, Nat.min_eq_left hn] using HZ.out)
    · obtain rfl : n = 0 := by omega
      go_wp2
      go_ret
      exact ⟨0, by omega, HB.out, by simpa using NoZ.nil, rfl, rfl⟩

/-- trim, as its callers use it -/
theorem trim_at (A : Option Addr) (c n : Nat) (l : List Nat) (w : World) (hn : l.length = n) (hl : n ≤ c) (hc : n ≤ 1000000000) (d : Dig l) (hs : Lm w A l) :
    Calls Tryz.prog 100 #[.slice A n c] w fun e w' => ∃ r, r.length ≤ n ∧ e = .returned (.slice A r.length c) ∧ Canon r ∧ val r = val l ∧ Lm w' A r ∧ w = w' := by
  subst hn
  refine (trim_any A c l w hl hc hs).mono ?_
  rintro e w' ⟨m, hm, hb, hz, rfl, rfl⟩
  have e1 : (l.take m).length = m := by rw [List.length_take]; omega
  exact ⟨l.take m, by omega, by rw [e1], ⟨d.take m, hz⟩, val_take_of_zeros l m hb.2, by unfold Lm; rw [← u64s_take]; exact hs.take m, rfl⟩

theorem sign_any (n : Int) (w : World) :
    Calls Tryz.prog 134 #[.int .i64 n] w fun e w' => e = .returned (.int .i64 n.sign) ∧ w = w' := by
  rcases Int.lt_trichotomy n 0 with h | h | h
  · have hs : n.sign = -1 := Int.sign_eq_neg_one_of_neg h
    have HS := Lib.hid hs
    clear hs
    go_enter Tryz.func134, Tryz.ntmps134
    go_wp2
    go_ret
    exact ⟨ret_int HS.out.symm, rfl⟩
  · subst h
    go_enter Tryz.func134, Tryz.ntmps134
    go_wp2
    go_ret
    exact ⟨rfl, rfl⟩
  · have hs : n.sign = 1 := Int.sign_eq_one_of_pos h
    have HS := Lib.hid hs
    clear hs
    have h' : ¬ n < 0 := by omega
    go_enter Tryz.func134, Tryz.ntmps134
    go_wp2
    go_ret
    exact ⟨ret_int HS.out.symm, rfl⟩

theorem at_any (A : Option Addr) (c : Nat) (l : List Nat) (i : Nat) (w : World) (_hc : l.length ≤ 1000000000) (_hi : i ≤ 2000000000) (hs : Lm w A l) :
    Calls Tryz.prog 95 #[.slice A l.length c, .int .i64 i] w fun e w' => e = .returned (.int .u64 (limb l i : Nat)) ∧ w = w' := by
  have HS := Lib.hid hs
  clear hs
  by_cases h : i < l.length
  · obtain ⟨g, o, rfl, _, hcell⟩ := HS.out.at_ (u64s_get h)
    have HG : Hid (limb l i = l[i]) := limb_of h
    go_enter Tryz.func95, Tryz.ntmps95
    go_wp2
    go_ret
    exact ⟨ret_int (by rw [HG.out]), rfl⟩
  · have HG : Hid (limb l i = 0) := limb_beyond (by omega)
    go_enter Tryz.func95, Tryz.ntmps95
    go_wp2
    go_ret
    exact ⟨ret_int (by rw [HG.out]; rfl), rfl⟩

/-- the sign of a comparison -/
def cmpN (a b : Nat) : Int := if a < b then -1 else if b < a then 1 else 0
theorem cmpN_lt {a b : Nat} (h : a < b) : cmpN a b = -1 := by simp [cmpN, h]
theorem cmpN_gt {a b : Nat} (h : b < a) : cmpN a b = 1 := by simp [cmpN, h]; omega
theorem cmpN_eq {a b : Nat} (h : a = b) : cmpN a b = 0 := by simp [cmpN, h]

set_option maxHeartbeats 2000000 in
theorem compare_any (A1 A2 : Option Addr) (c1 c2 : Nat) (a b : List Nat) (w : World) (h1 : a.length ≤ 1000000000) (h2 : b.length ≤ 1000000000) (ca : Canon a) (cb : Canon b) (s1 : Lm w A1 a) (s2 : Lm w A2 b) :
    Calls Tryz.prog 123 #[.slice A1 a.length c1, .slice A2 b.length c2] w fun e w' => e = .returned (.int .i64 (cmpN (val a) (val b))) ∧ ∃ n, w' = w.drewN n := by
  have S1 := Lib.hid s1
  have S2 := Lib.hid s2
  have CA := Lib.hid ca
  have CB := Lib.hid cb
  clear s1 s2 ca cb
  by_cases hl : a.length = b.length
  · have hne : ((a.length : Int) != (b.length : Int)) = false := by simp [hl]
    have HL := Lib.hid hl
    have hl1 : a.length ≤ b.length := by omega
    have hl2 : b.length ≤ a.length := by omega
    clear hl
    go_enter Tryz.func123, Tryz.ntmps123
    go_wp2
    go_loopw [5] (fun i wr => ∃ m : Int, i = .int .i64 m ∧ -1 ≤ m ∧ m < a.length ∧ a.drop (m + 1).toNat = b.drop (m + 1).toNat ∧ ∃ q, wr = w.drewN q) (fun i _ => (intOf i + 1).toNat)
    case atStart => exact ⟨(a.length : Int) - 1, rfl, by omega, by omega, by rw [List.drop_of_length_le (by omega), List.drop_of_length_le (by omega)], 0, rfl⟩
    case round =>
      obtain ⟨m, rfl, hm1, hm2, hd, q, rfl⟩ := hrel
      have HD := Lib.hid hd
      clear hd
      by_cases h0 : 0 ≤ m
      · obtain ⟨k, rfl⟩ : ∃ k : Nat, m = k := ⟨m.toNat, by omega⟩
        have hk : k < a.length := by omega
        have hk' : k < b.length := by omega
        obtain ⟨g, o, rfl, _, hcell⟩ := S1.out.at_ (u64s_get hk)
        obtain ⟨g', o', rfl, _, hcell'⟩ := S2.out.at_ (u64s_get hk')
        rcases Nat.lt_trichotomy a[k] b[k] with h | h | h
        · have HV : Hid (cmpN (val a) (val b) = -1) := cmpN_lt (val_lt_of_at CA.out.1 HL.out k hk h HD.out)
          go_wp2
          go_quiet (fail)
          go_wp2
          rw [HV.out]
          go_ret
          exact ⟨rfl, drew2 _ _ _⟩
        · have HE := Lib.hid h
          have h1 : ¬ a[k] < b[k] := by omega
          have h2 : ¬ b[k] < a[k] := by omega
          clear h
          go_wp2
          go_quiet (fail)
          go_wp2
          go_quiet (fail)
          go_wp2
          go_roundw
          case rel =>
            refine ⟨(k : Int) - 1, by go_num, by omega, by omega, ?_, _, rfl⟩
            have e1 : ((k : Int) - 1 + 1).toNat = k := by omega
            have e2 : ((k : Int) + 1).toNat = k + 1 := by omega
            have := HD.out
            rw [e2] at this
            rw [e1, List.drop_eq_getElem_cons hk, List.drop_eq_getElem_cons hk', this, HE.out]
          case measure => simp [intOf]
        · have HV : Hid (cmpN (val a) (val b) = 1) := cmpN_gt (val_lt_of_at CB.out.1 HL.out.symm k hk' h HD.out.symm)
          have h1 : ¬ a[k] < b[k] := by omega
          go_wp2
          go_quiet (fail)
          go_wp2
          go_quiet (fail)
          go_wp2
          rw [HV.out]
          go_ret
          exact ⟨rfl, drew3 _ _ _ _⟩
      · have HV : Hid (cmpN (val a) (val b) = 0) := by
          obtain rfl : m = -1 := by omega
          have := HD.out
          simp at this
          rw [this]
          exact cmpN_eq rfl
        go_wp2
        rw [HV.out]
        go_ret
        exact ⟨rfl, _, rfl⟩
  · have hne : ((a.length : Int) != (b.length : Int)) = true := by simp; omega
    have HV : Hid (((a.length : Int) - (b.length : Int)).sign = cmpN (val a) (val b)) := by
      rcases Nat.lt_or_gt_of_ne hl with h | h
      · rw [Hid, cmpN_lt (val_lt_of_length CA.out CB.out h)]; exact Int.sign_eq_neg_one_of_neg (by omega)
      · rw [Hid, cmpN_gt (val_lt_of_length CB.out CA.out h)]; exact Int.sign_eq_one_of_pos (by omega)
    clear hl
    go_enter Tryz.func123, Tryz.ntmps123
    go_wp2_with (go_at_call 134; refine (sign_any _ _).mono ?_; rintro e w' ⟨rfl, rfl⟩)
    go_ret
    exact ⟨ret_int HV.out, 0, rfl⟩
end Go.Proofs.YthalpbjkkfkheaaGreatDoor
/- limbs: add, sub. -/
namespace Go.Proofs.YthalpbjkkfkheaaGreatDoor
open Go.RowKit

theorem u64_info : (Tryz.prog.info? 47).map (fun i => (i.zero, i.size, i.bytes)) = some (some (.int .u64 0), 1, 8) := by kernel_rfl
/-- make(natural, n) -/
theorem make_nat (n : Nat) (h : n ≤ 1000000000) (w : World) :
    (Instr.makeSlice 121 (.int .i64 (n : Int)) (.int .i64 (n : Int))).run Tryz.prog w = .ok (.slice (some ⟨w.heap.size, 0, none⟩) n n) (w.alloc (.cells (u64s (pad [] n)).toArray 47)) := by
  obtain ⟨i0, hi, hz0, hz1, hz2⟩ := info_parts u64_info
  have hr := run_make (P := Tryz.prog) w 121 47 i0 (.int .u64 0) Tryz.underlying121 hi hz0 .i64 .i64 (n : Int) (n : Int) (by omega) (Int.le_refl _) (by rw [hz2]; omega) (by omega)
  simp only [Int.toNat_natCast, hz1, Nat.mul_one, Value.cells, madeCells_one] at hr
  rw [hr, pad_nil, u64s, List.map_replicate]
  rfl

theorem limb_store {w : World} {g k N x : Nat} {r : List Nat} {z : Int} (h : Blk w g 47 (u64s (pad r N))) (hr : r.length = k) (hk : k < N) (hz : z = x) : Blk (w.setCell ⟨g, k, none⟩ (.int .u64 z)) g 47 (u64s (pad (r ++ [x]) N)) := by
  have := h.set_ k (.int .u64 z)
  subst hr
  rw [← pad_set x hk, u64s, List.map_set, ← u64s, ← hz]
  exact this
theorem limb_cell {w : World} {g k N : Nat} {r : List Nat} (h : Blk w g 47 (u64s (pad r N))) (hr : r.length = k) (hk : k < N) : w.cell? ⟨g, k, none⟩ = some (.int .u64 (0 : Nat)) :=
  h.cell (by rw [u64s_get (by rw [pad_length (by omega)]; omega)]; simp [pad, hr])
theorem make_nat1 (m n : Nat) (e : n = m + 1) (h : n ≤ 1000000000) (w : World) :
    (Instr.makeSlice 121 (.int .i64 ((m : Int) + 1)) (.int .i64 ((m : Int) + 1))).run Tryz.prog w = .ok (.slice (some ⟨w.heap.size, 0, none⟩) n n) (w.alloc (.cells (u64s (pad [] n)).toArray 47)) := by
  have e' : ((m : Int) + 1) = (n : Int) := by omega
  rw [e']
  exact make_nat n h w

set_option maxRecDepth 100000 in
set_option maxHeartbeats 2000000 in
theorem add_any (A1 A2 : Option Addr) (c1 c2 : Nat) (a b : List Nat) (w : World) (h1 : a.length ≤ 100000000) (h2 : b.length ≤ 100000000) (da : Dig a) (db : Dig b) (s1 : Lm w A1 a) (s2 : Lm w A2 b) :
    Calls Tryz.prog 127 #[.slice A1 a.length c1, .slice A2 b.length c2] w fun e w' => ∃ r c, r.length ≤ c ∧ e = .returned (.slice (some ⟨w.heap.size, 0, none⟩) r.length c) ∧ Canon r ∧ val r = val a + val b ∧ Lm w' (some ⟨w.heap.size, 0, none⟩) r ∧ Ext w w' := by
  have S1 := Lib.hid s1
  have S2 := Lib.hid s2
  have DA := Lib.hid da
  have DB := Lib.hid db
  clear s1 s2 da db
  obtain ⟨N, hN⟩ : ∃ N, N = max a.length b.length + 1 := ⟨_, rfl⟩
  have hN1 : N ≤ 100000001 := by omega
  have HN := Lib.hid hN
  rcases Nat.lt_or_ge a.length b.length with hle | hle
  all_goals
    have hmk1 := fun e => make_nat1 a.length N e (by omega)
    have hmk2 := fun e => make_nat1 b.length N e (by omega)
    first | have hmk := hmk1 (by omega) | have hmk := hmk2 (by omega)
    clear hmk1 hmk2 hN
    go_enter Tryz.func127, Tryz.ntmps127
    go_wp2
    clear hmk
    go_loopw [6, 7, 8, 18] (fun cr _ _ i wr => ∃ (k c : Nat) (r : List Nat), k ≤ N ∧ i = .int .i64 k ∧ cr = .int .u64 c ∧ c ≤ 1 ∧ r.length = k ∧ Dig r ∧ val r + B9 ^ k * c = val (a.take k) + val (b.take k) ∧ Blk wr w.heap.size 47 (u64s (pad r N)) ∧ Ext w wr) (fun _ _ _ i _ => N - (intOf i).toNat)
    case atStart => exact ⟨0, 0, [], Nat.zero_le _, rfl, rfl, by omega, rfl, Dig.nil, by simp, Blk.new _ _ _, (Ext.refl w).alloc _⟩
    case round =>
      obtain ⟨k, c, r, hk, rfl, rfl, hc, hr, hd, hv, hblk, hx⟩ := hrel
      have HR := Lib.hid hr
      have HD := Lib.hid hd
      have HV := Lib.hid hv
      have HB := Lib.hid hblk
      clear hr hd hv hblk
      by_cases hlt : k < N
      · go_wp2_with fail
        refine (at_any A1 c1 a k wr (by omega) (by omega) (S1.out.ext hx)).mono ?_
        rintro e w' ⟨rfl, rfl⟩
        go_wp2_with fail
        refine (at_any A2 c2 b k wr (by omega) (by omega) (S2.out.ext hx)).mono ?_
        rintro e w' ⟨rfl, rfl⟩
        have ha := DA.out.getD k
        have hb := DB.out.getD k
        unfold B9 at ha hb
        obtain ⟨t, ht⟩ : ∃ t, t = limb a k + limb b k + c := ⟨_, rfl⟩
        have HA := Lib.hid (add_round HR.out HV.out ht)
        have HT := Lib.hid ht
        clear ht
        generalize limb a k = x at *
        generalize limb b k = y at *
        have hcell := limb_cell HB.out HR.out hlt
        have hfr := HB.out.frozen k
        go_wp2
        go_roundw
        case rel =>
          refine ⟨k + 1, t / B9, r ++ [t % B9], by omega, by go_num, congrArg _ (by rw [HT.out]; unfold B9; omega), ?_, ?_, HD.out.snoc (Nat.mod_lt _ (by decide)), HA.out, limb_store HB.out HR.out hlt (by rw [HT.out]; unfold B9; omega), hx.setCell (Nat.le_refl _) _⟩
          · rw [HT.out]; unfold B9; omega
          · simp [HR.out]
        case measure => simp [intOf]; omega
      · obtain rfl : k = N := by omega
        have HE := Lib.hid (add_end DA.out DB.out HR.out HN.out HV.out)
        have hsl : Lm wr (some ⟨w.heap.size, 0, none⟩) r := by
          have := HB.out.sl 0
          rwa [pad_full HR.out, List.drop_zero] at this
        go_wp2_with (go_at_call 100; refine (trim_at _ _ k r wr HR.out (Nat.le_refl _) (by omega) HD.out hsl).mono ?_; rintro e w' ⟨r', hr', rfl, hcan, hv', hs', rfl⟩)
        go_ret
        exact ⟨r', k, hr', rfl, hcan, hv'.trans HE.out, hs', hx⟩

set_option maxRecDepth 100000 in
set_option maxHeartbeats 2000000 in
theorem sub_any (A1 A2 : Option Addr) (c1 c2 : Nat) (a b : List Nat) (w : World) (h1 : a.length ≤ 100000000) (h2 : b.length ≤ 100000000) (ca : Canon a) (cb : Canon b) (hle : val b ≤ val a) (s1 : Lm w A1 a) (s2 : Lm w A2 b) :
    Calls Tryz.prog 128 #[.slice A1 a.length c1, .slice A2 b.length c2] w fun e w' => ∃ r c, r.length ≤ c ∧ e = .returned (.slice (some ⟨w.heap.size, 0, none⟩) r.length c) ∧ Canon r ∧ val r = val a - val b ∧ Lm w' (some ⟨w.heap.size, 0, none⟩) r ∧ Ext w w' := by
  have S1 := Lib.hid s1
  have S2 := Lib.hid s2
  have CA := Lib.hid ca
  have CB := Lib.hid cb
  have HL := Lib.hid hle
  clear s1 s2 ca cb hle
  have hmk := make_nat a.length (by omega)
  go_enter Tryz.func128, Tryz.ntmps128
  go_wp2
  clear hmk
  go_loopw [6, 7, 8, 14] (fun cr _ _ i wr => ∃ (k c : Nat) (r : List Nat), k ≤ a.length ∧ i = .int .i64 k ∧ cr = .int .u64 c ∧ c ≤ 1 ∧ r.length = k ∧ Dig r ∧ val r + val (b.take k) = val (a.take k) + B9 ^ k * c ∧ Blk wr w.heap.size 47 (u64s (pad r a.length)) ∧ Ext w wr) (fun _ _ _ i _ => a.length - (intOf i).toNat)
  case atStart => exact ⟨0, 0, [], Nat.zero_le _, rfl, rfl, by omega, rfl, Dig.nil, by simp, Blk.new _ _ _, (Ext.refl w).alloc _⟩
  case round =>
    obtain ⟨k, c, r, hk, rfl, rfl, hc, hr, hd, hv, hblk, hx⟩ := hrel
    have HR := Lib.hid hr
    have HD := Lib.hid hd
    have HV := Lib.hid hv
    have HB := Lib.hid hblk
    clear hr hd hv hblk
    by_cases hlt : k < a.length
    · obtain ⟨g, o, rfl, _, hcell⟩ := (S1.out.ext hx).at_ (u64s_get hlt)
      rw [← limb_of hlt] at hcell
      have ha := CA.out.1.getD k
      have hb := CB.out.1.getD k
      unfold B9 at ha hb
      obtain ⟨t, ht⟩ : ∃ t, t + limb b k + c = limb a k + B9 := ⟨limb a k + B9 - limb b k - c, by unfold B9; omega⟩
      have hA := sub_round HR.out HV.out ht
      have HT := Lib.hid ht
      clear ht
      have hq1 : IntKind.u64.wrap ((limb a k : Int) + 1000000000) = limb a k + 1000000000 := by rw [IntKind.wrap_u64]; omega
      have hq2 : IntKind.u64.wrap ((limb a k : Int) + 1000000000 - limb b k) = limb a k + 1000000000 - limb b k := by rw [IntKind.wrap_u64]; omega
      have hq3 : IntKind.u64.wrap ((limb a k : Int) + 1000000000 - limb b k - c) = limb a k + 1000000000 - limb b k - c := by rw [IntKind.wrap_u64]; omega
      go_wp2
      go_quiet ((go_at_call 95; exact quiet0 (at_any _ _ b k _ (by omega) (by omega) (S2.out.ext (hx.drewN _)))))
      clear hq1 hq2 hq3
      have ht' : (limb a k : Int) + 1000000000 - limb b k - c = t := by have := HT.out; unfold B9 at this; omega
      rw [ht']
      have ht2 : t ≤ 1999999999 := by have := HT.out; unfold B9 at this; omega
      clear ht'
      have HA := Lib.hid (hA (by unfold B9; omega))
      clear hA
      have hcell2 := limb_cell HB.out HR.out hlt
      have hfr := HB.out.frozen k
      go_wp2
      go_roundw
      case rel =>
        refine ⟨k + 1, 1 - t / B9, r ++ [t % B9], by omega, by go_num, congrArg _ (by unfold B9; omega), Nat.sub_le _ _, ?_, HD.out.snoc (Nat.mod_lt _ (by decide)), HA.out, limb_store (HB.out.drewN nq) HR.out hlt (by unfold B9; omega), (hx.drewN nq).setCell (Nat.le_refl _) _⟩
        simp [HR.out]
      case measure => simp [intOf]; omega
    · obtain rfl : k = a.length := by omega
      have HE := Lib.hid (sub_end CA.out CB.out HR.out HD.out HL.out HV.out)
      have hsl : Lm wr (some ⟨w.heap.size, 0, none⟩) r := by
        have := HB.out.sl 0
        rwa [pad_full HR.out, List.drop_zero] at this
      go_wp2_with (go_at_call 100; refine (trim_at _ _ a.length r wr HR.out (Nat.le_refl _) (by omega) HD.out hsl).mono ?_; rintro e w' ⟨r', hr', rfl, hcan, hv', hs', rfl⟩)
      go_ret
      exact ⟨r', a.length, hr', rfl, hcan, hv'.trans HE.out, hs', hx⟩
end Go.Proofs.YthalpbjkkfkheaaGreatDoor
/- limbs: mul, short. -/
namespace Go.Proofs.YthalpbjkkfkheaaGreatDoor
open Go.RowKit

theorem limb_at {w : World} {g i : Nat} {l : List Nat} (h : Blk w g 47 (u64s l)) (hi : i < l.length) : w.cell? ⟨g, i, none⟩ = some (.int .u64 (limb l i : Nat)) :=
  h.cell (by rw [u64s_get hi, limb_of hi])
theorem limb_set {w : World} {g i x : Nat} {l : List Nat} {z : Int} (h : Blk w g 47 (u64s l)) (hz : z = x) : Blk (w.setCell ⟨g, i, none⟩ (.int .u64 z)) g 47 (u64s (l.set i x)) := by
  have := h.set_ i (.int .u64 z)
  rw [u64s, List.map_set, ← u64s, ← hz]
  exact this
theorem set_mid (p : List Nat) (z : Nat) (q : List Nat) (x i : Nat) (h : p.length = i) : (p ++ z :: q).set i x = p ++ x :: q := by
  subst h
  simp
theorem limb_mid (p : List Nat) (z : Nat) (q : List Nat) (i : Nat) (h : p.length = i) : limb (p ++ z :: q) i = z := by
  subst h
  rw [limb_of (by simp)]
  simp
theorem drop_limb (l : List Nat) (i : Nat) (h : i < l.length) : l.drop i = limb l i :: l.drop (i + 1) := by
  rw [limb_of h]; exact List.drop_eq_getElem_cons h
theorem limb_pad {r : List Nat} {N i : Nat} : limb (pad r N) i = limb r i := by
  unfold limb pad
  rw [List.getD_eq_getElem?_getD, List.getD_eq_getElem?_getD, List.getElem?_append]
  split
  · rfl
  · rename_i h
    rw [List.getElem?_replicate, List.getElem?_eq_none (l := r) (by omega)]
    split <;> rfl
theorem make_nat2 (m1 m2 n : Nat) (e : n = m1 + m2) (h : n ≤ 1000000000) (w : World) :
    (Instr.makeSlice 121 (.int .i64 ((m1 : Int) + m2)) (.int .i64 ((m1 : Int) + m2))).run Tryz.prog w = .ok (.slice (some ⟨w.heap.size, 0, none⟩) n n) (w.alloc (.cells (u64s (pad [] n)).toArray 47)) := by
  have e' : ((m1 : Int) + m2) = (n : Int) := by omega
  rw [e']
  exact make_nat n h w
theorem pad_zeros (m N : Nat) (h : m ≤ N) : pad (List.replicate m 0) N = pad [] N := by
  simp [pad]
  omega

set_option maxRecDepth 100000 in
set_option maxHeartbeats 4000000 in
theorem mul_any (A1 A2 : Option Addr) (c1 c2 : Nat) (a b : List Nat) (w : World) (h1 : a.length ≤ 100000000) (h2 : b.length ≤ 100000000) (da : Dig a) (db : Dig b) (s1 : Lm w A1 a) (s2 : Lm w A2 b) :
    Calls Tryz.prog 125 #[.slice A1 a.length c1, .slice A2 b.length c2] w fun e w' => ∃ r c, r.length ≤ c ∧ e = .returned (.slice (some ⟨w.heap.size, 0, none⟩) r.length c) ∧ Canon r ∧ val r = val a * val b ∧ Lm w' (some ⟨w.heap.size, 0, none⟩) r ∧ Ext w w' := by
  have S1 := Lib.hid s1
  have S2 := Lib.hid s2
  have DA := Lib.hid da
  have DB := Lib.hid db
  clear s1 s2 da db
  obtain ⟨N, hN⟩ : ∃ N, N = a.length + b.length := ⟨_, rfl⟩
  have hN1 : N ≤ a.length + b.length := by omega
  have hN2 : a.length + b.length ≤ N := by omega
  have hmk := make_nat2 a.length b.length N hN (by omega)
  clear hN
  go_enter Tryz.func125, Tryz.ntmps125
  go_wp2
  clear hmk
  go_loopw [6, 7, 8, 9, 10, 11, 20] (fun _ _ _ _ _ _ i wr => ∃ (k : Nat) (r : List Nat), k ≤ a.length ∧ i = .int .i64 k ∧ r.length = k + b.length ∧ Dig r ∧ val r = val (a.take k) * val b ∧ Blk wr w.heap.size 47 (u64s (pad r N)) ∧ Ext w wr) (fun _ _ _ _ _ _ i _ => a.length - (intOf i).toNat)
  case atStart => exact ⟨0, List.replicate b.length 0, Nat.zero_le _, rfl, by simp, (by intro x hx; rw [List.mem_replicate] at hx; rw [hx.2]; decide), by rw [val_zeros (by intro x hx; exact (List.mem_replicate.1 hx).2)]; simp, by rw [pad_zeros _ _ (by omega)]; exact Blk.new _ _ _, (Ext.refl w).alloc _⟩
  case round =>
    obtain ⟨i, r, hi, rfl, hr, hd, hv, hblk, hx⟩ := hrel
    have HR := Lib.hid hr
    have HD := Lib.hid hd
    have HV := Lib.hid hv
    have HB := Lib.hid hblk
    have HX := Lib.hid hx
    clear hr hd hv hblk hx
    by_cases hlt : i < a.length
    · obtain ⟨g, o, rfl, _, hcell⟩ := (S1.out.ext HX.out).at_ (u64s_get hlt)
      rw [← limb_of hlt] at hcell
      have hlx := DA.out.getD i
      unfold B9 at hlx
      go_wp2
      obtain ⟨wo, rfl⟩ : ∃ wo : World, wo = wr := ⟨_, rfl⟩
      go_loopw [8, 9, 10, 11, 27] (fun cr _ _ _ j ws => ∃ (k c : Nat) (p : List Nat), k ≤ b.length ∧ j = .int .i64 k ∧ cr = .int .u64 c ∧ c < 1000000000 ∧ p.length = i + k ∧ Dig p ∧ val p + B9 ^ (i + k) * c = val (r.take (i + k)) + B9 ^ i * (limb a i * val (b.take k)) ∧ Blk ws w.heap.size 47 (u64s (p ++ (pad r N).drop (i + k))) ∧ Ext w ws) (fun _ _ _ _ j _ => b.length - (intOf j).toNat)
      case atStart =>
        refine ⟨0, 0, (pad r N).take i, Nat.zero_le _, rfl, rfl, by omega, ?_, ?_, ?_, ?_, HX.out⟩
        · rw [List.length_take, pad_length (by have := HR.out; omega)]; omega
        · refine Dig.take ?_ i
          exact HD.out.append (by intro x hx; rw [List.mem_replicate] at hx; rw [hx.2]; decide)
        · have : (pad r N).take i = r.take i := by
            rw [pad, List.take_append_of_le_length (by have := HR.out; omega)]
          simp [this]
        · simpa using HB.out
      case round =>
        obtain ⟨k, c, p, hk, rfl, rfl, hc, hp, hdp, hvp, hblk, hx⟩ := hrel
        have HP := Lib.hid hp
        have HDP := Lib.hid hdp
        have HVP := Lib.hid hvp
        have HB2 := Lib.hid hblk
        have HX2 := Lib.hid hx
        clear hp hdp hvp hblk hx
        by_cases hlt2 : k < b.length
        · obtain ⟨g2, o2, rfl, _, hcell2⟩ := (S2.out.ext HX2.out).at_ (u64s_get hlt2)
          rw [← limb_of hlt2] at hcell2
          have hly := DB.out.getD k
          have hlz := HD.out.getD (i + k)
          have hxy := mul_limb_le (DA.out.getD i) (DB.out.getD k)
          unfold B9 at hly hlz
          have HQ : Hid ((pad r N).drop (i + k) = limb r (i + k) :: (pad r N).drop (i + k + 1)) := by rw [Hid, drop_limb _ _ (by rw [pad_length (by have := HR.out; omega)]; omega), limb_pad]
          obtain ⟨t, ht⟩ : ∃ t, t = limb r (i + k) + limb a i * limb b k + c := ⟨_, rfl⟩
          have HA := Lib.hid (mul_round HP.out HVP.out rfl ht)
          have ht1 : t ≤ 999999999999999999 := by omega
          have hti : (limb r (i + k) : Int) + (limb a i : Int) * (limb b k : Int) + c = t := by rw [ht]; simp
          have HTI := Lib.hid hti
          clear ht hti
          have hxi : (limb a i : Int) * (limb b k : Int) ≤ 999999998000000001 := by rw [← Int.natCast_mul]; omega
          have hxi0 : 0 ≤ (limb a i : Int) * (limb b k : Int) := Int.mul_nonneg (by omega) (by omega)
          have hcell3 : wr.cell? ⟨w.heap.size, i + k, none⟩ = some (.int .u64 (limb r (i + k) : Nat)) := by
            have := limb_at (i := i + k) HB2.out (by rw [HQ.out, List.length_append, HP.out, List.length_cons]; omega)
            rw [this, HQ.out, limb_mid _ _ _ _ HP.out]
          have hfr := HB2.out.frozen (i + k)
          clear hxy
          go_wp2
          go_roundw
          case rel =>
            refine ⟨k + 1, t / B9, p ++ [t % B9], by omega, by go_num, congrArg _ (by rw [HTI.out]; unfold B9; omega), by unfold B9; omega, ?_, HDP.out.snoc (Nat.mod_lt _ (by decide)), HA.out, ?_, HX2.out.setCell (Nat.le_refl _) _⟩
            · simp only [List.length_append, HP.out, List.length_cons, List.length_nil]; omega
            · have := limb_set (i := i + k) (x := t % B9) HB2.out (show ((limb r (i + k) : Int) + limb a i * limb b k + c) % 1000000000 = ((t % B9 : Nat) : Int) by rw [HTI.out]; unfold B9; omega)
              rw [HQ.out, set_mid _ _ _ _ _ HP.out] at this
              simpa [Nat.add_assoc] using this
          case measure => simp [intOf]; omega
        · obtain rfl : k = b.length := by omega
          have HQ : Hid ((pad r N).drop (i + b.length) = 0 :: (pad r N).drop (i + b.length + 1)) := by rw [Hid, drop_limb _ _ (by rw [pad_length (by have := HR.out; omega)]; omega), limb_pad, limb_beyond (by have := HR.out; omega)]
          have HM := Lib.hid (mul_outer HP.out HR.out HV.out HVP.out)
          have hcell3 : wr.cell? ⟨w.heap.size, i + b.length, none⟩ = some (.int .u64 (0 : Nat)) := by
            have := limb_at (i := i + b.length) HB2.out (by rw [HQ.out, List.length_append, HP.out, List.length_cons]; omega)
            rw [this, HQ.out, limb_mid _ _ _ _ HP.out]
          have hfr := HB2.out.frozen (i + b.length)
          go_wp2
          go_roundw
          case rel =>
            refine ⟨i + 1, p ++ [c], by omega, by go_num, ?_, HDP.out.snoc (by unfold B9; omega), HM.out, ?_, HX2.out.setCell (Nat.le_refl _) _⟩
            · simp only [List.length_append, HP.out, List.length_cons, List.length_nil]; omega
            · have := limb_set (i := i + b.length) (x := c) (z := (c : Int)) HB2.out rfl
              rw [HQ.out, set_mid _ _ _ _ _ HP.out] at this
              have e1 : p ++ c :: (pad r N).drop (i + b.length + 1) = pad (p ++ [c]) N := by
                have hl : (p ++ [c]).length = i + b.length + 1 := by simp [HP.out]
                have h2 : (pad r N).drop (i + b.length + 1) = List.replicate (N - (i + b.length + 1)) 0 := by
                  rw [pad, List.drop_append, List.drop_of_length_le (by have := HR.out; omega), List.drop_replicate, HR.out, List.nil_append]
                  congr 1
                  omega
                rw [h2, pad, hl, List.append_assoc]
                rfl
              rw [e1] at this
              simpa using this
          case measure => simp [intOf]; omega
    · obtain rfl : i = a.length := by omega
      have HE : Hid (val r = val a * val b) := by rw [Hid, HV.out, List.take_of_length_le (Nat.le_refl _)]
      have HRN : Hid (r.length = N) := by have := HR.out; unfold Hid; omega
      have hsl : Lm wr (some ⟨w.heap.size, 0, none⟩) r := by
        have := HB.out.sl 0
        rwa [pad_full HRN.out, List.drop_zero] at this
      go_wp2_with (go_at_call 100; refine (trim_at _ _ N r wr HRN.out (Nat.le_refl _) (by omega) HD.out hsl).mono ?_; rintro e w' ⟨r', hr', rfl, hcan, hv', hs', rfl⟩)
      go_ret
      exact ⟨r', N, hr', rfl, hcan, hv'.trans HE.out, hs', HX.out⟩

set_option maxRecDepth 100000 in
set_option maxHeartbeats 4000000 in
theorem short_any (A1 : Option Addr) (c1 : Nat) (a : List Nat) (d : Nat) (w : World) (h1 : a.length ≤ 100000000) (da : Dig a) (hd0 : 0 < d) (hd1 : d < 1000000000) (s1 : Lm w A1 a) :
    Calls Tryz.prog 124 #[.slice A1 a.length c1, .int .u64 d] w fun e w' => ∃ r c, r.length ≤ c ∧ e = .returned (.tuple #[.slice (some ⟨w.heap.size, 0, none⟩) r.length c, .int .u64 ((val a % d : Nat) : Int)]) ∧ Canon r ∧ val r = val a / d ∧ Lm w' (some ⟨w.heap.size, 0, none⟩) r ∧ Ext w w' := by
  have S1 := Lib.hid s1
  have DA := Lib.hid da
  clear s1 da
  have hmk := make_nat a.length (by omega)
  go_enter Tryz.func124, Tryz.ntmps124
  go_wp2
  clear hmk
  go_loopw [7, 8, 9] (fun rs i _ wr => ∃ (m : Int) (rest : Nat) (q : List Nat), -1 ≤ m ∧ m < a.length ∧ i = .int .i64 m ∧ rs = .int .u64 rest ∧ rest < d ∧ Dig q ∧ q.length = a.length - (m + 1).toNat ∧ val (a.drop (m + 1).toNat) = val q * d + rest ∧ Blk wr w.heap.size 47 (u64s (List.replicate (m + 1).toNat 0 ++ q)) ∧ Ext w wr) (fun _ i _ _ => (intOf i + 1).toNat)
  case atStart =>
    refine ⟨(a.length : Int) - 1, 0, [], by omega, by omega, rfl, rfl, hd0, Dig.nil, ?_, ?_, ?_, (Ext.refl w).alloc _⟩
    · simp
    · rw [List.drop_of_length_le (by omega)]; simp
    · have e1 : ((a.length : Int) - 1 + 1).toNat = a.length := by omega
      rw [e1, List.append_nil, ← pad_nil]; exact Blk.new _ _ _
  case round =>
    obtain ⟨m, rest, q, hm1, hm2, rfl, rfl, hrd, hdq, hql, hv, hblk, hx⟩ := hrel
    have HDQ := Lib.hid hdq
    have HQL := Lib.hid hql
    have HV := Lib.hid hv
    have HB := Lib.hid hblk
    have HX := Lib.hid hx
    clear hdq hql hv hblk hx
    by_cases h0 : 0 ≤ m
    · obtain ⟨k, rfl⟩ : ∃ k : Nat, m = k := ⟨m.toNat, by omega⟩
      have hk : k < a.length := by omega
      have hk1 : ((k : Int) + 1).toNat = k + 1 := by omega
      have HQL' := Lib.hid (hk1 ▸ HQL.out)
      have HV' := Lib.hid (hk1 ▸ HV.out)
      have HB' := Lib.hid (hk1 ▸ HB.out)
      clear hk1 HQL HV HB
      obtain ⟨g, o, rfl, _, hcell⟩ := (S1.out.ext HX.out).at_ (u64s_get hk)
      rw [← limb_of hk] at hcell
      have hlx := DA.out.getD k
      have HLT := Lib.hid (short_lt hrd (DA.out.getD k))
      unfold B9 at hlx
      obtain ⟨t, ht⟩ : ∃ t, t = rest * B9 + limb a k := ⟨_, rfl⟩
      have HA := Lib.hid (short_round hk HV'.out ht)
      have HT := Lib.hid ht
      have hti : (rest : Int) * 1000000000 + limb a k = t := by rw [ht]; unfold B9; omega
      have ht9 : t ≤ 999999999999999999 := by unfold B9 at ht; omega
      have HTI := Lib.hid hti
      clear ht hti
      have hcell2 : wr.cell? ⟨w.heap.size, k, none⟩ = some (.int .u64 (0 : Nat)) := by
        have e1 : List.replicate (k + 1) 0 ++ q = List.replicate k 0 ++ (0 :: q) := by rw [List.replicate_succ']; simp
        have := limb_at (i := k) HB'.out (by simp; omega)
        rw [this, e1, limb_mid _ _ _ _ (by simp)]
      have hfr := HB'.out.frozen k
      go_wp2
      rw [HTI.out]
      go_region
      all_goals go_wp2
      go_roundw
      case rel =>
        have hlt9 : t / d < B9 := by rw [HT.out]; exact HLT.out
        refine ⟨(k : Int) - 1, t % d, t / d :: q, by omega, by omega, by go_num, congrArg _ (Int.natCast_emod t d).symm, Nat.mod_lt _ hd0, HDQ.out.cons hlt9, ?_, ?_, ?_, (HX.out.setCell (Nat.le_refl _) _).drew⟩
        · have := HQL'.out
          rw [List.length_cons]; omega
        · have e1 : ((k : Int) - 1 + 1).toNat = k := by omega
          rw [e1]; exact HA.out
        · have e1 : ((k : Int) - 1 + 1).toNat = k := by omega
          have e2 : IntKind.u64.wrap ((t : Int) / (d : Int)) = ((t / d : Nat) : Int) := by
            rw [← Int.natCast_ediv, IntKind.wrap_u64]; unfold B9 at hlt9; generalize t / d = y at hlt9 ⊢; omega
          have e3 : List.replicate (k + 1) 0 ++ q = List.replicate k 0 ++ (0 :: q) := by rw [List.replicate_succ']; simp
          have := limb_set (i := k) (x := t / d) HB'.out e2
          rw [e3, set_mid _ _ _ _ _ (by simp)] at this
          rw [e1]
          exact this.drew
      case measure => simp [intOf]
    · obtain rfl : m = -1 := by omega
      have hv := HV.out
      have hql := HQL.out
      have hb := HB.out
      simp only [Int.reduceNeg, Int.reduceAdd, Int.toNat_zero, List.drop_zero, List.replicate_zero, List.nil_append, Nat.sub_zero] at hv hql hb
      have HE : Hid (val q = val a / d ∧ rest = val a % d) := by
        rw [Hid, hv, Nat.add_comm, Nat.add_mul_div_right _ _ hd0, Nat.div_eq_of_lt hrd, Nat.add_mul_mod_self_right, Nat.mod_eq_of_lt hrd]
        exact ⟨by omega, rfl⟩
      have HB2 := Lib.hid hb
      have HL2 := Lib.hid hql
      clear hv hql hb HV HQL HB
      have hsl : Lm wr (some ⟨w.heap.size, 0, none⟩) q := by
        have := HB2.out.sl 0
        rwa [List.drop_zero] at this
      go_wp2_with (go_at_call 100; refine (trim_at _ _ a.length q wr HL2.out (Nat.le_refl _) (by omega) HDQ.out hsl).mono ?_; rintro e w' ⟨r', hr', rfl, hcan, hv', hs', rfl⟩)
      go_ret2
      exact ⟨r', a.length, hr', by rw [← HE.out.2]; rfl, hcan, hv'.trans HE.out.1, hs', HX.out⟩
end Go.Proofs.YthalpbjkkfkheaaGreatDoor
/- limbs: step, a limb of the quotient. -/
namespace Go.Proofs.YthalpbjkkfkheaaGreatDoor
open Go.RowKit

theorem limb_take {s : List Nat} {m k : Nat} (h : k < m) : limb (s.take m) k = limb s k := by
  unfold limb
  rw [List.getD_eq_getElem?_getD, List.getD_eq_getElem?_getD, List.getElem?_take, if_pos h]
theorem limb_app {pre s : List Nat} {o k : Nat} (h : pre.length = o) : limb (pre ++ s) (o + k) = limb s k := by
  subst h
  unfold limb
  rw [List.getD_eq_getElem?_getD, List.getD_eq_getElem?_getD, List.getElem?_append_right (by omega)]
  congr 2
  omega
/-- a cell of the part of block g that lies behind pre -/
theorem part_cell {w : World} {g o k : Nat} {pre s : List Nat} (h : Blk w g 47 (u64s (pre ++ s))) (ho : pre.length = o) (hk : k < s.length) : w.cell? ⟨g, o + k, none⟩ = some (.int .u64 (limb s k : Nat)) := by
  rw [limb_at h (by rw [List.length_append]; omega), limb_app ho]

theorem part_set {w : World} {g o k y : Nat} {z : Int} {pre p s : List Nat} (h : Blk w g 47 (u64s (pre ++ (p ++ s.drop k)))) (ho : pre.length = o) (hp : p.length = k) (hk : k < s.length) (hz : z = y) :
    Blk (w.setCell ⟨g, o + k, none⟩ (.int .u64 z)) g 47 (u64s (pre ++ ((p ++ [y]) ++ s.drop (k + 1)))) := by
  have h1 := limb_set (i := o + k) (x := y) h hz
  rw [List.drop_eq_getElem_cons hk, ← List.append_assoc, set_mid _ _ _ _ _ (by rw [List.length_append]; omega)] at h1
  simpa using h1
theorem part_set2 {w : World} {g o k y y1 : Nat} {z : Int} {pre p r : List Nat} (h : Blk w g 47 (u64s (pre ++ ((p ++ [y1]) ++ r)))) (ho : pre.length = o) (hp : p.length = k) (hz : z = y) :
    Blk (w.setCell ⟨g, o + k, none⟩ (.int .u64 z)) g 47 (u64s (pre ++ ((p ++ [y]) ++ r))) := by
  have h1 := limb_set (i := o + k) (x := y) h hz
  have e : pre ++ ((p ++ [y1]) ++ r) = (pre ++ p) ++ y1 :: r := by simp
  rw [e, set_mid _ _ _ _ _ (by rw [List.length_append]; omega)] at h1
  simpa using h1
theorem limb_rest {p s : List Nat} {k : Nat} (hp : p.length = k) : limb (p ++ s.drop k) k = limb s k := by
  have := limb_app (s := s.drop k) (k := 0) hp
  rw [Nat.add_zero] at this
  rw [this]
  unfold limb
  rw [List.getD_eq_getElem?_getD, List.getD_eq_getElem?_getD, List.getElem?_drop, Nat.add_zero]

set_option maxRecDepth 100000 in
set_option maxHeartbeats 20000000 in
theorem step_any (g o n c1 c2 gv ov : Nat) (pre s v : List Nat) (w : World) (hn : 2 ≤ n) (hnb : n ≤ 100000000) (ho : pre.length = o) (hs : n + 1 ≤ s.length) (ds : Dig s) (hblk : Blk w g 47 (u64s (pre ++ s)))
    (hv : v.length = n) (dv : Dig v) (sv : Lm w (some ⟨gv, ov, none⟩) v) (hne : gv ≠ g) (hnorm : 500000000 ≤ limb v (n - 1)) (hB : val (s.take (n + 1)) < B9 * val v) :
    Calls Tryz.prog 126 #[.slice (some ⟨g, o, none⟩) (n + 1) c1, .slice (some ⟨gv, ov, none⟩) n c2] w fun e w' =>
      e = .returned (.int .u64 ((val (s.take (n + 1)) / val v : Nat) : Int)) ∧ ∃ u', u'.length = n + 1 ∧ Dig u' ∧ val u' = val (s.take (n + 1)) % val v ∧ Blk w' g 47 (u64s (pre ++ (u' ++ s.drop (n + 1)))) ∧ Only g w w' := by
  have HO := Lib.hid ho
  have DS := Lib.hid ds
  have HBK := Lib.hid hblk
  have HV := Lib.hid hv
  have DV := Lib.hid dv
  have SV := Lib.hid sv
  have HNE := Lib.hid hne
  have HB := Lib.hid hB
  have HUL : Hid ((s.take (n + 1)).length = n + 1) := by rw [Hid, List.length_take]; omega
  have DU := Lib.hid (ds.take (n + 1))
  have HS := Lib.hid hs
  clear ho ds hblk hv dv sv hne hB
  -- the first limbs
  have cu0 := part_cell HBK.out HO.out (show n < s.length by omega)
  have cu1 := part_cell HBK.out HO.out (show n - 1 < s.length by omega)
  have cu2 := part_cell HBK.out HO.out (show n - 2 < s.length by omega)
  have cv1 : w.cell? ⟨gv, ov + (n - 1), none⟩ = some (.int .u64 (limb v (n - 1) : Nat)) := by
    have hk : n - 1 < v.length := by have := HV.out; omega
    obtain ⟨_, _, hA, _, hc⟩ := SV.out.at_ (u64s_get hk)
    injection hA with hA; injection hA with h1 h2; subst h1 h2
    rw [hc, limb_of hk]
  have cv2 : w.cell? ⟨gv, ov + (n - 2), none⟩ = some (.int .u64 (limb v (n - 2) : Nat)) := by
    have hk : n - 2 < v.length := by have := HV.out; omega
    obtain ⟨_, _, hA, _, hc⟩ := SV.out.at_ (u64s_get hk)
    injection hA with hA; injection hA with h1 h2; subst h1 h2
    rw [hc, limb_of hk]
  have bu0 := DS.out.getD n
  have bu1 := DS.out.getD (n - 1)
  have bu2 := DS.out.getD (n - 2)
  have bv1 := DV.out.getD (n - 1)
  have bv2 := DV.out.getD (n - 2)
  have hGS := guess_start hn HV.out HUL.out DV.out DU.out (by omega)
  rw [limb_take (by omega), limb_take (by omega)] at hGS
  have HGS := Lib.hid hGS
  clear hGS
  unfold B9 at bu0 bu1 bu2 bv1 bv2
  generalize hu0 : limb s n = u0 at *
  generalize hu1 : limb s (n - 1) = u1 at *
  generalize hu2 : limb s (n - 2) = u2 at *
  generalize hv1 : limb v (n - 1) = v1 at *
  generalize hv2 : limb v (n - 2) = v2 at *
  have HU0 := Lib.hid hu0
  have HU1 := Lib.hid hu1
  have HU2 := Lib.hid hu2
  have HV1 := Lib.hid hv1
  have HV2 := Lib.hid hv2
  clear hu0 hu1 hu2 hv1 hv2
  have hq1 : IntKind.u64.wrap ((u0 : Int) * 1000000000) = u0 * 1000000000 := by rw [IntKind.wrap_u64]; omega
  have hq2 : IntKind.u64.wrap ((u0 : Int) * 1000000000 + u1) = u0 * 1000000000 + u1 := by rw [IntKind.wrap_u64]; omega
  have hq3 : IntKind.i64.wrap ((n : Int) - 1) = n - 1 := IntWalk.i64_in _ (by omega)
  have hq4 : ((n : Int) - 1).toNat = n - 1 := by omega
  go_enter Tryz.func126, Tryz.ntmps126
  go_wp2
  go_quiet (fail)
  clear hq1 hq2
  obtain ⟨T, hT⟩ : ∃ T : Nat, T = u0 * B9 + u1 := ⟨_, rfl⟩
  have hTi : (u0 : Int) * 1000000000 + u1 = T := by rw [hT]; unfold B9; omega
  rw [hTi]
  have hT9 : T ≤ 999999999999999999 := by unfold B9 at hT; omega
  clear hTi
  have HT := Lib.hid hT
  clear hT
  go_wp2
  go_quiet (fail)
  have hdiv : IntKind.u64.wrap ((T : Int) / (v1 : Int)) = ((T / v1 : Nat) : Int) := by
    have hle : T / v1 ≤ T := Nat.div_le_self _ _
    rw [← Int.natCast_ediv, IntKind.wrap_u64]; generalize T / v1 = y at hle ⊢; omega
  rw [hdiv, ← Int.natCast_emod]
  clear hdiv
  rw [← HT.out] at HGS
  have hqb : T / v1 ≤ T := Nat.div_le_self _ _
  generalize T / v1 = q0 at *
  generalize T % v1 = r0 at *
  go_wp2
  go_loopw [7, 8] (fun a b wr => ∃ q r : Nat, a = .int .u64 q ∧ b = .int .u64 r ∧ Guess (s.take (n + 1)) v n q r ∧ q ≤ 999999999999999999 ∧ ∃ k, wr = w.drewN k) (fun a _ _ => (intOf a).toNat)
  case atStart => exact ⟨q0, r0, rfl, rfl, HGS.out, by omega, by first | exact drew1 _ _ | exact drew2 _ _ _ | exact drew3 _ _ _ _⟩
  case round =>
    obtain ⟨q, r, rfl, rfl, hg, hqb, k, rfl⟩ := hrel
    have hrb := hg.rb
    rw [HV1.out] at hrb
    unfold B9 at hrb
    have HG := Lib.hid hg
    clear hg
    by_cases hgo : r < 1000000000 ∧ (1000000000 ≤ q ∨ r * B9 + u2 < q * v2)
    · obtain ⟨hr, hor⟩ := hgo
      have hd1 : decide ((r : Int) < 1000000000) = true := decide_eq_true (by omega)
      obtain ⟨h1q, hg'⟩ := guess_down hn HV.out HUL.out DV.out DU.out HB.out HG.out (by unfold B9; omega) (by rw [HV2.out, limb_take (by omega), HU2.out]; exact hor)
      rw [HV1.out] at hg'
      have HG' := Lib.hid hg'
      clear hg'
      by_cases hq : 1000000000 ≤ q
      · have hd2 : decide ((1000000000 : Int) ≤ q) = true := decide_eq_true (by omega)
        clear hor
        go_wp2
        go_quiet (fail)
        go_wp2
        go_roundw
        case rel => exact ⟨q - 1, r + v1, congrArg _ (by omega), congrArg _ (by omega), HG'.out, by omega, by first | exact drew1 _ _ | exact drew2 _ _ _⟩
        case measure => simp [intOf]; omega
      · have hd2 : decide ((1000000000 : Int) ≤ q) = false := decide_eq_false (by omega)
        have hlt : r * B9 + u2 < q * v2 := by omega
        have hqv := mul_limb_le (x := q) (y := v2) (by unfold B9; omega) (by unfold B9; omega)
        have hqv0 : 0 ≤ (q : Int) * (v2 : Int) := Int.mul_nonneg (by omega) (by omega)
        have hqvi : (q : Int) * (v2 : Int) ≤ 999999998000000001 := by rw [← Int.natCast_mul]; omega
        have hlti : (r : Int) * 1000000000 + u2 < (q : Int) * (v2 : Int) := by rw [← Int.natCast_mul]; unfold B9 at hlt; omega
        have hd3 : decide ((r : Int) * 1000000000 + u2 < (q : Int) * (v2 : Int)) = true := decide_eq_true hlti
        have hw1 : IntKind.u64.wrap ((q : Int) * (v2 : Int)) = q * v2 := by rw [IntKind.wrap_u64]; omega
        have hw2 : IntKind.u64.wrap ((r : Int) * 1000000000) = r * 1000000000 := by rw [IntKind.wrap_u64]; omega
        have hw3 : IntKind.u64.wrap ((r : Int) * 1000000000 + u2) = r * 1000000000 + u2 := by rw [IntKind.wrap_u64]; omega
        have hw4 : IntKind.i64.wrap ((n : Int) - 2) = n - 2 := IntWalk.i64_in _ (by omega)
        have hw5 : ((n : Int) - 2).toNat = n - 2 := by omega
        clear hor hlt hqv
        go_wp2
        go_quiet (fail)
        go_wp2
        go_roundw
        case rel => exact ⟨q - 1, r + v1, congrArg _ (by omega), congrArg _ (by omega), HG'.out, by omega, by first | exact drew1 _ _ | exact drew2 _ _ _⟩
        case measure => simp [intOf]; omega
    · have hex : B9 ≤ r ∨ (q < B9 ∧ q * v2 ≤ r * B9 + u2) := by
        rcases Nat.lt_or_ge r 1000000000 with h | h
        · right
          refine ⟨?_, ?_⟩
          · rcases Nat.lt_or_ge q 1000000000 with h' | h'
            · exact h'
            · exact absurd ⟨h, .inl h'⟩ hgo
          · rcases Nat.lt_or_ge (r * B9 + u2) (q * v2) with h' | h'
            · exact absurd ⟨h, .inr h'⟩ hgo
            · exact h'
        · left; exact h
      have hge := guess_end hn HV.out HUL.out DV.out DU.out HB.out HG.out (by rw [HV2.out, limb_take (by omega), HU2.out]; exact hex)
      have hnear := guess_near hn HV.out HUL.out DV.out DU.out (by rw [HV1.out]; omega) hge.1 hge.2
      have hq9 : q ≤ 999999999 := by have := hge.1; unfold B9 at this; omega
      have HNEAR := Lib.hid hnear
      have HUP := Lib.hid HG.out.up
      clear hge hnear hgo
      have hex2 : r < 1000000000 → q * v2 ≤ r * B9 + u2 := fun hr => by
        rcases hex with h | h
        · unfold B9 at h; omega
        · exact h.2
      clear hex
      by_cases hr : r < 1000000000
      all_goals first
        | (have hd1 : decide ((r : Int) < 1000000000) = false := decide_eq_false (by omega)
           clear hex2
           go_wp2
           go_quiet (fail)
           clear hd1
           go_wp2)
        | (have hd1 : decide ((r : Int) < 1000000000) = true := decide_eq_true (by omega)
           have hex := hex2 hr
           have hd2 : decide ((1000000000 : Int) ≤ q) = false := decide_eq_false (by omega)
           have hqv := mul_limb_le (x := q) (y := v2) (by unfold B9; omega) (by unfold B9; omega)
           have hqv0 : 0 ≤ (q : Int) * (v2 : Int) := Int.mul_nonneg (by omega) (by omega)
           have hqvi : (q : Int) * (v2 : Int) ≤ 999999998000000001 := by rw [← Int.natCast_mul]; omega
           have hlti : (q : Int) * (v2 : Int) ≤ (r : Int) * 1000000000 + u2 := by rw [← Int.natCast_mul]; unfold B9 at hex; omega
           have hd3 : decide ((r : Int) * 1000000000 + u2 < (q : Int) * (v2 : Int)) = false := decide_eq_false (by omega)
           have hw1 : IntKind.u64.wrap ((q : Int) * (v2 : Int)) = q * v2 := by rw [IntKind.wrap_u64]; omega
           have hw2 : IntKind.u64.wrap ((r : Int) * 1000000000) = r * 1000000000 := by rw [IntKind.wrap_u64]; omega
           have hw3 : IntKind.u64.wrap ((r : Int) * 1000000000 + u2) = r * 1000000000 + u2 := by rw [IntKind.wrap_u64]; omega
           have hw4 : IntKind.i64.wrap ((n : Int) - 2) = n - 2 := IntWalk.i64_in _ (by omega)
           have hw5 : ((n : Int) - 2).toNat = n - 2 := by omega
           clear hex hqv hex2
           go_wp2
           go_quiet (fail)
           clear hd1 hd2 hd3 hw1 hw2 hw3 hw4 hw5 hlti hqvi hqv0
           go_wp2)
      all_goals
        clear cu0 cu1 cu2 cv1 cv2 hq3 hq4
        go_loopw [9, 10, 11, 12, 13, 80] (fun cr _ _ _ _ i wr => ∃ (k c : Nat) (p : List Nat), k ≤ n ∧ i = .int .i64 k ∧ cr = .int .u64 c ∧ c ≤ 1000000000 ∧ p.length = k ∧ Dig p ∧ val p + q * val (v.take k) = val ((s.take (n + 1)).take k) + B9 ^ k * c ∧ Blk wr g 47 (u64s (pre ++ (p ++ s.drop k))) ∧ Only g w wr) (fun _ _ _ _ _ i _ => n - (intOf i).toNat)
        case atStart => exact ⟨0, 0, [], Nat.zero_le _, rfl, rfl, by omega, rfl, Dig.nil, by simp, (show Blk w g _ _ from by simpa using HBK.out), by first | exact (Only.refl _ _).drewN _ | exact ((Only.refl _ _).drewN _).drewN _⟩
        case round =>
          obtain ⟨k, c, p, hk, rfl, rfl, hc, hp, hdp, hvp, hblk, hon⟩ := hrel
          have HP := Lib.hid hp
          have HDP := Lib.hid hdp
          have HVP := Lib.hid hvp
          have HB2 := Lib.hid hblk
          have HON := Lib.hid hon
          clear hp hdp hvp hblk hon
          by_cases hlt : k < n
          · have cvk : wr.cell? ⟨gv, ov + k, none⟩ = some (.int .u64 (limb v k : Nat)) := by
              have hk : k < v.length := by have := HV.out; omega
              obtain ⟨_, _, hA, _, hc⟩ := (SV.out.only HON.out HNE.out).at_ (u64s_get hk)
              injection hA with hA; injection hA with h1 h2; subst h1 h2
              rw [hc, limb_of hk]
            have cuk : wr.cell? ⟨g, o + k, none⟩ = some (.int .u64 (limb s k : Nat)) := by
              rw [part_cell HB2.out HO.out (by rw [List.length_append, HP.out, List.length_drop]; omega), limb_rest HP.out]
            have hfr := HB2.out.frozen (o + k)
            have bvk := DV.out.getD k
            have buk := DS.out.getD k
            have hqv := mul_limb_le (x := q) (y := limb v k) (by unfold B9; omega) bvk
            have hqv0 : 0 ≤ (q : Int) * (limb v k : Int) := Int.mul_nonneg (by omega) (by omega)
            have hqvi : (q : Int) * (limb v k : Int) ≤ 999999998000000001 := by rw [← Int.natCast_mul]; omega
            unfold B9 at bvk buk
            obtain ⟨t, ht⟩ : ∃ t, t = q * limb v k + c := ⟨_, rfl⟩
            have hti : (q : Int) * (limb v k : Int) + c = t := by rw [ht]; simp
            have ht9 : t ≤ 999999999999999999 := by omega
            have HTR := Lib.hid (fun y c' hy => take_round (y := y) (c' := c') HP.out HVP.out ht hy)
            rw [limb_take (show k < n + 1 by omega)] at HTR
            have HTI := Lib.hid hti
            clear ht hti hqv
            by_cases hlow : limb s k < t % 1000000000
            · have hd : decide ((limb s k : Int) < ((q : Int) * (limb v k : Int) + c) % 1000000000) = true := by rw [HTI.out]; exact decide_eq_true (by omega)
              have HF := Lib.hid (HTR.out (limb s k + B9 - t % B9) (t / B9 + 1) (by unfold B9; omega))
              have hsub : 0 ≤ (limb s k : Int) + 1000000000 - ((q : Int) * (limb v k : Int) + c) % 1000000000 := by omega
              clear HTR
              go_wp2
              go_roundw
              case rel =>
                refine ⟨k + 1, t / B9 + 1, p ++ [limb s k + B9 - t % B9], by omega, by go_num, congrArg _ (by rw [HTI.out]; unfold B9; omega), by unfold B9; omega, by simp [HP.out], HDP.out.snoc (by unfold B9; omega), HF.out, ?_, (HON.out.set_ _ _).set_ _ _⟩
                exact part_set2 (part_set (y := limb s k + 1000000000) HB2.out HO.out HP.out (by omega) (by omega)) HO.out HP.out (by rw [HTI.out]; unfold B9; omega)
              case measure => simp [intOf]; omega
            · have hd : decide ((limb s k : Int) < ((q : Int) * (limb v k : Int) + c) % 1000000000) = false := by rw [HTI.out]; exact decide_eq_false (by omega)
              have HF := Lib.hid (HTR.out (limb s k - t % B9) (t / B9) (by unfold B9; omega))
              have hsub : 0 ≤ (limb s k : Int) - ((q : Int) * (limb v k : Int) + c) % 1000000000 := by rw [HTI.out]; omega
              clear HTR
              go_wp2
              go_roundw
              case rel =>
                refine ⟨k + 1, t / B9, p ++ [limb s k - t % B9], by omega, by go_num, congrArg _ (by rw [HTI.out]; unfold B9; omega), by unfold B9; omega, by simp [HP.out], HDP.out.snoc (by unfold B9; omega), HF.out, ?_, HON.out.set_ _ _⟩
                exact part_set HB2.out HO.out HP.out (by omega) (by rw [HTI.out]; unfold B9; omega)
              case measure => simp [intOf]; omega
          · obtain rfl : k = n := by omega
            have cun : wr.cell? ⟨g, o + k, none⟩ = some (.int .u64 (u0 : Nat)) := by
              rw [part_cell HB2.out HO.out (by rw [List.length_append, HP.out, List.length_drop]; omega), limb_rest HP.out, HU0.out]
            have hfr := HB2.out.frozen (o + k)
            by_cases hle : c ≤ u0
            · have hd : decide ((c : Int) ≤ (u0 : Int)) = true := decide_eq_true (by omega)
              have HTR := Lib.hid (take_right HV.out HUL.out HP.out HUP.out HVP.out (by rw [limb_take (by omega), HU0.out]; exact hle))
              go_wp2
              go_ret
              refine ⟨ret_int (by rw [HTR.out.1]), p ++ [u0 - c], by simp [HP.out], HDP.out.snoc (by unfold B9; omega), ?_, part_set HB2.out HO.out HP.out (by omega) (by omega), HON.out.set_ _ _⟩
              have := HTR.out.2
              rw [limb_take (by omega), HU0.out] at this
              exact this
            · have hd : decide ((c : Int) ≤ (u0 : Int)) = false := decide_eq_false (by omega)
              go_wp2
              obtain ⟨wo, rfl⟩ : ∃ wo : World, wo = wr := ⟨_, rfl⟩
              go_loopw [14, 15, 16, 17, 132] (fun cr _ _ _ i wr => ∃ (j d : Nat) (r' : List Nat), j ≤ k ∧ i = .int .i64 j ∧ cr = .int .u64 d ∧ d ≤ 1 ∧ r'.length = j ∧ Dig r' ∧ val r' + B9 ^ j * d = val (p.take j) + val (v.take j) ∧ Blk wr g 47 (u64s (pre ++ (r' ++ (p ++ s.drop k).drop j))) ∧ Only g w wr) (fun _ _ _ _ i _ => k - (intOf i).toNat)
              case atStart => exact ⟨0, 0, [], Nat.zero_le _, rfl, rfl, by omega, rfl, Dig.nil, by simp, by simpa using HB2.out, HON.out⟩
              case round =>
                obtain ⟨j, d, r', hj, rfl, rfl, hd1, hr', hdr, hvr, hblk, hon⟩ := hrel
                have HR := Lib.hid hr'
                have HDR := Lib.hid hdr
                have HVR := Lib.hid hvr
                have HB3 := Lib.hid hblk
                have HON3 := Lib.hid hon
                clear hr' hdr hvr hblk hon cun hfr
                have HPL : Hid (k < (p ++ s.drop k).length) := by rw [Hid, List.length_append, HP.out, List.length_drop]; omega
                by_cases hlt3 : j < k
                · have cvj : wr.cell? ⟨gv, ov + j, none⟩ = some (.int .u64 (limb v j : Nat)) := by
                    have hk : j < v.length := by have := HV.out; omega
                    obtain ⟨_, _, hA, _, hc⟩ := (SV.out.only HON3.out HNE.out).at_ (u64s_get hk)
                    injection hA with hA; injection hA with h1 h2; subst h1 h2
                    rw [hc, limb_of hk]
                  have epj : limb (p ++ s.drop k) j = limb p j := by
                    unfold limb
                    rw [List.getD_eq_getElem?_getD, List.getD_eq_getElem?_getD, List.getElem?_append_left (by rw [HP.out]; exact hlt3)]
                  have cuj : wr.cell? ⟨g, o + j, none⟩ = some (.int .u64 (limb p j : Nat)) := by
                    rw [part_cell HB3.out HO.out (by rw [List.length_append, HR.out, List.length_drop]; have := HPL.out; omega), limb_rest HR.out, epj]
                  have hfr3 := HB3.out.frozen (o + j)
                  have bvj := DV.out.getD j
                  have bpj := HDP.out.getD j
                  unfold B9 at bvj bpj
                  obtain ⟨t, ht⟩ : ∃ t, t = limb p j + limb v j + d := ⟨_, rfl⟩
                  have HA := Lib.hid (add_round HR.out HVR.out ht)
                  have HTT := Lib.hid ht
                  clear ht epj
                  go_wp2
                  go_roundw
                  case rel =>
                    refine ⟨j + 1, t / B9, r' ++ [t % B9], by omega, by go_num, congrArg _ (by rw [HTT.out]; unfold B9; omega), by rw [HTT.out]; unfold B9; omega, by simp [HR.out], HDR.out.snoc (Nat.mod_lt _ (by decide)), HA.out, ?_, HON3.out.set_ _ _⟩
                    exact part_set HB3.out HO.out HR.out (by have := HPL.out; omega) (by rw [HTT.out]; unfold B9; omega)
                  case measure => simp [intOf]; omega
                · obtain rfl : j = k := by omega
                  have HBK2 := Lib.hid (take_back HV.out HUL.out HP.out HR.out HDR.out DV.out HUP.out HNEAR.out HVP.out (by rw [limb_take (by omega), HU0.out]; omega) HDP.out HVR.out)
                  have hcd : u0 + d = c := by have := HBK2.out.2.2.2; rw [limb_take (by omega), HU0.out] at this; exact this
                  have cun : wr.cell? ⟨g, o + j, none⟩ = some (.int .u64 (u0 : Nat)) := by
                    rw [part_cell HB3.out HO.out (by rw [List.length_append, HR.out, List.length_drop]; have := HPL.out; omega), limb_rest HR.out, limb_rest HP.out, HU0.out]
                  have hfr3 := HB3.out.frozen (o + j)
                  have hq1 := HBK2.out.1
                  have HCD := Lib.hid hcd
                  clear hcd
                  go_wp2
                  go_ret
                  refine ⟨ret_int (by rw [HBK2.out.2.1]; omega), r' ++ [0], by simp [HR.out], HDR.out.snoc (by decide), ?_, ?_, HON3.out.set_ _ _⟩
                  · rw [val_snoc, HBK2.out.2.2.1]; simp
                  · have e0 : (p ++ s.drop j).drop (j + 1) = s.drop (j + 1) := by
                      rw [List.drop_append, List.drop_of_length_le (by have := HP.out; omega), HP.out, List.nil_append, List.drop_drop]
                      congr 1
                      omega
                    rw [← e0]
                    refine part_set HB3.out HO.out HR.out (by have := HPL.out; omega) ?_
                    have := HCD.out
                    rw [IntKind.wrap_u64, IntKind.wrap_u64]
                    omega
end Go.Proofs.YthalpbjkkfkheaaGreatDoor
/- limbs: divide. -/
namespace Go.Proofs.YthalpbjkkfkheaaGreatDoor
open Go.RowKit

/-- what divide leaves -/
def Divided (a b : List Nat) (w : World) (e : Ending) (w' : World) : Prop :=
  ∃ Aq lq cq Ar lr cr, e = .returned (.tuple #[.slice Aq lq.length cq, .slice Ar lr.length cr]) ∧ lq.length ≤ cq ∧ lr.length ≤ cr ∧ Canon lq ∧ Canon lr ∧ val lq = val a / val b ∧ val lr = val a % val b ∧ Lm w' Aq lq ∧ Lm w' Ar lr ∧ Ext w w'

set_option maxRecDepth 100000 in
set_option maxHeartbeats 8000000 in
theorem divide_less (A1 A2 : Option Addr) (c1 c2 : Nat) (a b : List Nat) (w : World) (h1 : a.length ≤ 10000000) (h2 : b.length ≤ 10000000) (ca : Canon a) (cb : Canon b) (hl1 : a.length ≤ c1) (s1 : Lm w A1 a) (s2 : Lm w A2 b) (hlt : val a < val b) :
    Calls Tryz.prog 109 #[.slice A1 a.length c1, .slice A2 b.length c2] w (Divided a b w) := by
  have S1 := Lib.hid s1
  have S2 := Lib.hid s2
  have CA := Lib.hid ca
  have CB := Lib.hid cb
  have HLT := Lib.hid hlt
  have hcm := cmpN_lt hlt
  have HCM := Lib.hid (compare_any A1 A2 c1 c2 a b w (by omega) (by omega) ca cb s1 s2)
  rw [hcm] at HCM
  clear s1 s2 ca cb hcm hlt
  go_enter Tryz.func109, Tryz.ntmps109
  go_wp2_with fail
  refine HCM.out.mono ?_
  rintro e w' ⟨rfl, k, rfl⟩
  go_wp2
  go_ret2
  refine ⟨none, [], 0, A1, a, c1, rfl, by simp, hl1, Canon.nil, CA.out, ?_, ?_, Sl.nil, S1.out, (Ext.refl w).drewN k⟩
  · rw [Nat.div_eq_of_lt HLT.out]; rfl
  · rw [Nat.mod_eq_of_lt HLT.out]

set_option maxRecDepth 100000 in
set_option maxHeartbeats 8000000 in
theorem divide_one (A1 A2 : Option Addr) (c1 c2 : Nat) (a b : List Nat) (w : World) (h1 : a.length ≤ 10000000) (ca : Canon a) (cb : Canon b) (s1 : Lm w A1 a) (s2 : Lm w A2 b) (hle : val b ≤ val a) (hb1 : b.length = 1) :
    Calls Tryz.prog 109 #[.slice A1 a.length c1, .slice A2 b.length c2] w (Divided a b w) := by
  have HCM := Lib.hid (compare_any A1 A2 c1 c2 a b w (by omega) (by omega) ca cb s1 s2)
  obtain ⟨d, rfl⟩ : ∃ d, b = [d] := by
    match b, hb1 with
    | [d], _ => exact ⟨d, rfl⟩
  obtain ⟨g, o, rfl, _, hcell⟩ := s2.at_ (u64s_get (show 0 < [d].length by simp))
  simp only [List.getElem_cons_zero, Nat.add_zero] at hcell
  have hd9 : d < 1000000000 := cb.1.head
  have hd0 : 0 < d := by
    have := cb.2
    unfold NoZ at this
    simp at this
    omega
  have hvd : val [d] = d := by simp
  have hcm : decide (cmpN (val a) (val [d]) < 0) = false := by
    unfold cmpN
    rw [if_neg (by omega)]
    split <;> rfl
  have S1 := Lib.hid s1
  have CA := Lib.hid ca
  have HVD := Lib.hid hvd
  clear s1 s2 ca cb hle hb1 hvd
  simp only [List.length_cons, List.length_nil, Nat.zero_add] at *
  go_enter Tryz.func109, Tryz.ntmps109
  go_wp2_with fail
  refine HCM.out.mono ?_
  rintro e w' ⟨rfl, k, rfl⟩
  generalize cmpN (val a) (val [d]) = cm at *
  go_wp2_with fail
  refine (short_any A1 c1 a d (w.drewN k) (by omega) CA.out.1 hd0 hd9 S1.out).mono ?_
  rintro e w1 ⟨r, c, hrc, rfl, cr, hvr, hsr, hx⟩
  have hmd : val a % d < d := Nat.mod_lt _ hd0
  generalize hm : val a % d = m at *
  have HM := Lib.hid hm
  have HVR := Lib.hid hvr
  clear hm hvr
  go_wp2_with fail
  refine (trim_at (some ⟨w1.heap.size, 0, none⟩) 1 1 [m] _ rfl (by omega) (by omega) (Dig.cons (by unfold B9; omega) Dig.nil) (Sl.new w1 47 #[.int .u64 m])).mono ?_
  rintro e w' ⟨r', hr', rfl, cr', hv', hs', rfl⟩
  go_wp2
  go_ret2
  refine ⟨_, r, c, _, r', 1, rfl, hrc, hr', cr, cr', ?_, ?_, hsr.ext ((Ext.refl w1).alloc _), hs', ?_⟩
  · rw [HVD.out, HVR.out]
  · rw [hv', HVD.out, HM.out]; simp
  · exact (Ext.trans (((Ext.refl w).drewN k)) hx).alloc _

/-- the general case -/
def Setup (a b : List Nat) (f : Nat) : Prop := Canon a ∧ Canon b ∧ 2 ≤ b.length ∧ val b ≤ val a ∧ f = B9 / (limb b (b.length - 1) + 1)

set_option maxRecDepth 100000 in
set_option maxHeartbeats 8000000 in
theorem divide_long (A1 A2 : Option Addr) (c1 c2 : Nat) (a b : List Nat) (w : World) (h1 : a.length ≤ 10000000) (ca : Canon a) (cb : Canon b) (s1 : Lm w A1 a) (s2 : Lm w A2 b) (hle : val b ≤ val a) (hb2 : 2 ≤ b.length) :
    Calls Tryz.prog 109 #[.slice A1 a.length c1, .slice A2 b.length c2] w (Divided a b w) := by
  have hbl := length_le_of_val ca cb hle
  have HCM := Lib.hid (compare_any A1 A2 c1 c2 a b w (by omega) (by omega) ca cb s1 s2)
  have hcm : decide (cmpN (val a) (val b) < 0) = false := by
    unfold cmpN
    rw [if_neg (by omega)]
    split <;> rfl
  have hbne : ((b.length : Int) == 1) = false := beq_eq_false_iff_ne.2 (by omega)
  have hkb : b.length - 1 < b.length := by omega
  obtain ⟨g, o, rfl, _, hcell⟩ := s2.at_ (u64s_get hkb)
  rw [← limb_of hkb] at hcell
  have hx0 : 0 < limb b (b.length - 1) := by
    have := cb.2.last (by omega)
    rw [limb_of hkb]
    omega
  have hx9 := cb.1.getD (b.length - 1)
  obtain ⟨f, hf⟩ : ∃ f, f = B9 / (limb b (b.length - 1) + 1) := ⟨_, rfl⟩
  have hf1 : 0 < f := by rw [hf]; exact Nat.div_pos (by omega) (by omega)
  have hf9 : f < 1000000000 := by
    rw [hf, Nat.div_lt_iff_lt_mul (by omega)]
    unfold B9; omega
  have hfi : (1000000000 : Int) / ((limb b (b.length - 1) : Int) + 1) = f := by
    rw [hf]; unfold B9; simp
  have HFI := Lib.hid hfi
  have HF := Lib.hid hf
  have S1 := Lib.hid s1
  have S2 := Lib.hid s2
  have CA := Lib.hid ca
  have CB := Lib.hid cb
  have HLE := Lib.hid hle
  clear s1 s2 ca cb hle hf hfi
  unfold B9 at hx9
  have hmk := make_nat1 a.length (a.length + 1) rfl (by omega)
  go_enter Tryz.func109, Tryz.ntmps109
  go_wp2_with fail
  refine HCM.out.mono ?_
  rintro e w' ⟨rfl, k, rfl⟩
  generalize cmpN (val a) (val b) = cm at *
  go_upto_region 7 with fail
  rw [HFI.out]
  have hW1 : Ext w ((w.drewN k).alloc (Obj.cells #[Value.int IntKind.u64 f] 47)) := (((Ext.refl w).drewN k)).alloc _
  have hWf : Lm ((w.drewN k).alloc (Obj.cells #[Value.int IntKind.u64 f] 47)) (some ⟨w.heap.size, 0, none⟩) [f] := Sl.new (w.drewN k) 47 #[.int .u64 f]
  have hWs : ((w.drewN k).alloc (Obj.cells #[Value.int IntKind.u64 f] 47)).heap.size = w.heap.size + 1 := by simp
  generalize (w.drewN k).alloc (Obj.cells #[Value.int IntKind.u64 f] 47) = W at *
  have hW2 : w.heap.size + 1 ≤ W.heap.size := by omega
  clear hWs
  have HW := Lib.hid hW1
  have HWF := Lib.hid hWf
  clear hW1 hWf hcell hcm
  go_cut [9, 10] (fun s9 s10 wx => ∃ gu gv v cv, gu ≠ gv ∧ w.heap.size + 1 ≤ gu ∧ s9 = .slice (some ⟨gu, 0, none⟩) (a.length + 1) (a.length + 1) ∧ s10 = .slice (some ⟨gv, 0, none⟩) v.length cv ∧ Canon v ∧ val v = val b * f ∧ Lm wx (some ⟨gv, 0, none⟩) v ∧ Blk wx gu 47 (u64s (pad [] (a.length + 1))) ∧ Ext W wx)
  case first =>
    have hwa : IntKind.i64.wrap ((a.length : Int) + 1) = a.length + 1 := IntWalk.i64_in _ (by omega)
    go_region_with (go_at_call 125; refine (mul_any _ _ _ _ b [f] _ (by omega) (by simp) CB.out.1 (Dig.cons (by unfold B9; omega) Dig.nil) (by exact S2.out.ext (HW.out.trans (by first | exact (Ext.refl W).drew | exact ((Ext.refl W).alloc _).drew | exact ((Ext.refl W).drew).alloc _))) (by exact HWF.out.ext (by first | exact (Ext.refl W).drew | exact ((Ext.refl W).alloc _).drew | exact ((Ext.refl W).drew).alloc _))).mono ?_; rintro e w1 ⟨v, cv, hcv, rfl, hv, hvv, hsv, hx⟩)
    all_goals (go_wp2_with fail; go_meet)
    all_goals have hvv' : val v = val b * f := by rw [hvv]; simp
    · refine ⟨W.heap.size, W.heap.size + 1, v, cv, by omega, hW2, rfl, rfl, hv, hvv', ?_, ?_, ?_⟩
      · have e : (W.alloc (Obj.cells (u64s (pad [] (a.length + 1))).toArray 47)).drew.heap.size = W.heap.size + 1 := by show (W.alloc _).heap.size = _; simp
        rw [e] at hsv
        exact hsv
      · exact (Blk.new W 47 (u64s (pad [] (a.length + 1)))).drew.ext hx
      · exact Ext.trans (((Ext.refl W).alloc _).drew) hx
    · have hx0 : Ext W w1 := Ext.trans ((Ext.refl W).drew) hx
      have hlt : W.heap.size < w1.heap.size := by
        obtain ⟨g', _, hA, hg', _⟩ := hsv.at_ (k := 0) (u64s_get (show 0 < v.length by
          have := (norm_len CB.out rfl (by omega) HF.out hv hvv').1
          omega))
        injection hA with hA; injection hA with h1 h2
        have : W.drew.heap.size = W.heap.size := rfl
        omega
      refine ⟨w1.heap.size, W.heap.size, v, cv, by omega, by omega, rfl, rfl, hv, hvv', hsv.ext ((Ext.refl w1).alloc _), ?_, ?_⟩
      · exact Blk.new w1 47 (u64s (pad [] (a.length + 1)))
      · exact hx0.alloc _
  case rest =>
    obtain ⟨gu, gv, v, cv, hne, hgu, rfl, rfl, hcv, hvv, hsv, hbu, hxW⟩ := hcut
    clear hmk
    obtain ⟨hvl, hnorm⟩ := norm_len CB.out rfl (by omega) HF.out hcv hvv
    have HXW := Lib.hid (HW.out.trans hxW)
    have HFW := Lib.hid (HWF.out.ext hxW)
    have HSV := Lib.hid hsv
    have HBU := Lib.hid hbu
    have HCV := Lib.hid hcv
    have HVV := Lib.hid hvv
    have HVL := Lib.hid hvl
    have hvl1 : v.length ≤ b.length := by omega
    have hvl2 : b.length ≤ v.length := by omega
    clear hsv hbu hcv hvv hvl hxW
    go_wp2_with fail
    refine (mul_any _ _ _ _ a [f] wc (by omega) (by simp) CA.out.1 (Dig.cons (by unfold B9; omega) Dig.nil) (S1.out.ext HXW.out) HFW.out).mono ?_
    rintro e w2 ⟨r, cr, hrc, rfl, hr, hvr, hsr, hx2⟩
    have hvr' : val r = val a * f := by rw [hvr]; simp
    have hrl : r.length ≤ a.length + 1 := by
      rcases Nat.lt_or_ge (a.length + 1) r.length with h | h
      · exfalso
        have h3 := val_pos_of_noz hr.2 (by omega)
        have h4 := val_lt CA.out.1
        have h5 : B9 ^ (a.length + 1) ≤ B9 ^ (r.length - 1) := Nat.pow_le_pow_right (by decide) (by omega)
        have h6 : val a * f ≤ B9 ^ a.length * B9 := Nat.mul_le_mul (by omega) (by unfold B9; omega)
        have h7 : val a * f < B9 ^ a.length * B9 := by
          refine Nat.lt_of_lt_of_le (Nat.mul_lt_mul_of_pos_right h4 hf1) (Nat.mul_le_mul_left _ (by unfold B9; omega))
        rw [Nat.pow_succ] at h5
        omega
      · exact h
    have HLS := Lib.hid (long_start CA.out CB.out rfl rfl (by omega) hbl hf1 hr hrl hvr')
    have HSR := Lib.hid hsr
    have HX2 := Lib.hid hx2
    have hbu2 := HBU.out.ext hx2
    have HBU2 := Lib.hid hbu2
    clear hsr hx2 hvr hvr' hbu2
    obtain ⟨Qn, hQn⟩ : ∃ Qn, Qn + v.length = a.length + 1 := ⟨a.length + 1 - v.length, by omega⟩
    have hmk2 : ∀ w : World, (Instr.makeSlice 121 (.int .i64 ((a.length : Int) + 1 - v.length)) (.int .i64 ((a.length : Int) + 1 - v.length))).run Tryz.prog w = .ok (.slice (some ⟨w.heap.size, 0, none⟩) Qn Qn) (w.alloc (.cells (u64s (pad [] Qn)).toArray 47)) := by
      have e' : ((a.length : Int) + 1 - v.length) = (Qn : Int) := by omega
      rw [e']
      exact make_nat Qn (by omega)
    have HLS2 : Hid (Long (val a * f) (val v) v.length Qn (pad r (a.length + 1)) []) := by
      have := HLS.out
      rw [Hid, HVV.out]
      have e1 : a.length + 1 - b.length = Qn := by have := HVL.out; omega
      rw [e1, ← HVL.out] at this
      exact this
    have hnorm' : 500000000 ≤ limb v (v.length - 1) := by rw [HVL.out]; exact hnorm
    have HNO := Lib.hid hnorm'
    have hq1 : Qn ≤ a.length := by omega
    have hq2 : a.length + 1 ≤ Qn + v.length := by omega
    have hq3 : Qn + v.length ≤ a.length + 1 := by omega
    have hn2 : 2 ≤ v.length := by omega
    have HQN := Lib.hid hQn
    clear hQn HLS hnorm hnorm'
    go_wp2_with ((with_reducible show wpList _ _ _ _ _ _); refine wpList_copyB rfl (.tmp 49) (.tmp 52) 121 121 rfl 47 Tryz.underlying121 (by kernel_rfl) gu 0 (a.length + 1) (a.length + 1) _ r.length cr rfl rfl 47 _ HBU2.out (u64s r) (by rw [u64s_length]; exact (Nat.min_eq_left hrl).symm) HSR.out (by rw [u64s_length, u64s_length, pad_length (by simp)]; omega) (by intro u hu; simp [u64s] at hu; obtain ⟨y, _, rfl⟩ := hu; rfl) ?_; intro w3 HB3 hon3)
    have HXW3 : Hid (Ext w w3) := (HXW.out.trans HX2.out).only hon3 (by omega)
    have HSV3 : Hid (Lm w3 (some ⟨gv, 0, none⟩) v) := (HSV.out.ext HX2.out).only hon3 (fun h => hne h.symm)
    have HFW3 : Hid (Lm w3 (some ⟨w.heap.size, 0, none⟩) [f]) := (HFW.out.ext HX2.out).only hon3 (by omega)
    have hb3 : Blk w3 gu 47 (u64s (pad r (a.length + 1))) := by
      have := HB3.out
      have e1 : (u64s (pad [] (a.length + 1))).take 0 ++ (u64s r ++ (u64s (pad [] (a.length + 1))).drop (0 + (u64s r).length)) = u64s (pad r (a.length + 1)) := by
        rw [List.take_zero, List.nil_append, Nat.zero_add, u64s_length, pad_nil, u64s, u64s, u64s, List.map_replicate, List.drop_replicate, pad, List.map_append, List.map_replicate]
      rwa [e1] at this
    have hgu3 : gu < w3.heap.size := hb3.lt
    have hgv3 : gv < w3.heap.size := by
      obtain ⟨g', _, hA, hg', _⟩ := HSV3.out.at_ (k := 0) (u64s_get (show 0 < v.length by omega))
      injection hA with hA; injection hA with h1 h2
      omega
    have HBK3 := Lib.hid hb3
    clear hb3 hmk2 HB3 hon3
    go_loopw [12] (fun i wr => ∃ (m : Int) (uw q : List Nat), -1 ≤ m ∧ m < Qn ∧ i = .int .i64 m ∧ uw.length = a.length + 1 ∧ q.length = Qn - (m + 1).toNat ∧ Long (val a * f) (val v) v.length (m + 1).toNat uw q ∧ Blk wr gu 47 (u64s uw) ∧ Blk wr w3.heap.size 47 (u64s (List.replicate (m + 1).toNat 0 ++ q)) ∧ Lm wr (some ⟨gv, 0, none⟩) v ∧ Lm wr (some ⟨w.heap.size, 0, none⟩) [f] ∧ Ext w wr) (fun i _ => (intOf i + 1).toNat)
    case atStart =>
      refine ⟨(Qn : Int) - 1, pad r (a.length + 1), [], by omega, by omega, rfl, pad_length hrl, ?_, ?_, HBK3.out.alloc _, ?_, HSV3.out.ext ((Ext.refl w3).alloc _), HFW3.out.ext ((Ext.refl w3).alloc _), HXW3.out.alloc _⟩
      · simp
      · have e1 : ((Qn : Int) - 1 + 1).toNat = Qn := by omega
        rw [e1]; exact HLS2.out
      · have e1 : ((Qn : Int) - 1 + 1).toNat = Qn := by omega
        rw [e1, List.append_nil, ← pad_nil]; exact Blk.new _ _ _
    case round =>
      obtain ⟨m, uw, q, hm1, hm2, rfl, hul, hql, hlong, hbu3, hbq, hsv3, hfw3, hxw3⟩ := hrel
      have HUL := Lib.hid hul
      have HQL := Lib.hid hql
      have HLO := Lib.hid hlong
      have HBU3 := Lib.hid hbu3
      have HBQ := Lib.hid hbq
      have HSV4 := Lib.hid hsv3
      have HFW4 := Lib.hid hfw3
      have HXW4 := Lib.hid hxw3
      clear hul hql hlong hbu3 hbq hsv3 hfw3 hxw3
      have hV0 : 0 < val v := val_pos HCV.out (by intro h; rw [h] at hn2; simp at hn2)
      by_cases h0 : 0 ≤ m
      · obtain ⟨j, rfl⟩ : ∃ j : Nat, m = j := ⟨m.toNat, by omega⟩
        have hk1 : ((j : Int) + 1).toNat = j + 1 := by omega
        have HQL' := Lib.hid (hk1 ▸ HQL.out)
        have HLO' := Lib.hid (hk1 ▸ HLO.out)
        have HBQ' := Lib.hid (hk1 ▸ HBQ.out)
        clear hk1 HQL HLO HBQ
        have hjl : j < uw.length := by have := HUL.out; omega
        have hwin := long_window HLO'.out hjl
        have HBS : Hid (Blk wr gu 47 (u64s (uw.take j ++ uw.drop j))) := by rw [Hid, List.take_append_drop]; exact HBU3.out
        have htl : (uw.take j).length = j := by rw [List.length_take]; omega
        have hdl : v.length + 1 ≤ (uw.drop j).length := by rw [List.length_drop]; have := HUL.out; omega
        have HST := Lib.hid (step_any gu j v.length (a.length + 1 - j) cv gv 0 (uw.take j) (uw.drop j) v wr hn2 (by omega) htl hdl (HLO'.out.dig.drop j) HBS.out rfl HCV.out.1 HSV4.out (fun h => hne h.symm) HNO.out hwin)
        have HQ9 : Hid (val ((uw.drop j).take (v.length + 1)) / val v < B9) := by rw [Hid, Nat.div_lt_iff_lt_mul hV0]; exact hwin
        have HUL2 : Hid (j + v.length + 1 ≤ uw.length) := by have := HUL.out; unfold Hid; omega
        have HHW := Lib.hid hwin
        have HTL := Lib.hid htl
        clear hwin htl hdl hjl
        go_wp2_with fail
        rw [show j + v.length + 1 - j = v.length + 1 from by omega]
        refine HST.out.mono ?_
        rintro e w5 ⟨rfl, u', hu'l, hu'd, hu'v, hb5, hon5⟩
        have HLR := Lib.hid (long_round HLO'.out HUL2.out hu'l hu'd (val_lt HCV.out.1) hV0 hu'v)
        rw [List.drop_drop] at hb5
        have HB5 := Lib.hid hb5
        have HBQ5 := Lib.hid (HBQ'.out.only hon5 (by omega))
        have HSV5 := Lib.hid (HSV4.out.only hon5 (fun h => hne h.symm))
        have HFW5 := Lib.hid (HFW4.out.only hon5 (by omega))
        have HXW5 : Hid (Ext w w5) := HXW4.out.only hon5 (by omega)
        have HUL5 : Hid ((uw.take j ++ (u' ++ uw.drop (j + (v.length + 1)))).length = a.length + 1) := by
          rw [Hid, List.length_append, List.length_append, HTL.out, hu'l, List.length_drop, HUL.out]; omega
        clear hu'l hu'd hu'v hb5 hon5
        have hqi := HQ9.out
        unfold B9 at hqi
        generalize val ((uw.drop j).take (v.length + 1)) / val v = qj at *
        generalize uw.take j ++ (u' ++ uw.drop (j + (v.length + 1))) = uw' at *
        have hcellq : w5.cell? ⟨w3.heap.size, j, none⟩ = some (.int .u64 (0 : Nat)) := by
          have e1 : List.replicate (j + 1) 0 ++ q = List.replicate j 0 ++ (0 :: q) := by rw [List.replicate_succ']; simp
          have := limb_at (i := j) HBQ5.out (by simp; omega)
          rw [this, e1, limb_mid _ _ _ _ (by simp)]
        have hfrq := HBQ5.out.frozen j
        have hw3w : w.heap.size ≤ w3.heap.size := HXW3.out.size
        go_wp2
        go_roundw
        case rel =>
          refine ⟨(j : Int) - 1, uw', qj :: q, by omega, by omega, by go_num, HUL5.out, ?_, ?_, HB5.out.far (by show gu ≠ w3.heap.size; omega) _, ?_, HSV5.out.only ((Only.refl _ _).set_ _ _) (by omega), HFW5.out.only ((Only.refl _ _).set_ _ _) (by omega), HXW5.out.setCell hw3w _⟩
          · have := HQL'.out
            rw [List.length_cons]; omega
          · have e1 : ((j : Int) - 1 + 1).toNat = j := by omega
            rw [e1]; exact HLR.out
          · have e1 : ((j : Int) - 1 + 1).toNat = j := by omega
            have e3 : List.replicate (j + 1) 0 ++ q = List.replicate j 0 ++ (0 :: q) := by rw [List.replicate_succ']; simp
            have := limb_set (i := j) (x := qj) (z := (qj : Int)) HBQ5.out rfl
            rw [e3, set_mid _ _ _ _ _ (by simp)] at this
            rw [e1]
            exact this
        case measure => simp [intOf]
      · obtain rfl : m = -1 := by omega
        have hlo := HLO.out
        have hql := HQL.out
        have hbq := HBQ.out
        simp only [Int.reduceNeg, Int.reduceAdd, Int.toNat_zero, List.replicate_zero, List.nil_append, Nat.sub_zero] at hlo hql hbq
        have hlo2 : Long (val a * f) (val b * f) v.length 0 uw q := by rw [← HVV.out]; exact hlo
        have hb0 : 0 < val b := val_pos CB.out (by intro h; rw [h] at hb2; simp at hb2)
        have HLE2 := Lib.hid (long_end hb0 hf1 hlo2)
        have HLO3 := Lib.hid hlo
        have HQL3 := Lib.hid hql
        have HBQ3 := Lib.hid hbq
        clear hlo hql hbq hlo2 HLO HQL HBQ
        have hsu : Lm wr (some ⟨gu, 0, none⟩) (uw.take v.length) := by
          have := (HBU3.out.sl 0).take v.length
          rw [List.drop_zero, u64s_take] at this
          exact this
        have hul : (uw.take v.length).length = v.length := by rw [List.length_take, HUL.out]; omega
        have HTR := Lib.hid (trim_at (some ⟨gu, 0, none⟩) (a.length + 1) v.length (uw.take v.length) wr hul (by omega) (by omega) (HLO3.out.dig.take _) hsu)
        have hcf : wr.cell? ⟨w.heap.size, 0, none⟩ = some (.int .u64 f) := by
          obtain ⟨_, _, hA, _, hc⟩ := HFW4.out.at_ (k := 0) (u64s_get (show 0 < [f].length by simp))
          injection hA with hA; injection hA with h1 h2; subst h1 h2
          simpa using hc
        have hsq : Lm wr (some ⟨w3.heap.size, 0, none⟩) q := by
          have := HBQ3.out.sl 0
          rwa [List.drop_zero] at this
        have HSQ := Lib.hid hsq
        clear hsu hul hsq
        go_wp2_with fail
        go_region_with (first | (go_at_call 100; refine (trim_at (some ⟨gu, 0, none⟩) (a.length + 1) v.length (uw.take v.length) _ (by rw [List.length_take, HUL.out]; omega) (by omega) (by omega) (HLO3.out.dig.take _) (by exact (show Lm wr (some ⟨gu, 0, none⟩) (uw.take v.length) from by have := (HBU3.out.sl 0).take v.length; rw [List.drop_zero, u64s_take] at this; exact this))).mono ?_; rintro e w6 ⟨r6, hr6, rfl, hc6, hv6, hs6, rfl⟩) | (go_at_call 124; refine (short_any _ _ r6 f _ (by omega) hc6.1 hf1 hf9 hs6).mono ?_; rintro e w7 ⟨r7, c7, hrc7, rfl, hc7, hv7, hs7, hx7⟩))
        all_goals
          go_wp2_with fail
          have hx8 : Ext wr w7 := ⟨hx7.os, hx7.tape, hx7.output, hx7.size, hx7.block⟩
          refine (trim_at (some ⟨w3.heap.size, 0, none⟩) Qn Qn q w7 HQL3.out (Nat.le_refl _) (by omega) HLO3.out.qdig (HSQ.out.ext hx8)).mono ?_
          rintro e w8 ⟨r8, hr8, rfl, hc8, hv8, hs8, rfl⟩
          have HV7 := Lib.hid hv7
          have HV6 := Lib.hid hv6
          have HV8 := Lib.hid hv8
          clear hv7 hv6 hv8
          go_wp2
          go_ret2
          exact ⟨_, r8, Qn, _, r7, c7, rfl, hr8, hrc7, hc8, hc7, HV8.out.trans HLE2.out.1, by rw [HV7.out, HV6.out]; exact HLE2.out.2.1, hs8, hs7, HXW4.out.trans hx8⟩

/-- divide, whatever the case -/
theorem divide_any (A1 A2 : Option Addr) (c1 c2 : Nat) (a b : List Nat) (w : World) (h1 : a.length ≤ 10000000) (h2 : b.length ≤ 10000000) (ca : Canon a) (cb : Canon b) (hl1 : a.length ≤ c1) (s1 : Lm w A1 a) (s2 : Lm w A2 b) (hb : b ≠ []) :
    Calls Tryz.prog 109 #[.slice A1 a.length c1, .slice A2 b.length c2] w (Divided a b w) := by
  rcases Nat.lt_or_ge (val a) (val b) with h | h
  · exact divide_less A1 A2 c1 c2 a b w h1 h2 ca cb hl1 s1 s2 h
  · rcases Nat.lt_or_ge b.length 2 with hl | hl
    · have : b.length ≠ 0 := fun h => hb (List.eq_nil_of_length_eq_zero h)
      exact divide_one A1 A2 c1 c2 a b w h1 ca cb s1 s2 h (by omega)
    · exact divide_long A1 A2 c1 c2 a b w h1 ca cb s1 s2 h hl
end Go.Proofs.YthalpbjkkfkheaaGreatDoor
/- limbs: small, gcd; a natural number as a value. -/
namespace Go.Proofs.YthalpbjkkfkheaaGreatDoor
open Go.RowKit

/-- the value v is the natural number n -/
def NatV (w : World) (v : Value) (n : Nat) : Prop := ∃ A c, v = .slice A (toL n).length c ∧ (toL n).length ≤ c ∧ Lm w A (toL n)
theorem NatV.ext {w w' : World} {v : Value} {n : Nat} (h : NatV w v n) (hx : Ext w w') : NatV w' v n := by
  obtain ⟨A, c, rfl, hc, hs⟩ := h
  exact ⟨A, c, rfl, hc, hs.ext hx⟩
theorem NatV.keep {w w' : World} {v : Value} {n : Nat} (h : NatV w v n) (hx : Kept 47 w w') : NatV w' v n := by
  obtain ⟨A, c, rfl, hc, hs⟩ := h
  exact ⟨A, c, rfl, hc, hs.keep hx⟩
theorem NatV.mk' {w : World} {A : Option Addr} {r : List Nat} {c n : Nat} (hr : Canon r) (hv : val r = n) (hc : r.length ≤ c) (hs : Lm w A r) : NatV w (.slice A r.length c) n := by
  subst hv
  have := toL_val hr
  exact ⟨A, c, by rw [this], by rw [this]; exact hc, by rw [this]; exact hs⟩
/-- numbers of at most about nine million digits -/
def Fit (n : Nat) : Prop := (toL n).length ≤ 1000000
theorem Fit.of_lt {n e : Nat} (h : n < 10 ^ e) (he : e ≤ 8000000) : Fit n := by
  have := toL_length_le h
  unfold Fit; omega
theorem Fit.le {m n : Nat} (h : Fit n) (hm : m ≤ n) : Fit m := by
  have := length_le_of_val (toL_canon n) (toL_canon m) (by rw [val_toL, val_toL]; exact hm)
  unfold Fit at *; omega

set_option maxRecDepth 100000 in
set_option maxHeartbeats 2000000 in
theorem small_any (A : Option Addr) (c : Nat) (l : List Nat) (w : World) (hl : l.length ≤ 2) (d : Dig l) (hs : Lm w A l) :
    Calls Tryz.prog 96 #[.slice A l.length c] w fun e w' => e = .returned (.int .u64 (val l : Nat)) ∧ w = w' := by
  have HS := Lib.hid hs
  have h0 := d.getD 0
  have h1 := d.getD 1
  have hv : val l = limb l 1 * 1000000000 + limb l 0 := by
    have e1 := val_take_getD l 0
    have e2 := val_take_getD l 1
    rw [List.take_of_length_le (show l.length ≤ 1 + 1 by omega), e1] at e2
    rw [e2]
    simp only [List.take_zero, val_nil, Nat.pow_zero, Nat.pow_one, B9]
    omega
  unfold B9 at h0 h1
  have HV := Lib.hid hv
  clear hs hv
  go_enter Tryz.func96, Tryz.ntmps96
  go_wp2_with fail
  refine (at_any A c l 1 w (by omega) (by omega) HS.out).mono ?_
  rintro e w' ⟨rfl, rfl⟩
  go_wp2_with fail
  refine (at_any A c l 0 w (by omega) (by omega) HS.out).mono ?_
  rintro e w' ⟨rfl, rfl⟩
  go_wp2
  go_ret
  exact ⟨ret_int (by rw [HV.out]; omega), rfl⟩

/-- Euclid's rounds on words, then the limbs of the result -/
theorem words_limbs (x : Nat) (hx : x < 1000000000000000000) : Dig [x % B9, x / B9] ∧ val [x % B9, x / B9] = x := by
  refine ⟨Dig.cons (Nat.mod_lt _ (by decide)) (Dig.cons (by unfold B9; omega) Dig.nil), ?_⟩
  simp only [val_cons, val_nil, Nat.mul_zero, Nat.add_zero]
  exact Nat.mod_add_div x B9

set_option maxRecDepth 100000 in
set_option maxHeartbeats 8000000 in
theorem gcd_any (va vb : Value) (a b : Nat) (w : World) (fa : Fit a) (fb : Fit b) (ha : NatV w va a) (hb : NatV w vb b) :
    Calls Tryz.prog 101 #[va, vb] w fun e w' => ∃ v, e = .returned v ∧ NatV w' v (Nat.gcd a b) ∧ Ext w w' := by
  have HA := Lib.hid ha
  have HB := Lib.hid hb
  have FA := Lib.hid fa
  have FB := Lib.hid fb
  clear ha hb fa fb
  go_enter Tryz.func101, Tryz.ntmps101
  go_wp2
  go_loopg [0, 1, 5, 6] b (fun k sa sb _ _ wr => ∃ x y : Nat, k = y ∧ Fit x ∧ Fit y ∧ NatV wr sa x ∧ NatV wr sb y ∧ Nat.gcd x y = Nat.gcd a b ∧ Ext w wr)
  case atStart => exact ⟨a, b, rfl, FA.out, FB.out, HA.out, HB.out, rfl, Ext.refl w⟩
  case round =>
    obtain ⟨x, y, rfl, fx, fy, hx, hy, hg, hext⟩ := hrel
    obtain ⟨Ax, cx, rfl, hcx, sx⟩ := hx
    obtain ⟨Ay, cy, rfl, hcy, sy⟩ := hy
    have FX := Lib.hid fx
    have FY := Lib.hid fy
    have SX := Lib.hid sx
    have SY := Lib.hid sy
    have HG := Lib.hid hg
    have HX := Lib.hid hext
    unfold Fit at fx fy
    clear sx sy hg hext
    by_cases hy2 : 2 < (toL gk).length
    · go_wp2_with fail
      refine (divide_any Ax Ay cx cy (toL x) (toL gk) wr (by omega) (by omega) (toL_canon x) (toL_canon gk) hcx SX.out SY.out (by intro h; rw [h] at hy2; simp at hy2)).mono ?_
      rintro e w1 ⟨Aq, lq, cq, Ar, lr, cr, rfl, hcq, hcr, cq', cr', hvq, hvr, sq, sr, hx1⟩
      rw [val_toL, val_toL] at hvr
      have hpos : 0 < gk := by
        rcases Nat.eq_zero_or_pos gk with h | h
        · subst h; simp [toL_zero] at hy2
        · exact h
      have hlt : x % gk < gk := Nat.mod_lt _ hpos
      have HVR := Lib.hid hvr
      clear hvr hvq
      go_wp2
      go_roundg (x % gk)
      case measure => exact hlt
      case rel => exact ⟨gk, x % gk, rfl, FY.out, FY.out.le (by omega), ⟨Ay, cy, rfl, hcy, SY.out.ext hx1⟩, .mk' cr' HVR.out hcr sr, by rw [← HG.out, Nat.gcd_comm x gk, Nat.gcd_rec gk x, Nat.gcd_comm], HX.out.trans hx1⟩
    · by_cases hy0 : gk = 0
      · subst hy0
        have hz : ((toL 0).length : Int) = 0 := rfl
        have hb1 : (((toL 0).length : Int) == 0) = true := rfl
        have hb2 : decide ((2 : Int) < ((toL 0).length : Int)) = false := rfl
        have HE : Hid (x = Nat.gcd a b) := by rw [Hid, ← HG.out, Nat.gcd_zero_right]
        clear hz
        go_wp2
        go_ret
        refine ⟨_, rfl, ?_, HX.out⟩
        rw [← HE.out]
        exact ⟨Ax, cx, rfl, hcx, SX.out⟩
      · have hyl : 0 < (toL gk).length := by
          rcases Nat.eq_zero_or_pos (toL gk).length with h | h
          · exact absurd (toL_eq_nil.1 (List.eq_nil_of_length_eq_zero h)) hy0
          · exact h
        have hb1 : (((toL gk).length : Int) == 0) = false := beq_eq_false_iff_ne.2 (by omega)
        have hb3 : decide ((2 : Int) < ((toL gk).length : Int)) = false := decide_eq_false (by omega)
        have hgk18 : gk < 1000000000000000000 := by
          have h3 := val_lt (toL_canon gk).1
          rw [val_toL] at h3
          have h4 : B9 ^ (toL gk).length ≤ B9 ^ 2 := Nat.pow_le_pow_right (by decide) (by omega)
          have h5 : B9 ^ 2 = 1000000000000000000 := by decide
          omega
        by_cases hx2 : 2 < (toL x).length
        all_goals first
          | (have hb4 : decide ((2 : Int) < ((toL x).length : Int)) = true := decide_eq_true (by omega)
             go_wp2_with fail
             refine (divide_any Ax Ay cx cy (toL x) (toL gk) wr (by omega) (by omega) (toL_canon x) (toL_canon gk) hcx SX.out SY.out (by intro h; rw [h] at hyl; simp at hyl)).mono ?_
             rintro e w1 ⟨Aq, lq, cq, Ar, lr, cr, rfl, hcq, hcr, cq', cr', hvq, hvr, sq, sr, hx1⟩
             rw [val_toL, val_toL] at hvr
             have hlt : x % gk < gk := Nat.mod_lt _ (by omega)
             have hlr : lr.length ≤ 2 := by
               have := length_le_of_val (toL_canon gk) cr' (by rw [val_toL, hvr]; omega)
               omega
             have HVR := Lib.hid hvr
             clear hvr hvq
             go_wp2_with fail
             refine (small_any Ay cy (toL gk) w1 (by omega) (toL_canon gk).1 (SY.out.ext hx1)).mono ?_
             rintro e w' ⟨rfl, rfl⟩
             rw [val_toL]
             go_wp2_with fail
             refine (small_any Ar cr lr w1 (by omega) cr'.1 sr).mono ?_
             rintro e w' ⟨rfl, rfl⟩
             rw [HVR.out]
             have HXW : Hid (Ext w w1) := HX.out.trans hx1
             obtain ⟨X, hX⟩ : ∃ X, X = gk := ⟨_, rfl⟩
             obtain ⟨Y, hY⟩ : ∃ Y, Y = x % gk := ⟨_, rfl⟩
             have HXY : Hid (Nat.gcd X Y = Nat.gcd a b) := by rw [Hid, hX, hY, ← HG.out, Nat.gcd_comm x gk, Nat.gcd_rec gk x, Nat.gcd_comm]
             have hXb : X < 1000000000000000000 := by omega
             have hYb : Y < 1000000000000000000 := by rw [hY]; exact Nat.lt_trans hlt hgk18
             rw [← hY, ← hX]
             clear hX hY)
          | (have hb4 : decide ((2 : Int) < ((toL x).length : Int)) = false := decide_eq_false (by omega)
             go_wp2_with fail
             refine (small_any Ax cx (toL x) wr (by omega) (toL_canon x).1 SX.out).mono ?_
             rintro e w' ⟨rfl, rfl⟩
             rw [val_toL]
             go_wp2_with fail
             refine (small_any Ay cy (toL gk) wr (by omega) (toL_canon gk).1 SY.out).mono ?_
             rintro e w' ⟨rfl, rfl⟩
             rw [val_toL]
             obtain ⟨w1, hw1⟩ : ∃ w1, w1 = wr := ⟨_, rfl⟩
             have HXW : Hid (Ext w w1) := by rw [hw1]; exact HX.out
             rw [← hw1]
             obtain ⟨X, hX⟩ : ∃ X, X = x := ⟨_, rfl⟩
             obtain ⟨Y, hY⟩ : ∃ Y, Y = gk := ⟨_, rfl⟩
             have HXY : Hid (Nat.gcd X Y = Nat.gcd a b) := by rw [Hid, hX, hY]; exact HG.out
             have hXb : X < 1000000000000000000 := by
               have h3 := val_lt (toL_canon x).1
               rw [val_toL] at h3
               have h4 : B9 ^ (toL x).length ≤ B9 ^ 2 := Nat.pow_le_pow_right (by decide) (by omega)
               have h5 : B9 ^ 2 = 1000000000000000000 := by decide
               omega
             have hYb : Y < 1000000000000000000 := by omega
             rw [← hX, ← hY]
             clear hX hY hw1)
        all_goals
          clear hb1 hb3 hb4 hx2 hyl hy0 hy2 hgk18
          go_wp2
          go_loopw [9, 10] (fun p9 p10 wq => ∃ p q : Nat, p9 = .int .u64 p ∧ p10 = .int .u64 q ∧ p < 1000000000000000000 ∧ q < 1000000000000000000 ∧ Nat.gcd p q = Nat.gcd a b ∧ ∃ n, wq = w1.drewN n) (fun _ p10 _ => (intOf p10).toNat)
          case atStart => exact ⟨X, Y, rfl, rfl, hXb, hYb, HXY.out, 0, rfl⟩
          case round =>
            obtain ⟨p, q, rfl, rfl, hp, hq, hpq, n, rfl⟩ := hrel
            have HPQ := Lib.hid hpq
            clear hpq
            by_cases hq0 : q = 0
            · subst hq0
              have hl := words_limbs p hp
              have HE : Hid (p = Nat.gcd a b) := by rw [Hid, ← HPQ.out, Nat.gcd_zero_right]
              have HL := Lib.hid hl
              clear hl
              go_wp2_with fail
              have e1 : (p : Int) % 1000000000 = ((p % B9 : Nat) : Int) := by unfold B9; omega
              have e2 : (p : Int) / 1000000000 = ((p / B9 : Nat) : Int) := by unfold B9; omega
              rw [e1, e2]
              refine (trim_at (some ⟨w1.heap.size, 0, none⟩) 2 2 [p % B9, p / B9] _ rfl (by omega) (by omega) HL.out.1 (Sl.new (w1.drewN n) 47 #[.int .u64 ((p % B9 : Nat) : Int), .int .u64 ((p / B9 : Nat) : Int)])).mono ?_
              rintro e w' ⟨r', hr', rfl, hc', hv', hs', rfl⟩
              have HV' := Lib.hid (hv'.trans HL.out.2)
              clear hv' e1 e2
              go_wp2
              go_ret
              exact ⟨_, rfl, .mk' hc' (HV'.out.trans HE.out) hr' hs', (HXW.out.drewN n).alloc _⟩
            · have hne : ((q : Int) != 0) = true := by rw [bne_iff_ne]; omega
              go_wp2
              go_quiet (fail)
              go_wp2
              go_roundw
              case rel => exact ⟨q, p % q, rfl, congrArg _ (Int.natCast_emod p q).symm, hq, Nat.lt_trans (Nat.mod_lt p (by omega)) hq, by rw [← HPQ.out, Nat.gcd_comm p q, Nat.gcd_rec q p, Nat.gcd_comm], by first | exact drew1 _ _ | exact drew2 _ _ _⟩
              case measure =>
                simp only [intOf]
                rw [← Int.natCast_emod]
                simp only [Int.toNat_natCast]
                exact Nat.mod_lt p (by omega)
end Go.Proofs.YthalpbjkkfkheaaGreatDoor
