/- strconv.FormatUint at base 10. strings.Builder: copyCheck, WriteString (the shelf's contracts of these two fall at this dump). Lines turned from the kit's own proofs of the shelf. decimal texts: digits of a number with limbs, in plain Lean. limbs: Digits, String. limbs: String. decimal texts read back; the texts of fractions. Plain Lean. The arithmetic that the references' long integers use: the digit of a division between two estimates, texts from the last digit on. Plain Lean. limbs.Read: the number of a canonical text. integer.Valid, at canonical texts. strings.Cut at a separator of one byte (the variable MaxLen is not read). fraction.Read, Rat, Fits: the canonical texts. fraction: Rat, Fits. fraction.Fits, integer.Compare, rational.Valid, exact.Zero, exact.Read, exact.Text. exact.Zero, exact.Read, exact.Text. -/
import Derived.Test.YthalpbjkkfkheaaGreatDoorFrac
import Derived.Test.YthalpbjkkfkheaaGreatDoorShelf
import Derived.Lib.AppendIntMem
import Derived.Lib.Repeat
import Derived.Lib.ConvBytes
import Derived.Lib.AtoiErrMem
import Derived.Lib.CutLaws
import Derived.Lib.IndexBytes
import Derived.Lib.ParseIntB
import Derived.BigRegion
/- strconv.FormatUint at base 10. -/
namespace Go.Proofs.YthalpbjkkfkheaaGreatDoor
open Go.RowKit Go.Sort

/-- the table that numDigits reads -/
def Tab (w : World) : Prop := Lib.TabIs Tryz.prog w "internal/strconv.uint64pow10" .u64 Lib.pow10Tab

end Go.Proofs.YthalpbjkkfkheaaGreatDoor
/- strings.Builder: copyCheck, WriteString (the shelf's contracts of these two fall at this dump). Lines turned from the kit's own proofs of the shelf. -/
namespace Go.Proofs.YthalpbjkkfkheaaGreatDoor
open Go.RowKit

abbrev t8 : TypeId := 5
end Go.Proofs.YthalpbjkkfkheaaGreatDoor
/- decimal texts: digits of a number with limbs, in plain Lean. -/
namespace Go.Proofs.YthalpbjkkfkheaaGreatDoor
open Go.Lib

/-- the last k digits, zeros ahead -/
def padk : Nat → Nat → List UInt8
  | 0, _ => []
  | k + 1, x => padk k (x / 10) ++ [UInt8.ofNat (48 + x % 10)]
theorem padk_length (k x : Nat) : (padk k x).length = k := by
  induction k generalizing x with
  | zero => rfl
  | succ k ih => simp [padk, ih]
theorem dec_small {u : Nat} (h : u < 10) : decDigits u = [UInt8.ofNat (48 + u)] := by rw [decDigits]; simp [h]
theorem dec_big {u : Nat} (h : ¬ u < 10) : decDigits u = decDigits (u / 10) ++ [UInt8.ofNat (48 + u % 10)] := by rw [decDigits]; simp [h]
theorem dec_join (k h x : Nat) (hh : 0 < h) (hx : x < 10 ^ k) : decDigits (h * 10 ^ k + x) = decDigits h ++ padk k x := by
  induction k generalizing x with
  | zero =>
    have : x = 0 := by simpa using hx
    subst this
    simp [padk]
  | succ k ih =>
    have hp : 0 < 10 ^ k := Nat.pow_pos (by decide)
    have e : h * 10 ^ (k + 1) + x = 10 * (h * 10 ^ k) + x := by rw [Nat.pow_succ]; grind
    have hbig : ¬ h * 10 ^ (k + 1) + x < 10 := by
      rw [e]
      have := Nat.mul_le_mul hh hp
      omega
    have e1 : (h * 10 ^ (k + 1) + x) / 10 = h * 10 ^ k + x / 10 := by rw [e]; omega
    have e2 : (h * 10 ^ (k + 1) + x) % 10 = x % 10 := by rw [e]; omega
    rw [dec_big hbig, e1, e2, ih (x / 10) (by rw [Nat.pow_succ] at hx; omega)]
    simp [padk]
theorem padk_zero (k : Nat) : padk k 0 = List.replicate k 48 := by
  induction k with
  | zero => rfl
  | succ k ih =>
    rw [padk, Nat.zero_div, ih, List.replicate_succ']
    rfl
theorem nDigits_pos (u : Nat) : 0 < nDigits u := by rw [nDigits]; split <;> omega
theorem padk_eq (k x : Nat) (hx : x < 10 ^ (k + 1)) : nDigits x ≤ k + 1 ∧ padk (k + 1) x = List.replicate (k + 1 - nDigits x) 48 ++ decDigits x := by
  induction k generalizing x with
  | zero =>
    have h : x < 10 := by simpa using hx
    rw [nDigits_small h, dec_small h]
    refine ⟨Nat.le_refl _, ?_⟩
    have : x % 10 = x := Nat.mod_eq_of_lt h
    simp [padk, this]
  | succ k ih =>
    by_cases h : x < 10
    · rw [nDigits_small h, dec_small h]
      refine ⟨by omega, ?_⟩
      have h0 : x / 10 = 0 := by omega
      have h1 : x % 10 = x := by omega
      rw [padk, h0, h1, padk_zero]
      rfl
    · have hi := ih (x / 10) (by rw [Nat.pow_succ] at hx; omega)
      rw [nDigits_big h, dec_big h]
      refine ⟨by omega, ?_⟩
      rw [padk, hi.2, show k + 1 + 1 - (nDigits (x / 10) + 1) = k + 1 - nDigits (x / 10) by omega, List.append_assoc]
/-- a limb's text with zeros ahead -/
theorem pad9 {x : Nat} (hx : x < B9) : nDigits x ≤ 9 ∧ padk 9 x = List.replicate (9 - nDigits x) 48 ++ decDigits x := padk_eq 8 x (by unfold B9 at hx; exact hx)
/-- the text of limbs, the last one bare -/
def texts : List Nat → List UInt8
  | [] => []
  | x :: r => if r = [] then decDigits x else texts r ++ padk 9 x
theorem texts_val {l : List Nat} (h : Canon l) (h0 : l ≠ []) : texts l = decDigits (val l) := by
  induction l with
  | nil => exact absurd rfl h0
  | cons x r ih =>
    by_cases hr : r = []
    · subst hr; simp [texts]
    · rw [texts, if_neg hr, ih h.tail hr, val_cons, Nat.add_comm, Nat.mul_comm]
      exact (dec_join 9 (val r) x (val_pos h.tail hr) (by have := h.1.head; unfold B9 at this; exact this)).symm
theorem nDigits_join (k h x : Nat) (hh : 0 < h) (hx : x < 10 ^ k) : nDigits (h * 10 ^ k + x) = nDigits h + k := by
  rw [← decDigits_length, ← decDigits_length, dec_join k h x hh hx, List.length_append, padk_length]
end Go.Proofs.YthalpbjkkfkheaaGreatDoor
/- limbs: Digits, String. -/
namespace Go.Proofs.YthalpbjkkfkheaaGreatDoor
open Go.RowKit Go.Lib

theorem digits_limbs {l : List Nat} (h : Canon l) (h0 : l ≠ []) : nDigits (val l) = 9 * (l.length - 1) + nDigits (l.getLast h0) := by
  induction l with
  | nil => exact absurd rfl h0
  | cons x r ih =>
    by_cases hr : r = []
    · subst hr; simp
    · rw [val_cons, Nat.add_comm, Nat.mul_comm, List.getLast_cons hr]
      have := nDigits_join 9 (val r) x (val_pos h.tail hr) (by have := h.1.head; unfold B9 at this; exact this)
      have e : val r * B9 + x = val r * 10 ^ 9 + x := rfl
      rw [e, this, ih h.tail hr]
      have : r.length ≠ 0 := fun h => hr (List.eq_nil_of_length_eq_zero h)
      simp only [List.length_cons]
      omega
/-- the table at a later world -/
theorem Tab.ext {w w' : World} (h : Tab w) (hx : Ext w w') : Tab w' := by
  unfold Tab Lib.TabIs World.var? at *
  cases hg : Tryz.prog.globalNamed "internal/strconv.uint64pow10" with
  | none => simp [hg] at h
  | some g =>
    simp only [hg, Option.bind_some] at h ⊢
    have hlt : g < w.heap.size := by
      rcases Nat.lt_or_ge g w.heap.size with h' | h'
      · exact h'
      · simp [Array.getElem?_eq_none h'] at h
    rw [hx.block g hlt]
    exact h

end Go.Proofs.YthalpbjkkfkheaaGreatDoor
/- limbs: String. -/
namespace Go.Proofs.YthalpbjkkfkheaaGreatDoor
open Go.RowKit Go.Lib

theorem own_ext {w w' : World} {base : Nat} {e : TypeId} {size : Nat} {v : Value} {n : Nat} {xs : List Value} (h : w.ownsRow base e size v n xs) (hx : Ext w w') : w'.ownsRow base e size v n xs := by
  obtain ⟨hl, h0 | ⟨g, cap, cur, hv, hb, hh, r⟩⟩ := h
  · exact ⟨hl, .inl h0⟩
  · exact ⟨hl, .inr ⟨g, cap, cur, hv, hb, (hx.block g (lt_of_some hh)).trans hh, r⟩⟩
/-- the decimal text of an integer -/
def decZ (z : Int) : List UInt8 := (if z < 0 then [45] else []) ++ decDigits z.natAbs
theorem texts_drop {l : List Nat} {i : Nat} (hi : i < l.length) : texts (l.drop i) = if i + 1 = l.length then decDigits l[i] else texts (l.drop (i + 1)) ++ padk 9 l[i] := by
  rw [List.drop_eq_getElem_cons hi, texts]
  by_cases h : i + 1 = l.length
  · rw [if_pos h, if_pos (List.drop_eq_nil_of_le (by omega))]
  · rw [if_neg h, if_neg (fun h0 => by have := List.drop_eq_nil_iff.1 h0; omega)]
theorem strCells_bytes (l : List UInt8) : strCells ⟨l.toArray⟩ = byteCells l := rfl
theorem byteCells_append (a b : List UInt8) : byteCells (a ++ b) = byteCells a ++ byteCells b := by simp [byteCells]
theorem repeat_zeros (c : Nat) : repeatL [48] c = List.replicate c 48 := by
  induction c with
  | zero => rfl
  | succ c ih => rw [repeatL, ih]; rfl
theorem texts_length {l : List Nat} (d : Dig l) : (texts l).length ≤ 9 * l.length := by
  induction l with
  | nil => simp [texts]
  | cons x r ih =>
    rw [texts]
    have := ih d.tail
    have h9 := (pad9 d.head).1
    split
    · rw [decDigits_length]; simp only [List.length_cons]; omega
    · rw [List.length_append, padk_length]; simp only [List.length_cons]; omega

end Go.Proofs.YthalpbjkkfkheaaGreatDoor
/- decimal texts read back; the texts of fractions. Plain Lean. -/
namespace Go.Proofs.YthalpbjkkfkheaaGreatDoor
open Go.Lib

/-- the number of a list of digits, behind a number -/
def numL (a : Nat) (l : List UInt8) : Nat := l.foldl (fun a c => 10 * a + (c.toNat - 48)) a
theorem numL_nil (a : Nat) : numL a [] = a := by rw [numL, List.foldl_nil]
theorem numL_cons (a : Nat) (c : UInt8) (r : List UInt8) : numL a (c :: r) = numL (10 * a + (c.toNat - 48)) r := by rw [numL, List.foldl_cons, numL]
def isDg (c : UInt8) : Prop := 48 ≤ c.toNat ∧ c.toNat ≤ 57
theorem numL_append (a : Nat) (l m : List UInt8) : numL a (l ++ m) = numL (numL a l) m := by rw [numL, List.foldl_append, ← numL, ← numL]
theorem numL_snoc (a : Nat) (l : List UInt8) (c : UInt8) : numL a (l ++ [c]) = 10 * numL a l + (c.toNat - 48) := by rw [numL_append, numL_cons, numL_nil]
theorem numL_le (a : Nat) (l : List UInt8) : a ≤ numL a l := by
  induction l generalizing a with
  | nil => rw [numL_nil]; exact Nat.le_refl _
  | cons c r ih => rw [numL_cons]; exact Nat.le_trans (by omega) (ih _)
theorem dg_toNat {x : Nat} (h : x < 10) : (UInt8.ofNat (48 + x)).toNat = 48 + x := by
  rw [UInt8.toNat_ofNat']
  exact Nat.mod_eq_of_lt (by omega)
theorem dg_isDg {x : Nat} (h : x < 10) : isDg (UInt8.ofNat (48 + x)) := by
  unfold isDg
  rw [dg_toNat h]
  omega
theorem dec_digits (n : Nat) : ∀ c ∈ decDigits n, isDg c := by
  induction n using Nat.strongRecOn with
  | _ n ih =>
    by_cases h : n < 10
    · rw [dec_small h]
      intro c hc
      simp only [List.mem_singleton] at hc
      subst hc
      exact dg_isDg h
    · rw [dec_big h]
      intro c hc
      rcases List.mem_append.1 hc with hc | hc
      · exact ih _ (by omega) c hc
      · simp only [List.mem_singleton] at hc
        subst hc
        exact dg_isDg (by omega)
theorem padk_digits (k x : Nat) : ∀ c ∈ padk k x, isDg c := by
  induction k generalizing x with
  | zero => simp [padk]
  | succ k ih =>
    intro c hc
    rcases List.mem_append.1 hc with hc | hc
    · exact ih _ c hc
    · simp only [List.mem_singleton] at hc
      subst hc
      exact dg_isDg (by omega)
theorem numL_padk (k x a : Nat) (h : x < 10 ^ k) : numL a (padk k x) = a * 10 ^ k + x := by
  induction k generalizing x with
  | zero =>
    have h0 : x = 0 := by simpa using h
    rw [h0, padk, numL_nil, Nat.pow_zero]
    omega
  | succ k ih =>
    have h1 : x / 10 < 10 ^ k := by rw [Nat.pow_succ] at h; omega
    have h2 : x % 10 < 10 := Nat.mod_lt _ (by decide)
    have e : a * (10 ^ k * 10) = 10 * (a * 10 ^ k) := by rw [Nat.mul_comm (10 ^ k) 10, Nat.mul_left_comm]
    rw [padk, numL_snoc, ih (x / 10) h1, dg_toNat h2, Nat.pow_succ, e]
    clear ih e h h1
    generalize a * 10 ^ k = y
    omega
theorem numL_dec (n : Nat) : numL 0 (decDigits n) = n := by
  induction n using Nat.strongRecOn with
  | _ n ih =>
    by_cases h : n < 10
    · rw [dec_small h, numL_cons, dg_toNat h, numL_nil]
      omega
    · rw [dec_big h, numL_snoc, ih _ (by omega), dg_toNat (by omega)]
      omega
theorem dec_inj {a b : Nat} (h : decDigits a = decDigits b) : a = b := by rw [← numL_dec a, h, numL_dec]
theorem parse_ok (l : List UInt8) (a : Nat) (hd : ∀ c ∈ l, isDg c) (h : numL a l < 1000000000000000000) : parseUintM (2 ^ 64 - 1) a l = .ok (numL a l) := by
  induction l generalizing a with
  | nil => rw [numL_nil]; rfl
  | cons c r ih =>
    have hc := hd c (by simp)
    unfold isDg at hc
    rw [numL_cons] at h
    have h1 := numL_le (10 * a + (c.toNat - 48)) r
    have e : a * 10 + (c.toNat - 48) = 10 * a + (c.toNat - 48) := by omega
    rw [parseUintM, if_pos hc, if_neg (by omega), if_neg (by omega), e, ih _ (fun x hx => hd x (by simp [hx])) h, numL_cons]
theorem dec_ne_nil (n : Nat) : decDigits n ≠ [] := fun h => by
  have := nDigits_pos n
  rw [← decDigits_length, h] at this
  simp at this
theorem dec_split {m : Nat} (h : B9 ≤ m) : decDigits m = decDigits (m / B9) ++ padk 9 (m % B9) := by
  have h1 : 0 < m / B9 := Nat.div_pos h (by decide)
  have h2 : m % B9 < 10 ^ 9 := Nat.mod_lt m (show 0 < B9 by decide)
  rw [← dec_join 9 (m / B9) (m % B9) h1 h2]
  congr 1
  have e : (10 : Nat) ^ 9 = B9 := rfl
  rw [e, Nat.mul_comm]
  exact (Nat.div_add_mod m B9).symm
theorem parse_limb {m : Nat} (h : m < B9) : parseUintB 64 (decDigits m) = .ok m := by
  unfold B9 at h
  rw [parseUintB, if_neg (dec_ne_nil m), parse_ok _ 0 (dec_digits m) (by rw [numL_dec]; omega), numL_dec]
theorem parse_pad {x : Nat} (h : x < B9) : parseUintB 64 (padk 9 x) = .ok x := by
  have e : numL 0 (padk 9 x) = x := by rw [numL_padk 9 x 0 h]; omega
  unfold B9 at h
  rw [parseUintB, if_neg (fun h0 => by have := padk_length 9 x; rw [h0] at this; simp at this), parse_ok _ 0 (padk_digits 9 x) (by rw [e]; omega), e]
theorem dec_head {n : Nat} (h : 0 < n) : ∃ c r, decDigits n = c :: r ∧ c ≠ 48 ∧ isDg c := by
  induction n using Nat.strongRecOn with
  | _ n ih =>
    by_cases h1 : n < 10
    · refine ⟨_, _, dec_small h1, ?_, dg_isDg h1⟩
      intro h0
      have := congrArg UInt8.toNat h0
      rw [dg_toNat h1] at this
      have : (48 : UInt8).toNat = 48 := rfl
      omega
    · obtain ⟨c, r, e, h2, h3⟩ := ih (n / 10) (by omega) (by omega)
      exact ⟨c, r ++ [UInt8.ofNat (48 + n % 10)], by rw [dec_big h1, e]; rfl, h2, h3⟩
theorem dec_zero : decDigits 0 = [48] := dec_small (by decide)
theorem not_dg {n : Nat} {c : UInt8} (h : ¬ isDg c) : c ∉ decDigits n := fun hc => h (dec_digits n c hc)
theorem decZ_neg {z : Int} (h : z < 0) : decZ z = 45 :: decDigits z.natAbs := by rw [decZ, if_pos h]; rfl
theorem decZ_pos {z : Int} (h : 0 ≤ z) : decZ z = decDigits z.natAbs := by rw [decZ, if_neg (by omega)]; rfl
theorem decZ_nat (n : Nat) : decZ (n : Int) = decDigits n := by rw [decZ_pos (by omega), Int.natAbs_natCast]
theorem decZ_slash (z : Int) : (47 : UInt8) ∉ decZ z := by
  rw [decZ]
  intro h
  rcases List.mem_append.1 h with h | h
  · split at h
    · simp at h
    · simp at h
  · exact not_dg (by unfold isDg; decide) h
theorem dec_minus (n : Nat) (r : List UInt8) : decDigits n ≠ 45 :: r := fun h => by
  have := dec_digits n 45 (by rw [h]; simp)
  unfold isDg at this
  revert this; decide
theorem decZ_inj {a b : Int} (h : decZ a = decZ b) : a = b := by
  rcases Int.lt_or_le a 0 with ha | ha
  · rcases Int.lt_or_le b 0 with hb | hb
    · rw [decZ_neg ha, decZ_neg hb] at h
      injection h with _ h
      have := dec_inj h
      omega
    · rw [decZ_neg ha, decZ_pos hb] at h
      exact absurd h.symm (dec_minus _ _)
  · rcases Int.lt_or_le b 0 with hb | hb
    · rw [decZ_pos ha, decZ_neg hb] at h
      exact absurd h (dec_minus _ _)
    · rw [decZ_pos ha, decZ_pos hb] at h
      have := dec_inj h
      omega
theorem trim_decZ (z : Int) : trimPrefix (decZ z) [45] = decDigits z.natAbs ∧ hasPrefix (decZ z) [45] = decide (z < 0) := by
  rcases Int.lt_or_le z 0 with h | h
  · rw [decZ_neg h, decide_eq_true h]
    have e : hasPrefix (45 :: decDigits z.natAbs) [45] = true := by simp [hasPrefix]
    exact ⟨by rw [trimPrefix, e]; rfl, e⟩
  · rw [decZ_pos h, decide_eq_false (by omega)]
    have e : hasPrefix (decDigits z.natAbs) [45] = false := by
      rw [hasPrefix]
      rcases hd : decDigits z.natAbs with _ | ⟨c, r⟩
      · rfl
      · have hc : c ≠ 45 := fun hc => dec_minus z.natAbs r (by rw [hd, hc])
        simp [List.isPrefixOf]
        exact fun h => absurd h.symm hc
    exact ⟨by rw [trimPrefix, e]; rfl, e⟩
theorem indexByte_out {l : List UInt8} {c : UInt8} (h : c ∉ l) : indexByte l c = -1 := by
  induction l with
  | nil => rfl
  | cons b r ih =>
    rw [indexByte, ih (fun hc => h (by simp [hc]))]
    have : (b == c) = false := by simpa using fun hb : b = c => h (by simp [hb])
    rw [this]
    rfl
theorem indexByte_mid {a b : List UInt8} {c : UInt8} (h : c ∉ a) : indexByte (a ++ c :: b) c = a.length := by
  induction a with
  | nil => simp [indexByte]
  | cons x r ih =>
    have hx : (x == c) = false := by simpa using fun hb : x = c => h (by simp [hb])
    have e : indexByte (r ++ c :: b) c = r.length := ih (fun hc => h (by simp [hc]))
    have hn : (((r.length : Int)) == -1) = false := by rw [beq_eq_false_iff_ne]; omega
    rw [List.cons_append, indexByte, hx, e, hn]
    simp
theorem cut_out {l : List UInt8} {c : UInt8} (h : c ∉ l) : cut l [c] = (l, [], false) := by
  rw [cut, index_one, indexByte_out h]
  rfl
theorem cut_mid {a b : List UInt8} {c : UInt8} (h : c ∉ a) : cut (a ++ c :: b) [c] = (a, b, true) := by
  rw [cut, index_one, indexByte_mid h, if_pos (by omega)]
  simp
/-- the canonical text of a fraction -/
def ratText (q : Rat) : List UInt8 := if q.den = 1 then decZ q.num else decZ q.num ++ 47 :: decDigits q.den
theorem ratText_int {q : Rat} (h : q.den = 1) : ratText q = decZ q.num := by rw [ratText, if_pos h]
theorem ratText_frac {q : Rat} (h : q.den ≠ 1) : ratText q = decZ q.num ++ 47 :: decDigits q.den := by rw [ratText, if_neg h]
theorem ratText_z (z : Int) : ratText (z : Rat) = decZ z := ratText_int rfl
theorem cut_int {q : Rat} (h : q.den = 1) : cut (ratText q) [47] = (decZ q.num, [], false) := by rw [ratText_int h]; exact cut_out (decZ_slash _)
theorem cut_frac {q : Rat} (h : q.den ≠ 1) : cut (ratText q) [47] = (decZ q.num, decDigits q.den, true) := by rw [ratText_frac h]; exact cut_mid (decZ_slash _)
theorem ratText_inj {q r : Rat} (h : ratText q = ratText r) : q = r := by
  have hc : cut (ratText q) [47] = cut (ratText r) [47] := by rw [h]
  by_cases hq : q.den = 1
  · by_cases hr : r.den = 1
    · rw [cut_int hq, cut_int hr] at hc
      injection hc with h1 _
      exact Rat.ext (decZ_inj h1) (by rw [hq, hr])
    · rw [cut_int hq, cut_frac hr] at hc
      injection hc with _ h2
      injection h2 with _ h3
      cases h3
  · by_cases hr : r.den = 1
    · rw [cut_frac hq, cut_int hr] at hc
      injection hc with _ h2
      injection h2 with _ h3
      cases h3
    · rw [cut_frac hq, cut_frac hr] at hc
      injection hc with h1 h2
      injection h2 with h2 _
      exact Rat.ext (decZ_inj h1) (dec_inj h2)
theorem ratText_zero {q : Rat} : ratText q = [48] ↔ q = 0 := by
  have e : ratText 0 = [48] := by
    rw [ratText_int rfl]
    exact dec_zero
  rw [← e]
  exact ⟨ratText_inj, fun h => by rw [h]⟩
theorem nDigits_le {n e : Nat} (h : n < 10 ^ (e + 1)) : nDigits n ≤ e + 1 := (padk_eq e n h).1
theorem nDigits_pow (n : Nat) : n < 10 ^ nDigits n := lt_pow_nDigits n
theorem decZ_length (z : Int) : (decZ z).length ≤ nDigits z.natAbs + 1 := by
  rw [decZ, List.length_append, decDigits_length]
  split <;> simp <;> omega
end Go.Proofs.YthalpbjkkfkheaaGreatDoor
/- The arithmetic that the references' long integers use: the digit of a division between two estimates, texts from the last digit on. Plain Lean. -/
namespace Go.Proofs.YthalpbjkkfkheaaGreatDoor
open Go.Lib

theorem padk_head (k x : Nat) : padk (k + 1) x = UInt8.ofNat (48 + x / 10 ^ k % 10) :: padk k x := by
  induction k generalizing x with
  | zero => simp [padk]
  | succ k ih =>
    rw [padk, ih (x / 10), Nat.div_div_eq_div_mul, Nat.mul_comm 10, ← Nat.pow_succ]
    rfl
/-- the digits of limbs, the last digit first -/
def revText : List Nat → List UInt8
  | [] => []
  | x :: r => (padk 9 x).reverse ++ revText r
theorem revText_snoc (l : List Nat) (x : Nat) : revText (l ++ [x]) = revText l ++ (padk 9 x).reverse := by
  induction l with
  | nil => simp [revText]
  | cons y r ih => simp [revText, ih]
theorem revText_length (l : List Nat) : (revText l).length = 9 * l.length := by
  induction l with
  | nil => rfl
  | cons x r ih => simp [revText, ih, padk_length]; omega
theorem revText_eq {l : List Nat} (h : Canon l) (h0 : l ≠ []) : ∃ z, revText l = (decDigits (val l)).reverse ++ List.replicate z 48 := by
  induction l with
  | nil => exact absurd rfl h0
  | cons x r ih =>
    by_cases hr : r = []
    · subst hr
      refine ⟨9 - nDigits x, ?_⟩
      rw [revText, (pad9 h.1.head).2]
      simp [revText]
    · obtain ⟨z, hz⟩ := ih h.tail hr
      refine ⟨z, ?_⟩
      have e : decDigits (val (x :: r)) = decDigits (val r) ++ padk 9 x := by
        rw [val_cons, Nat.add_comm, Nat.mul_comm]
        exact dec_join 9 (val r) x (val_pos h.tail hr) (by have := h.1.head; unfold B9 at this; exact this)
      rw [revText, hz, e]
      simp
/-- two limbs from place k on -/
theorem top_bounds {l : List Nat} (d : Dig l) {k : Nat} (hk : k ≤ l.length) (hl : l.length ≤ k + 2) :
    B9 ^ k * (limb l k + limb l (k + 1) * B9) ≤ val l ∧ val l < B9 ^ k * (limb l k + limb l (k + 1) * B9 + 1) := by
  have e := val_split l k
  have hlt : (l.take k).length = k := by rw [List.length_take]; omega
  have hv := val_lt (d.take k)
  rw [hlt] at e hv
  have hd : val (l.drop k) = limb l k + limb l (k + 1) * B9 := by
    have hlen : (l.drop k).length ≤ 2 := by rw [List.length_drop]; omega
    have g0 : limb l k = limb (l.drop k) 0 := by simp [limb, List.getD_eq_getElem?_getD]
    have g1 : limb l (k + 1) = limb (l.drop k) 1 := by simp [limb, List.getD_eq_getElem?_getD]
    rw [g0, g1]
    generalize l.drop k = m at hlen
    match m, hlen with
    | [], _ => rfl
    | [a], _ => simp [limb]
    | [a, b], _ => simp [limb]; exact Nat.mul_comm _ _
  rw [hd] at e
  generalize limb l k + limb l (k + 1) * B9 = t at e
  rw [e, Nat.mul_add, Nat.mul_one]
  omega
theorem quo_est {y r P t s : Nat} (hy1 : P * s ≤ y) (hy2 : y < P * (s + 1)) (hr1 : P * t ≤ r) (hr2 : r < P * (t + 1)) (hs : 0 < s) :
    y * (t / (s + 1)) ≤ r ∧ r < y * (t / s + 1) := by
  constructor
  · have h1 : y * (t / (s + 1)) ≤ P * (s + 1) * (t / (s + 1)) := Nat.mul_le_mul_right _ (Nat.le_of_lt hy2)
    have h2 : P * (s + 1) * (t / (s + 1)) ≤ P * t := by
      rw [Nat.mul_assoc]
      exact Nat.mul_le_mul_left _ (Nat.mul_div_le _ _)
    omega
  · have h1 : t + 1 ≤ s * (t / s + 1) := Nat.lt_mul_div_succ t hs
    have h2 : P * (t + 1) ≤ P * (s * (t / s + 1)) := Nat.mul_le_mul_left _ h1
    have h3 : P * (s * (t / s + 1)) ≤ y * (t / s + 1) := by
      rw [← Nat.mul_assoc]
      exact Nat.mul_le_mul_right _ hy1
    omega
theorem quo_len {c b : List Nat} (hc : Canon c) (hb : Canon b) (h1 : val b ≤ val c) (h2 : val c < B9 * val b) : b.length ≤ c.length ∧ c.length ≤ b.length + 1 := by
  refine ⟨length_le_of_val hc hb h1, ?_⟩
  rcases Nat.lt_or_ge (b.length + 1) c.length with h | h
  · exfalso
    have h3 := val_pos_of_noz hc.2 (by omega)
    have h4 := val_lt hb.1
    have h5 : B9 ^ (b.length + 1) ≤ B9 ^ (c.length - 1) := Nat.pow_le_pow_right (by decide) (by omega)
    rw [Nat.pow_succ] at h5
    have h6 : B9 * val b ≤ B9 * B9 ^ b.length := Nat.mul_le_mul_left _ (Nat.le_of_lt h4)
    rw [Nat.mul_comm B9 (B9 ^ b.length)] at h6
    omega
  · exact h
/-- one step of the long division from the top: what was left, and the next limb -/
theorem quo_step {a q : List Nat} {i R Y D : Nat} (hi : i < a.length) (h : val (a.drop (i + 1)) = val q * Y + R) (hD : Y * D ≤ limb a i + B9 * R) :
    val (a.drop i) = val (D :: q) * Y + (limb a i + B9 * R - Y * D) := by
  rw [limb_of hi] at hD ⊢
  rw [List.drop_eq_getElem_cons hi, val_cons, val_cons, h]
  have e : B9 * (val q * Y + R) = B9 * val q * Y + B9 * R := by rw [Nat.mul_add, Nat.mul_assoc]
  have e2 : (D + B9 * val q) * Y = Y * D + B9 * val q * Y := by rw [Nat.add_mul, Nat.mul_comm D Y]
  rw [e, e2]
  omega
end Go.Proofs.YthalpbjkkfkheaaGreatDoor
/- limbs.Read: the number of a canonical text. -/
namespace Go.Proofs.YthalpbjkkfkheaaGreatDoor
open Go.RowKit Go.Lib

theorem u64_slice : SliceTy Tryz.prog 121 47 1 8 := .mk' Tryz.underlying121 u64_info rfl (by decide) (by decide)
/-- what the loop has read: the limbs r, and the text of m before them -/
def Reading (n : Nat) (e : Int) (r : List Nat) (m : Nat) : Prop :=
  Dig r ∧ val r + B9 ^ r.length * m = n ∧ ((0 < e ∧ e = nDigits m ∧ ∃ t, decDigits n = decDigits m ++ t) ∨ (e ≤ 0 ∧ m = 0))

theorem reading_start (n : Nat) : Reading n (nDigits n) [] n := ⟨Dig.nil, by simp, .inl ⟨by have := nDigits_pos n; omega, rfl, [], by simp⟩⟩
/-- the text from a to b -/
theorem cut_text {l : List UInt8} (a b : Nat) : ((ByteArray.mk l.toArray).extract a b).data.toList = (l.take b).drop a := by
  rw [ByteArray.data_extract, Array.toList_extract, List.extract_eq_take_drop, List.drop_take]
/-- one round: where the limb's text begins, what it says, what is left -/
theorem reading_round {n m : Nat} {e : Int} {r : List Nat} (h : Reading n e r m) (he : 0 < e) :
    ∃ (k E x m' : Nat), e = E ∧ k = E - 9 ∧ k ≤ E ∧ E ≤ nDigits n ∧ x < B9 ∧ parseUintB 64 (((decDigits n).take E).drop k) = .ok x ∧ Reading n (e - 9) (r ++ [x]) m' := by
  obtain ⟨hd, hv, ⟨_, h2, t, ht⟩ | ⟨h1, _⟩⟩ := h
  · have hlen : nDigits m ≤ nDigits n := by rw [← decDigits_length, ← decDigits_length, ht, List.length_append]; omega
    have htk : (decDigits n).take (nDigits m) = decDigits m := by rw [ht, ← decDigits_length m, List.take_left']; rfl
    by_cases hm : m < B9
    · have h9 := (pad9 hm).1
      refine ⟨0, nDigits m, m, 0, h2, by omega, by omega, hlen, hm, by rw [htk, List.drop_zero]; exact parse_limb hm, hd.snoc hm, ?_, .inr ⟨by omega, rfl⟩⟩
      rw [val_snoc, Nat.mul_zero, Nat.add_zero]
      exact hv
    · have hm' : B9 ≤ m := Nat.le_of_not_lt hm
      have hs := dec_split hm'
      have hl : nDigits m = nDigits (m / B9) + 9 := by rw [← decDigits_length, hs, List.length_append, padk_length, decDigits_length]
      have hx : m % B9 < B9 := Nat.mod_lt _ (by decide)
      refine ⟨nDigits (m / B9), nDigits m, m % B9, m / B9, h2, by omega, by omega, hlen, hx, ?_, hd.snoc hx, ?_, .inl ⟨?_, by omega, padk 9 (m % B9) ++ t, by rw [ht, hs, List.append_assoc]⟩⟩
      · rw [htk, hs, ← decDigits_length (m / B9), List.drop_left]
        exact parse_pad hx
      · rw [val_snoc, List.length_append, List.length_singleton, Nat.pow_succ, ← hv, Nat.mul_assoc, Nat.add_assoc, ← Nat.mul_add]
        congr 2
        rw [Nat.add_comm]
        exact Nat.div_add_mod m B9
      · have := nDigits_pos (m / B9)
        omega
  · omega
theorem reading_end {n m : Nat} {e : Int} {r : List Nat} (h : Reading n e r m) (he : ¬ 0 < e) : Dig r ∧ val r = n := by
  obtain ⟨hd, hv, ⟨h1, _⟩ | ⟨_, h2⟩⟩ := h
  · exact absurd h1 he
  · rw [h2, Nat.mul_zero, Nat.add_zero] at hv
    exact ⟨hd, hv⟩

set_option maxRecDepth 100000 in
set_option maxHeartbeats 8000000 in
theorem read_any (z : Int) (w : World) (hz : FitZ' z) :
    Calls Tryz.prog 89 #[.string ⟨(decZ z).toArray⟩] w fun e w' => ∃ v, e = .returned v ∧ Num w' v z ∧ Ext w w' := by
  have HT := Lib.hid (trim_decZ z)
  have HF := Lib.hid hz
  have hdl : nDigits z.natAbs ≤ 9000000 := by
    unfold FitZ' Fit at hz
    by_cases h0 : toL z.natAbs = []
    · rw [toL_eq_nil.1 h0, nDigits_small (by decide)]; decide
    · have h1 := digits_limbs (toL_canon z.natAbs) h0
      rw [val_toL] at h1
      have h2 := (pad9 ((toL_canon z.natAbs).1.getElem (k := (toL z.natAbs).length - 1) (by have := List.length_pos_iff.2 h0; omega))).1
      rw [← List.getLast_eq_getElem h0] at h2
      omega
  clear hz
  go_enter Tryz.func89, Tryz.ntmps89
  go_wp2_with fail
  refine box1 (P := fun W => Calls _ _ _ W _) fun W HX HR => ?_
  refine (Tryz.strings_CutPrefix _ _ W).mono ?_
  rintro e w1 ⟨rfl, rfl⟩
  rw [HT.out.1, HT.out.2]
  have HZ : Hid (signed (decide (z < 0)) z.natAbs = z) := by unfold Hid signed; by_cases h : z < 0 <;> simp [h] <;> omega
  generalize decZ z = tz at *
  generalize decide (z < 0) = neg at *
  generalize hn : z.natAbs = n at *
  have HN := Lib.hid hn
  clear hn
  have hlen : (decDigits n).length = nDigits n := decDigits_length n
  go_wp2_with fail
  have hsz : (ByteArray.mk (decDigits n).toArray).size = nDigits n := by rw [← hlen]; rfl
  have HSZ := Lib.hid hsz
  clear hlen hsz
  go_loopw [5, 6, 7, 8] (fun v5 v6 _ _ wr => ∃ (e : Int) (m : Nat) (r : List Nat), v6 = .int .i64 e ∧ Hid (Reading n e r m) ∧ r.length ≤ 1000001 ∧ Hid (wr.ownsRow (w.heap.size + 1) 47 1 v5 r.length (u64s r)) ∧ Hid (Below (w.heap.size + 1) w1 wr) ∧ e ≤ 9000000 - 9 * (r.length : Int)) (fun _ v6 _ _ _ => (RowKit.intOf v6 + 9).toNat)
  case atStart => exact ⟨_, n, [], rfl, reading_start n, by simp, World.ownsRow_nil _ _ _ _, Below.refl _ _, by simp; omega⟩
  case round =>
    obtain ⟨e, m, r, rfl, HRD, hrl, HOW, HBL, hel⟩ := hrel
    by_cases he : 0 < e
    · obtain ⟨k, E, x, m', rfl, hk, hkE, hEn, hx, hp, hr'⟩ := reading_round HRD.out he
      have hmax : max (0 : Int) ((E : Int) - 9) = (k : Int) := by omega
      have HKE := Lib.hid hk
      have HRR := Lib.hid hr'
      have HP := Lib.hid hp
      have hEl : E ≤ (decDigits n).length := by rw [decDigits_length]; exact hEn
      have HXB := Lib.hid hx
      clear hk hp hr' hx hEn
      go_wp2_with fail
      refine (Tryz.strconv_ParseUint_10_at64_ok _ ?_ x ?_ wr).mono ?_
      · have : (ByteArray.extract ⟨(decDigits n).toArray⟩ k E).size ≤ E := by simp [ByteArray.size_extract]; omega
        omega
      · rw [cut_text]; exact HP.out
      rintro e w2 ⟨rfl, hw2⟩
      have hx2 : Ext wr w2 := by
        rcases hw2 with rfl | rfl
        · exact Ext.refl _
        · exact Lib.bytesWorld_below _ _ _
      have hsz : w.heap.size + 1 ≤ wr.heap.size := by have := HBL.out.size; have := HR.out.lt; omega
      have hsz2 : w.heap.size + 1 ≤ w2.heap.size := Nat.le_trans hsz hx2.size
      have HO2 := Lib.hid (own_ext HOW.out hx2)
      have HB2 := Lib.hid (HBL.out.trans (hx2.mono hsz))
      clear hw2 hx2 hsz HOW HBL
      go_wp2_with (at_builtin; refine wpList_app1 rfl _ _ 121 rfl (w.heap.size + 1) u64_slice _ _ _ rfl HO2.out #[.int .u64 x] 1 1 rfl rfl rfl (by omega) hsz2 ?_)
      intro v' w3 ho3 hg3 _
      have HB3 := Lib.hid (HB2.out.grown hg3 hsz2 (fun k hk => (HO2.out.lt k hk).1))
      have HO3 : Hid (w3.ownsRow (w.heap.size + 1) 47 1 v' (r ++ [x]).length (u64s (r ++ [x]))) := by
        rw [Hid, List.length_append]
        simpa [u64s] using ho3
      clear ho3 hg3
      go_wp2
      go_roundw
      case rel => exact ⟨_, m', r ++ [x], rfl, HRR, by simp; omega, HO3, HB3, by simp; omega⟩
      case measure => simp [RowKit.intOf]; omega
    · have HE := Lib.hid (reading_end HRD.out he)
      obtain ⟨A, c, rfl, hc, _, HSL⟩ := own_parts HOW.out
      have HS := Lib.hid HSL
      have HXR : Hid (Ext w wr) := Below.trans HX.out (HBL.out.mono (Nat.le_succ _))
      have HBR : Hid (Blk wr w.heap.size tNum [.bool false, .slice none 0 0]) := (HBL.out.block w.heap.size (by omega)).trans HR.out
      clear HSL HOW HBL
      go_wp2_with fail
      refine (trim_at A c r.length r wr rfl hc (by omega) HE.out.1 HS.out).mono ?_
      rintro e w2 ⟨r2, hr2, rfl, hcan, hv, hs2, rfl⟩
      have HNV := Lib.hid (NatV.mk' (n := n) hcan (hv.trans HE.out.2) (Nat.le_trans hr2 hc) hs2)
      clear hcan hv hs2
      go_wp2_with fail
      refine (number_any neg _ n wr HNV.out (by have := HF.out; rwa [FitZ', HN.out] at this)).mono ?_
      rintro e w3 ⟨v3, rfl, hv3, hx3⟩
      obtain ⟨b3, A3, n3, c3, rfl, HV3⟩ := hv3.parts
      have HB3 := Lib.hid (HBR.out.ext hx3)
      have HX3 := Lib.hid (HXR.out.trans hx3)
      obtain ⟨k0, k1⟩ := HB3.out.two
      have f0 := HB3.out.frozen 0
      have f1 := HB3.out.frozen 1
      rw [HZ.out] at HV3
      clear hv3 hx3
      go_wp2
      exact ret_num rfl rfl rfl HB3.out HV3.out HX3.out (Nat.le_refl _) (fun v W' h1 h2 => ⟨v, rfl, h1, h2⟩)
end Go.Proofs.YthalpbjkkfkheaaGreatDoor
/- integer.Valid, at canonical texts. -/
namespace Go.Proofs.YthalpbjkkfkheaaGreatDoor
open Go.RowKit Go.Lib

theorem byteCells_get {l : List UInt8} {k : Nat} (h : k < l.length) : (byteCells l)[k]? = some (.int .u8 (l[k].toNat : Int)) := by simp [byteCells, h]
/-- []byte(s) -/
theorem conv_bytes (l : List UInt8) (w : World) : ∃ W cap, (convert 9 49 (.string ⟨l.toArray⟩)).run Tryz.prog w = .ok (.slice (some ⟨w.heap.size, 0, none⟩) l.length cap) W ∧ Ext w W ∧ Sl W 5 (some ⟨w.heap.size, 0, none⟩) (byteCells l) := by
  refine ⟨_, _, Lib.run_convert_string_bytes w 9 49 5 ⟨l.toArray⟩ Tryz.underlying9 Tryz.underlying49 Tryz.underlying5, Lib.bytesWorld_below _ _ _, ?_⟩
  intro j u hu
  refine ⟨w.heap.size, 0, _, _, rfl, Lib.bytesWorld_at_new _ _ _, ?_⟩
  have hj : j < l.length := by
    rcases Nat.lt_or_ge j l.length with h | h
    · exact h
    · rw [List.getElem?_eq_none (by simpa [byteCells] using h)] at hu; cases hu
  rw [← hu, Nat.zero_add, Lib.bytesCells, Array.getElem?_append_left (by simpa using hj)]
  simp [byteCells, hj]
set_option maxRecDepth 100000 in
set_option maxHeartbeats 8000000 in
theorem valid_any (z : Int) (w : World) (hz : nDigits z.natAbs ≤ 400) :
    Calls Tryz.prog 80 #[.string ⟨(decZ z).toArray⟩] w fun e w' => e = .returned (.bool true) ∧ Ext w w' := by
  have HT := Lib.hid (trim_decZ z)
  by_cases h0 : z = 0
  · subst h0
    have ht : decZ 0 = [48] := dec_zero
    rw [ht]
    clear ht HT hz
    go_enter Tryz.func80, Tryz.ntmps80
    go_wp2
    go_ret
    exact ⟨rfl, Ext.refl _⟩
  · obtain ⟨c, r, hd, hc, hcd⟩ := dec_head (n := z.natAbs) (by omega)
    have hlen : (c :: r).length ≤ 400 := by rw [← hd, decDigits_length]; exact hz
    have hne : (decZ z == [48]) = false := by
      rw [beq_eq_false_iff_ne]
      intro h
      have : decZ z = decZ 0 := h.trans dec_zero.symm
      exact h0 (decZ_inj this)
    have hc48 : ((c.toNat : Int) == 48) = false := by
      rw [beq_eq_false_iff_ne]
      intro h
      exact hc (UInt8.toNat.inj (by rw [show (48 : UInt8).toNat = 48 from rfl]; omega))
    have HDG : Hid (∀ x ∈ c :: r, isDg x) := by rw [Hid, ← hd]; exact dec_digits _
    rw [hd] at HT
    clear hc hcd hd hz h0
    generalize decZ z = tz at *
    go_enter Tryz.func80, Tryz.ntmps80
    go_wp2_with fail
    refine (Tryz.strings_TrimPrefix _ _ w).mono ?_
    rintro e w1 ⟨rfl, rfl⟩
    rw [HT.out.1]
    obtain ⟨W, cap, hcv, hx, hsl⟩ := conv_bytes (c :: r) w1
    have HSL := Lib.hid hsl
    have HX := Lib.hid hx
    clear hsl hx
    have hl1 : (r.length : Int) + 1 ≤ 400 := by rw [List.length_cons] at hlen; omega
    have hp0 : 0 < (ByteArray.mk (c :: r).toArray).size := by simp [ByteArray.size]
    have hc48' : ((((ByteArray.mk (c :: r).toArray)[0]'hp0).toNat : Int) == 48) = false := hc48
    go_wp2_with fail
    clear hcv
    go_loop [5, 25] (fun _ v25 => ∃ k : Nat, k ≤ r.length + 1 ∧ v25 = .int .i64 k) (fun _ v25 => r.length + 1 - (RowKit.intOf v25).toNat)
    case atStart => exact ⟨0, Nat.zero_le _, rfl⟩
    case round =>
      obtain ⟨k, hk, rfl⟩ := hrel
      by_cases hlt : k < r.length + 1
      · have hkl : k < (c :: r).length := by rw [List.length_cons]; exact hlt
        have hdg := HDG.out ((c :: r)[k]) (by simp)
        unfold isDg at hdg
        obtain ⟨g, o, e1, _, hcell⟩ := HSL.out.at_ (byteCells_get hkl)
        injection e1 with e1
        injection e1 with e1 e2
        subst e1 e2
        rw [Nat.zero_add] at hcell
        generalize (c :: r)[k].toNat = x at *
        have hx1 : ¬ (x : Int) < 48 := by omega
        have hx2 : ¬ (57 : Int) < x := by omega
        go_wp2
        go_round
        case rel => exact ⟨k + 1, by omega, by go_num⟩
        case measure => simp [RowKit.intOf]; omega
      · go_wp2
        go_ret
        exact ⟨rfl, HX.out⟩
end Go.Proofs.YthalpbjkkfkheaaGreatDoor
/- strings.Cut at a separator of one byte (the variable MaxLen is not read). -/
namespace Go.Proofs.YthalpbjkkfkheaaGreatDoor
open Go.RowKit Go.Lib

theorem ext_text (l : List UInt8) (i j : Nat) : (ByteArray.mk l.toArray).extract i j = ⟨((l.take j).drop i).toArray⟩ := by
  have h := cut_text (l := l) i j
  generalize (ByteArray.mk l.toArray).extract i j = x at h
  cases x with
  | mk d =>
    rw [← h]
set_option maxRecDepth 100000 in
set_option maxHeartbeats 8000000 in
theorem index1_any (l : List UInt8) (w : World) (_hl : l.length ≤ 100000000) (hne : l ≠ [47]) :
    Calls Tryz.prog 104 #[.string ⟨l.toArray⟩, .string ⟨#[47]⟩] w fun e w' => e = .returned (.int .i64 (indexByte l 47)) ∧ w' = w := by
  have h1 : ([47] == l) = false := by rw [beq_eq_false_iff_ne]; exact fun h => hne h.symm
  clear hne
  go_enter Tryz.func104, Tryz.ntmps104
  go_wp2_with fail
  refine (Tryz.stringslite_IndexByte _ _ w).mono ?_
  rintro e w' ⟨rfl, rfl⟩
  go_wp2
  go_ret
  exact ⟨rfl, rfl⟩

set_option maxRecDepth 100000 in
set_option maxHeartbeats 8000000 in
theorem cutlite_none (l : List UInt8) (w : World) (hl : l.length ≤ 100000000) (hn : (47 : UInt8) ∉ l) :
    Calls Tryz.prog 93 #[.string ⟨l.toArray⟩, .string ⟨#[47]⟩] w fun e w' => e = .returned (.tuple #[.string ⟨l.toArray⟩, .string ⟨#[]⟩, .bool false]) ∧ w' = w := by
  have HI := Lib.hid (indexByte_out hn)
  have HE : Hid (l ≠ [47]) := fun h => hn (by simp [h])
  have HL := Lib.hid hl
  clear hn hl
  go_enter Tryz.func93, Tryz.ntmps93
  go_wp2_with fail
  refine (index1_any l w HL.out HE.out).mono ?_
  rintro e w' ⟨rfl, rfl⟩
  rw [HI.out]
  go_wp2
  go_ret3
  exact ⟨rfl, rfl⟩
set_option maxRecDepth 100000 in
set_option maxHeartbeats 8000000 in
theorem cutlite_some (a b : List UInt8) (w : World) (hl : a.length + b.length ≤ 10000000) (hb : b ≠ []) (hn : (47 : UInt8) ∉ a) :
    Calls Tryz.prog 93 #[.string ⟨(a ++ 47 :: b).toArray⟩, .string ⟨#[47]⟩] w fun e w' => e = .returned (.tuple #[.string ⟨a.toArray⟩, .string ⟨b.toArray⟩, .bool true]) ∧ ∃ n, w' = w.drewN n := by
  have HI := Lib.hid (indexByte_mid (b := b) hn)
  have HE : Hid (a ++ 47 :: b ≠ [47]) := fun h => by
    have := congrArg List.length h
    rcases b with _ | ⟨x, r⟩
    · exact hb rfl
    · simp at this; omega
  have HL : Hid ((a ++ 47 :: b).length ≤ 100000000) := by rw [Hid, List.length_append, List.length_cons]; omega
  have hsz : (a ++ 47 :: b).length = a.length + b.length + 1 := by simp; omega
  obtain ⟨l, hl'⟩ : ∃ l, l = a ++ 47 :: b := ⟨_, rfl⟩
  have HLL := Lib.hid hl'
  rw [← hl'] at HI HE HL hsz ⊢
  have HSZ := Lib.hid hsz
  have c2 : (a.length : Int) ≤ (l.length : Int) := by omega
  have c4 : (a.length : Int) + 1 ≤ (l.length : Int) := by omega
  clear hn hb hl' hsz
  go_enter Tryz.func93, Tryz.ntmps93
  go_wp2_with fail
  refine (index1_any l w HL.out HE.out).mono ?_
  rintro e w' ⟨rfl, rfl⟩
  rw [HI.out]
  go_wp2
  go_quiet (fail)
  go_wp2
  go_ret3
  refine ⟨?_, _, rfl⟩
  have e1 : (ByteArray.mk l.toArray).extract 0 a.length = ⟨a.toArray⟩ := by rw [ext_text, HLL.out]; simp
  have e2 : (ByteArray.mk l.toArray).extract (a.length + 1) l.length = ⟨b.toArray⟩ := by rw [ext_text, List.take_of_length_le (Nat.le_refl _), HLL.out, show a ++ 47 :: b = (a ++ [47]) ++ b by simp, List.drop_left' (by simp)]
  show Ending.returned (Value.tuple #[.string ((ByteArray.mk l.toArray).extract 0 a.length), .string ((ByteArray.mk l.toArray).extract (a.length + 1) l.length), .bool true]) = _
  rw [e1, e2]
theorem cut_none (l : List UInt8) (w : World) (hl : l.length ≤ 100000000) (hn : (47 : UInt8) ∉ l) :
    Calls Tryz.prog 79 #[.string ⟨l.toArray⟩, .string ⟨#[47]⟩] w fun e w' => e = .returned (.tuple #[.string ⟨l.toArray⟩, .string ⟨#[]⟩, .bool false]) ∧ Ext w w' := by
  have H := Lib.hid (cutlite_none l w hl hn)
  clear hl hn
  go_enter Tryz.func79, Tryz.ntmps79
  go_wp2_with fail
  refine H.out.mono ?_
  rintro e w' ⟨rfl, rfl⟩
  go_wp2
  go_ret3
  exact ⟨rfl, Ext.refl _⟩
theorem cut_some (a b : List UInt8) (w : World) (hl : a.length + b.length ≤ 10000000) (hb : b ≠ []) (hn : (47 : UInt8) ∉ a) :
    Calls Tryz.prog 79 #[.string ⟨(a ++ 47 :: b).toArray⟩, .string ⟨#[47]⟩] w fun e w' => e = .returned (.tuple #[.string ⟨a.toArray⟩, .string ⟨b.toArray⟩, .bool true]) ∧ Ext w w' := by
  have H := Lib.hid (cutlite_some a b w hl hb hn)
  generalize a ++ 47 :: b = l at *
  clear hl hn hb
  go_enter Tryz.func79, Tryz.ntmps79
  go_wp2_with fail
  refine H.out.mono ?_
  rintro e w' ⟨rfl, n, rfl⟩
  go_wp2
  go_ret3
  exact ⟨rfl, (Ext.refl _).drewN _⟩

end Go.Proofs.YthalpbjkkfkheaaGreatDoor
/- fraction.Read, Rat, Fits: the canonical texts. -/
namespace Go.Proofs.YthalpbjkkfkheaaGreatDoor
open Go.RowKit Go.Lib

theorem FitQ.dn {e : Nat} {q : Rat} (h : FitQ (e + 1) q) : nDigits q.num.natAbs ≤ e + 1 := nDigits_le h.1
theorem FitQ.dd {e : Nat} {q : Rat} (h : FitQ (e + 1) q) : nDigits q.den ≤ e + 1 := nDigits_le h.2
theorem one_text : decZ 1 = [49] := dec_small (by decide)

theorem read_one (w : World) : Calls Tryz.prog 89 #[.string ⟨#[49]⟩] w fun e w' => ∃ v, e = .returned v ∧ Num w' v 1 ∧ Ext w w' := by
  have h := read_any 1 w fitz_one.wide
  rw [one_text] at h
  exact h
end Go.Proofs.YthalpbjkkfkheaaGreatDoor
/- fraction: Rat, Fits. -/
namespace Go.Proofs.YthalpbjkkfkheaaGreatDoor
open Go.RowKit Go.Lib

theorem cat_text (a b : List UInt8) : (ByteArray.mk a.toArray) ++ (ByteArray.mk b.toArray) = ⟨(a ++ b).toArray⟩ := by
  apply ByteArray.ext
  rw [ByteArray.data_append]
  simp

theorem cat_run (a b : List UInt8) (w : World) (h : a.length + b.length ≤ 1000000) : (Op.stringOp .add ⟨a.toArray⟩ ⟨b.toArray⟩).run Tryz.prog w = .ok (.string ⟨(a ++ b).toArray⟩) w := by
  have := run_string_add_sum (P := Tryz.prog) (w := w) ⟨a.toArray⟩ ⟨b.toArray⟩ (by simp [ByteArray.size]; omega)
  rw [cat_text] at this
  exact this
end Go.Proofs.YthalpbjkkfkheaaGreatDoor
/- fraction.Fits, integer.Compare, rational.Valid, exact.Zero, exact.Read, exact.Text. -/
namespace Go.Proofs.YthalpbjkkfkheaaGreatDoor
open Go.RowKit Go.Lib

theorem lt_pow_of {n k : Nat} (h : nDigits n ≤ k) : n < 10 ^ k := Nat.lt_of_lt_of_le (nDigits_pow n) (Nat.pow_le_pow_right (by decide) h)
theorem fitz_of {z : Int} {k : Nat} (hk : k ≤ 1000000) (h : nDigits z.natAbs ≤ k) : FitZ z := ⟨k, hk, lt_pow_of h⟩
theorem small_fit {z : Int} (h : nDigits z.natAbs ≤ 400) : FitZ z := fitz_of (by decide) h
theorem iread_any (z : Int) (w : World) (hz : FitZ' z) :
    Calls Tryz.prog 81 #[.string ⟨(decZ z).toArray⟩] w fun e w' => ∃ v, e = .returned v ∧ Num w' v z ∧ Ext w w' := by
  have HF := Lib.hid hz
  clear hz
  generalize hd : decZ z = d at *
  have HD := Lib.hid hd
  clear hd
  go_enter Tryz.func81, Tryz.ntmps81
  go_wp2_with fail
  refine box1 (P := fun W => Calls _ _ _ W _) fun W HX HR => ?_
  rw [← HD.out]
  refine (read_any z W HF.out).mono ?_
  rintro e w1 ⟨v1, rfl, hv1, hx1⟩
  obtain ⟨b3, A3, n3, c3, rfl, HV3⟩ := hv1.parts
  have HB3 := Lib.hid (HR.out.ext hx1)
  have HX3 := Lib.hid (HX.out.trans hx1)
  obtain ⟨k0, k1⟩ := HB3.out.two
  have f0 := HB3.out.frozen 0
  have f1 := HB3.out.frozen 1
  clear hv1 hx1
  go_wp2
  exact ret_num rfl rfl rfl HB3.out HV3.out HX3.out (Nat.le_refl _) (fun v W' h1 h2 => ⟨v, rfl, h1, h2⟩)

set_option maxRecDepth 100000 in
set_option maxHeartbeats 8000000 in
theorem icompare_any (x y : Int) (w : World) (hx : nDigits x.natAbs ≤ 400) (hy : nDigits y.natAbs ≤ 400) :
    Calls Tryz.prog 88 #[.string ⟨(decZ x).toArray⟩, .string ⟨(decZ y).toArray⟩] w fun e w' => e = .returned (.int .i64 (x - y).sign) ∧ Ext w w' := by
  have V1 := Lib.hid (fun w => valid_any x w hx)
  have V2 := Lib.hid (fun w => valid_any y w hy)
  have R1 := Lib.hid (fun w => iread_any x w (small_fit hx).wide)
  have R2 := Lib.hid (fun w => iread_any y w (small_fit hy).wide)
  have F1 := Lib.hid (small_fit hx)
  have F2 := Lib.hid (small_fit hy)
  clear hx hy
  generalize decZ x = a at *
  generalize decZ y = b at *
  go_enter Tryz.func88, Tryz.ntmps88
  go_wp2_with fail
  refine (V1.out w).mono ?_
  rintro e w1 ⟨rfl, hx1⟩
  go_wp2_with fail
  refine (V2.out w1).mono ?_
  rintro e w2 ⟨rfl, hx2⟩
  go_wp2_with fail
  refine (R1.out w2).mono ?_
  rintro e w3 ⟨v3, rfl, hv3, hx3⟩
  obtain ⟨b3, A3, n3, c3, rfl, HV3⟩ := hv3.parts
  go_wp2_with fail
  refine (R2.out w3).mono ?_
  rintro e w4 ⟨v4, rfl, hv4, hx4⟩
  obtain ⟨b4, A4, n4, c4, rfl, HV4⟩ := hv4.parts
  go_wp2_with fail
  refine (numCompare_any _ _ x y w4 (hv3.ext hx4) hv4 F1.out F2.out).mono ?_
  rintro e w5 ⟨rfl, hx5⟩
  go_wp2
  go_ret
  exact ⟨rfl, hx1.trans (hx2.trans (hx3.trans (hx4.trans hx5)))⟩
theorem icompare_one (x : Int) (w : World) (hx : nDigits x.natAbs ≤ 400) :
    Calls Tryz.prog 88 #[.string ⟨(decZ x).toArray⟩, .string ⟨#[49]⟩] w fun e w' => e = .returned (.int .i64 (x - 1).sign) ∧ Ext w w' := by
  have h := icompare_any x 1 w hx (by rw [show (1 : Int).natAbs = 1 from rfl, nDigits_small (by decide)]; decide)
  rw [one_text] at h
  exact h
theorem of_one (w : World) : Calls Tryz.prog 92 #[.int .i64 1] w fun e w' => ∃ v', e = .returned v' ∧ Num w' v' 1 ∧ Ext w w' := of_any 1 w (by decide) (by decide)

set_option maxRecDepth 100000 in
set_option maxHeartbeats 8000000 in
theorem rvalid_any (q : Rat) (w : World) (hf : FitQ 400 q) :
    Calls Tryz.prog 78 #[.string ⟨(ratText q).toArray⟩] w fun e w' => e = .returned (.bool true) ∧ Ext w w' := by
  have V1 := Lib.hid (fun w => valid_any q.num w hf.dn)
  have hn2 := decZ_length q.num
  have hn3 := hf.dn
  have hd3 := hf.dd
  by_cases h1 : q.den = 1
  · have HT := Lib.hid (ratText_int h1)
    rw [HT.out]
    have hsl := decZ_slash q.num
    generalize decZ q.num = a at *
    have HC := Lib.hid (fun w => cut_none a w (by omega) hsl)
    clear hn2 hn3 hd3 h1 hf HT hsl
    go_enter Tryz.func78, Tryz.ntmps78
    go_wp2_with fail
    refine (HC.out w).mono ?_
    rintro e w1 ⟨rfl, hx1⟩
    go_wp2_with fail
    refine (V1.out w1).mono ?_
    rintro e w2 ⟨rfl, hx2⟩
    go_wp2_with fail
    refine (V1.out w2).mono ?_
    rintro e w3 ⟨rfl, hx3⟩
    go_wp2
    go_ret
    exact ⟨rfl, hx1.trans (hx2.trans hx3)⟩
  · have HT := Lib.hid (ratText_frac h1)
    have hd1 : nDigits (q.den : Int).natAbs ≤ 400 := by rw [Int.natAbs_natCast]; exact hd3
    have V2 := Lib.hid (fun w => valid_any q.den w hd1)
    have C2 := Lib.hid (fun w => icompare_one q.den w hd1)
    have R1 := Lib.hid (fun w => read_any q.num w (small_fit hn3).wide)
    have R2 := Lib.hid (fun w => read_any q.den w (small_fit hd1).wide)
    have F1 := Lib.hid (small_fit hn3)
    have F2 := Lib.hid (small_fit hd1)
    have hsg : ((q.den : Int) - 1).sign = 1 := Int.sign_eq_one_of_pos (by have := q.den_pos; omega)
    have HSG := Lib.hid hsg
    have hnz : (decZ q.num == [48]) = false := by
      rw [beq_eq_false_iff_ne]
      intro h
      have h0 : q.num = 0 := decZ_inj (h.trans dec_zero.symm)
      have := q.reduced
      rw [h0] at this
      exact h1 (by simpa using this)
    have hg : Int.gcd q.num q.den = 1 := q.reduced
    have HG := Lib.hid hg
    have hdn : decDigits q.den = decZ q.den := (decZ_nat _).symm
    rw [HT.out]
    have hsl := decZ_slash q.num
    have hne := dec_ne_nil q.den
    have hll : (decZ q.num).length + (decDigits q.den).length ≤ 10000000 := by rw [decDigits_length]; omega
    rw [hdn] at hne hll ⊢
    generalize decZ q.num = a at *
    generalize decZ q.den = b at *
    have HC := Lib.hid (fun w => cut_some a b w hll hne hsl)
    generalize a ++ 47 :: b = ab at *
    clear hn2 hn3 hd3 h1 hf HT hsl hd1 hsg hg hdn hne hll
    go_enter Tryz.func78, Tryz.ntmps78
    go_wp2_with fail
    refine (HC.out w).mono ?_
    rintro e w1 ⟨rfl, hx1⟩
    go_wp2_with fail
    refine (V1.out w1).mono ?_
    rintro e w2 ⟨rfl, hx2⟩
    go_wp2_with fail
    refine (V2.out w2).mono ?_
    rintro e w3 ⟨rfl, hx3⟩
    go_wp2_with fail
    refine (C2.out w3).mono ?_
    rintro e w4 ⟨rfl, hx4⟩
    rw [HSG.out]
    go_wp2_with fail
    refine (R1.out w4).mono ?_
    rintro e w5 ⟨v5, rfl, hv5, hx5⟩
    obtain ⟨b5, A5, n5, c5, rfl, HV5⟩ := hv5.parts
    go_wp2_with fail
    refine (R2.out w5).mono ?_
    rintro e w6 ⟨v6, rfl, hv6, hx6⟩
    obtain ⟨b6, A6, n6, c6, rfl, HV6⟩ := hv6.parts
    go_wp2_with fail
    refine (numGcd_any _ _ q.num q.den w6 (hv5.ext hx6) hv6 F1.out F2.out).mono ?_
    rintro e w7 ⟨v7, rfl, hv7, hx7⟩
    rw [HG.out] at hv7
    obtain ⟨b7, A7, n7, c7, rfl, HV7⟩ := hv7.parts
    go_wp2_with fail
    refine (of_one w7).mono ?_
    rintro e w8 ⟨v8, rfl, hv8, hx8⟩
    obtain ⟨b8, A8, n8, c8, rfl, HV8⟩ := hv8.parts
    go_wp2_with fail
    refine (numCompare_any _ _ 1 1 w8 (hv7.ext hx8) hv8 fitz_one fitz_one).mono ?_
    rintro e w9 ⟨rfl, hx9⟩
    go_wp2
    go_ret
    exact ⟨rfl, hx1.trans (hx2.trans (hx3.trans (hx4.trans (hx5.trans (hx6.trans (hx7.trans (hx8.trans hx9)))))))⟩
end Go.Proofs.YthalpbjkkfkheaaGreatDoor
/- exact.Zero, exact.Read, exact.Text. -/
namespace Go.Proofs.YthalpbjkkfkheaaGreatDoor
open Go.RowKit Go.Lib

end Go.Proofs.YthalpbjkkfkheaaGreatDoor
