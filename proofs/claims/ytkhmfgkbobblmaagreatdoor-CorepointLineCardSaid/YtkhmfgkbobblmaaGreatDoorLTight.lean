/- How short the numbers of lines of made masses are. -/
import Derived.Test.YtkhmfgkbobblmaaGreatDoorLPlain
namespace Go.Proofs.YtkhmfgkbobblmaaGreatDoor
open Go.RowKit Go.Lib

/-- made masses: twelve times the values and twice the weights are small integers -/
def MsG (x : Ms) : Prop := ∃ z y : Int, x.1 * 12 = (z : Rat) ∧ x.2 * 2 = (y : Rat) ∧ z.natAbs ≤ 1200 ∧ 1 ≤ y ∧ y ≤ 98
def MsOk (l : List Ms) : Prop := l.length ≤ 8 ∧ ∀ x ∈ l, MsG x
theorem MsOk.take {l : List Ms} (h : MsOk l) (j : Nat) : MsOk (l.take j) := ⟨by rw [List.length_take]; have := h.1; omega, fun x hx => h.2 x (List.mem_of_mem_take hx)⟩
theorem MsOk.drop {l : List Ms} (h : MsOk l) (j : Nat) : MsOk (l.drop j) := ⟨by rw [List.length_drop]; have := h.1; omega, fun x hx => h.2 x (List.mem_of_mem_drop hx)⟩
theorem MsG.pos {x : Ms} (h : MsG x) : 0 < x.2 := by
  obtain ⟨z, y, h1, h2, h3, h4, h5⟩ := h
  have h6 : (0 : Rat) < (y : Rat) := by
    have := Rat.intCast_lt_intCast.2 (show (0 : Int) < y by omega)
    exact this
  grind
theorem MsOk.pos {l : List Ms} (h : MsOk l) : Pos l := fun x hx => (h.2 x hx).pos
/-- B times q is a whole number, at most N -/
def Whl (B N : Nat) (q : Rat) : Prop := ∃ z : Int, q * (B : Int) = (z : Rat) ∧ z.natAbs ≤ N
theorem Whl.add {B M N : Nat} {p q : Rat} (h : Whl B M p) (k : Whl B N q) : Whl B (M + N) (p + q) := by
  obtain ⟨x, h1, h2⟩ := h
  obtain ⟨y, k1, k2⟩ := k
  exact ⟨x + y, by rw [Rat.intCast_add, ← h1, ← k1]; grind, by omega⟩
theorem Whl.sub {B M N : Nat} {p q : Rat} (h : Whl B M p) (k : Whl B N q) : Whl B (M + N) (p - q) := by
  obtain ⟨x, h1, h2⟩ := h
  obtain ⟨y, k1, k2⟩ := k
  exact ⟨x - y, by rw [Rat.intCast_sub, ← h1, ← k1]; grind, by omega⟩
theorem Whl.zero {B N : Nat} : Whl B N 0 := ⟨0, by rw [Rat.zero_mul]; rfl, by simp⟩
theorem Whl.mul {B C M N : Nat} {p q : Rat} (h : Whl B M p) (k : Whl C N q) : Whl (B * C) (M * N) (p * q) := by
  obtain ⟨x, h1, h2⟩ := h
  obtain ⟨y, k1, k2⟩ := k
  refine ⟨x * y, ?_, ?_⟩
  · rw [Rat.intCast_mul, ← h1, ← k1, Int.natCast_mul, Rat.intCast_mul]; grind
  · rw [Int.natAbs_mul]
    exact Nat.mul_le_mul h2 k2
theorem Whl.mono {B M N : Nat} {q : Rat} (h : Whl B M q) (hn : M ≤ N) : Whl B N q := by
  obtain ⟨x, h1, h2⟩ := h
  exact ⟨x, h1, by omega⟩
theorem Whl.fit {B N : Nat} {q : Rat} (h : Whl B N q) (hB : 0 < B) {e : Nat} (h1 : N < 10 ^ e) (h2 : B < 10 ^ e) : FitQ e q := by
  obtain ⟨x, e1, e2⟩ := h
  have hb : ¬ (((B : Int) : Rat)) = 0 := fun h0 => by
    have := Rat.intCast_inj.1 (show (((B : Int)) : Rat) = ((0 : Int) : Rat) from h0)
    omega
  have e3 : q = Rat.divInt x (B : Int) := by
    rw [Rat.divInt_eq_div, ← e1, Rat.mul_div_cancel hb]
  rw [e3]
  exact divInt_fit (by omega) (by omega) (by rw [Int.natAbs_natCast]; exact h2)
theorem sm_whl {l : List Ms} {f : Ms → Rat} {B N : Nat} (h : ∀ x ∈ l, Whl B N (f x)) : Whl B (l.length * N) (sm l f) := by
  induction l with
  | nil => exact Whl.zero
  | cons x l ih =>
    rw [sm_cons, List.length_cons, Nat.succ_mul, Nat.add_comm]
    exact (h x (by simp)).add (ih fun y hy => h y (by simp [hy]))
theorem MsG.val {x : Ms} (h : MsG x) : Whl 12 1200 x.1 ∧ Whl 2 98 x.2 := by
  obtain ⟨z, y, h1, h2, h3, h4, h5⟩ := h
  exact ⟨⟨z, h1, h3⟩, ⟨y, h2, by omega⟩⟩
theorem M0_whl {l : List Ms} (h : MsOk l) : Whl 2 784 (M0 l) := (sm_whl fun x hx => (h.2 x hx).val.2).mono (by have := h.1; omega)
theorem M1_whl {l : List Ms} (h : MsOk l) : Whl 24 940800 (M1 l) := (sm_whl (B := 24) (N := 117600) fun x hx => (h.2 x hx).val.2.mul (h.2 x hx).val.1).mono (by have := h.1; omega)
theorem M2_whl {l : List Ms} (h : MsOk l) : Whl 288 1128960000 (M2 l) := (sm_whl (B := 288) (N := 141120000) fun x hx => ((h.2 x hx).val.2.mul (h.2 x hx).val.1).mul (h.2 x hx).val.1).mono (by have := h.1; omega)
theorem M0_fit {l : List Ms} (h : MsOk l) : FitQ 10 (M0 l) := (M0_whl h).fit (by decide) (by decide) (by decide)
theorem M1_fit {l : List Ms} (h : MsOk l) : FitQ 10 (M1 l) := (M1_whl h).fit (by decide) (by decide) (by decide)
theorem M2_fit {l : List Ms} (h : MsOk l) : FitQ 10 (M2 l) := (M2_whl h).fit (by decide) (by decide) (by decide)
theorem quot_eq {a b c : Rat} (h : ¬ b = 0) (e : a = c * b) : a / b = c := by rw [e, Rat.mul_div_cancel h]
theorem mean_fit {s : List Ms} (h : MsOk s) (h0 : s ≠ []) : FitQ 7 (mean s) := by
  have hp := M0_pos h.pos h0
  obtain ⟨y, h1, h2⟩ := M0_whl h
  obtain ⟨p, h3, h4⟩ := M1_whl h
  have hy : 0 < y := by
    have h5 : (0 : Rat) < (y : Rat) := by rw [← h1]; exact Rat.mul_pos hp (by decide +kernel)
    exact Rat.intCast_lt_intCast.1 (show ((0 : Int) : Rat) < (y : Rat) from h5)
  have h1' : M0 s * 2 = (y : Rat) := h1
  have h3' : M1 s * 24 = (p : Rat) := h3
  have e : mean s = Rat.divInt p (12 * y) := by
    rw [Rat.divInt_eq_div, Rat.intCast_mul, ← h1', ← h3']
    have hm := mean_eq hp
    have h6 : ¬ ((12 : Int) : Rat) * (M0 s * 2) = 0 := by
      have : ((12 : Int) : Rat) = 12 := rfl
      rw [this]; grind
    refine (quot_eq h6 ?_).symm
    rw [← hm]
    have : ((12 : Int) : Rat) = 12 := rfl
    rw [this]; grind
  rw [e]
  exact divInt_fit (by omega) (by omega) (by omega)
theorem cst_fit {s : List Ms} (h : MsOk s) (h0 : s ≠ []) : FitQ 13 (cst s) := by
  have hp := M0_pos h.pos h0
  obtain ⟨y, h1, h2⟩ := M0_whl h
  obtain ⟨p, h3, h4⟩ := M1_whl h
  obtain ⟨r, h5, h6⟩ := M2_whl h
  have hy : 0 < y := by
    have h5 : (0 : Rat) < (y : Rat) := by rw [← h1]; exact Rat.mul_pos hp (by decide +kernel)
    exact Rat.intCast_lt_intCast.1 (show ((0 : Int) : Rat) < (y : Rat) from h5)
  have h1' : M0 s * 2 = (y : Rat) := h1
  have h3' : M1 s * 24 = (p : Rat) := h3
  have h5' : M2 s * 288 = (r : Rat) := h5
  have e : cst s = Rat.divInt (r * y - p * p) (288 * y) := by
    rw [Rat.divInt_eq_div, Rat.intCast_mul, Rat.intCast_sub, Rat.intCast_mul, Rat.intCast_mul, ← h1', ← h3', ← h5']
    have hm := mean_eq hp
    have h7 : ¬ ((288 : Int) : Rat) * (M0 s * 2) = 0 := by
      have : ((288 : Int) : Rat) = 288 := rfl
      rw [this]; grind
    refine (quot_eq h7 ?_).symm
    rw [cst_eq hp, ← hm]
    have : ((288 : Int) : Rat) = 288 := rfl
    rw [this]; grind
  rw [e]
  have hpp : (p * p).natAbs ≤ 940800 * 940800 := by rw [Int.natAbs_mul]; exact Nat.mul_le_mul h4 h4
  have hry : (r * y).natAbs ≤ 1128960000 * 784 := by rw [Int.natAbs_mul]; exact Nat.mul_le_mul h6 h2
  exact divInt_fit (by omega) (by omega) (by omega)
theorem dv_fit : ∀ p t, MsOk t → p < t.length → FitQ (14 * (p + 1)) (dv p t).1
  | 0, t, h, hl => (cst_fit h (len_ne hl)).mono (by omega)
  | p + 1, t, h, hl => by
    obtain ⟨h1, h2, h3⟩ := dv_at hl
    rw [h3]
    exact ((cst_fit (h.take _) (take_ne h1 (len_ne (by omega)))).add (dv_fit p _ (h.drop _) (by rw [List.length_drop]; omega))).mono (by omega)
theorem cen_fit : ∀ p t, MsOk t → p < t.length → ∀ c ∈ cen p t, FitQ 7 c
  | 0, t, h, hl, c, hc => by
    rw [cen, List.mem_singleton] at hc
    rw [hc]
    exact mean_fit h (len_ne hl)
  | p + 1, t, h, hl, c, hc => by
    obtain ⟨h1, h2, _⟩ := dv_at hl
    rw [cen] at hc
    rcases List.mem_cons.1 hc with rfl | hc
    · exact mean_fit (h.take _) (take_ne h1 (len_ne (by omega)))
    · exact cen_fit p _ (h.drop _) (by rw [List.length_drop]; omega) c hc
/-- a part of masses, out of sums of the first ones -/
theorem sm_part (l : List Ms) (f : Ms → Rat) {i k : Nat} (h : i ≤ k) : sm (l.take k) f - sm (l.take i) f = sm ((l.drop i).take (k - i)) f := by
  have e : l.take k = l.take i ++ (l.drop i).take (k - i) := by
    rw [List.take_drop, show i + (k - i) = k by omega]
    have h1 := List.take_append_drop i (l.take k)
    rw [List.take_take, Nat.min_eq_left h] at h1
    exact h1.symm
  rw [e, sm_append]
  grind
end Go.Proofs.YtkhmfgkbobblmaaGreatDoor
