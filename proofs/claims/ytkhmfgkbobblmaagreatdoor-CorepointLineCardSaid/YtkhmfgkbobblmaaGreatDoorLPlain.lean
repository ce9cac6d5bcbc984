/- Plain laws of lines: the cheapest division of masses into parts, its centres, and what they cost. -/
import Derived.Test.YtkhmfgkbobblmaaGreatDoorMkR
namespace Go.Proofs.YtkhmfgkbobblmaaGreatDoor
open Go.RowKit Go.Lib

/-- a value and its weight -/
abbrev Ms := Rat × Rat
def sm (l : List Ms) (f : Ms → Rat) : Rat := l.foldr (fun x s => f x + s) 0
theorem sm_nil (f : Ms → Rat) : sm [] f = 0 := rfl
theorem sm_cons (x : Ms) (l : List Ms) (f : Ms → Rat) : sm (x :: l) f = f x + sm l f := rfl
theorem sm_append (a b : List Ms) (f : Ms → Rat) : sm (a ++ b) f = sm a f + sm b f := by
  induction a with
  | nil => rw [List.nil_append, sm_nil]; grind
  | cons x a ih => rw [List.cons_append, sm_cons, sm_cons, ih]; grind
theorem sm_le {l : List Ms} {f g : Ms → Rat} (h : ∀ x ∈ l, f x ≤ g x) : sm l f ≤ sm l g := by
  induction l with
  | nil => exact Rat.le_refl
  | cons x l ih =>
    rw [sm_cons, sm_cons]
    have h1 := h x (by simp)
    have h2 := ih fun y hy => h y (by simp [hy])
    grind
theorem sm_zero (l : List Ms) : sm l (fun _ => 0) = 0 := by
  induction l with
  | nil => rfl
  | cons x l ih => rw [sm_cons, ih]; grind
theorem sm_nonneg {l : List Ms} {f : Ms → Rat} (h : ∀ x ∈ l, 0 ≤ f x) : 0 ≤ sm l f := by
  have h1 := sm_le (f := fun _ => 0) h
  rwa [sm_zero] at h1
theorem sm_map (l : List Ms) (g : Ms → Ms) (f : Ms → Rat) : sm (l.map g) f = sm l (fun x => f (g x)) := by
  induction l with
  | nil => rfl
  | cons x l ih => rw [List.map_cons, sm_cons, sm_cons, ih]
def M0 (s : List Ms) : Rat := sm s fun x => x.2
def M1 (s : List Ms) : Rat := sm s fun x => x.2 * x.1
def M2 (s : List Ms) : Rat := sm s fun x => x.2 * x.1 * x.1
def sq (s : List Ms) (c : Rat) : Rat := sm s fun x => x.2 * ((x.1 - c) * (x.1 - c))
def mean (s : List Ms) : Rat := M1 s / M0 s
def cst (s : List Ms) : Rat := M2 s - M1 s * M1 s / M0 s
theorem sq_eq (s : List Ms) (c : Rat) : sq s c = M2 s - 2 * c * M1 s + c * c * M0 s := by
  unfold sq M0 M1 M2
  induction s with
  | nil => simp only [sm_nil]; grind
  | cons x s ih => simp only [sm_cons]; rw [ih]; grind
/-- masses with weights -/
def Pos (l : List Ms) : Prop := ∀ x ∈ l, 0 < x.2
theorem M0_pos {s : List Ms} (h : Pos s) (h0 : s ≠ []) : 0 < M0 s := by
  cases s with
  | nil => exact absurd rfl h0
  | cons x s =>
    unfold M0
    rw [sm_cons]
    have h1 := h x (by simp)
    have h2 := sm_nonneg (l := s) (f := fun x => x.2) fun y hy => Rat.le_of_lt (h y (by simp [hy]))
    grind
theorem mul_self_nonneg (a : Rat) : 0 ≤ a * a := by
  rcases Rat.le_total (a := 0) (b := a) with h | h
  · exact Rat.mul_nonneg h h
  · have h1 := Rat.mul_nonneg (show 0 ≤ -a by grind) (show 0 ≤ -a by grind)
    grind
theorem mean_eq {s : List Ms} (h : 0 < M0 s) : mean s * M0 s = M1 s := by
  unfold mean
  exact Rat.div_mul_cancel (by grind)
theorem cst_eq {s : List Ms} (h : 0 < M0 s) : cst s = M2 s - mean s * mean s * M0 s := by
  have h1 := mean_eq h
  have h2 : M1 s * M1 s / M0 s = mean s * mean s * M0 s := by
    have h3 : ¬ M0 s = 0 := by grind
    rw [← h1]
    rw [show mean s * M0 s * (mean s * M0 s) = (mean s * mean s * M0 s) * M0 s by grind, Rat.mul_div_cancel h3]
  rw [cst, h2]
theorem sq_mean {s : List Ms} (h : 0 < M0 s) : sq s (mean s) = cst s := by
  have h1 := mean_eq h
  rw [cst_eq h, sq_eq, ← h1]
  grind
theorem cst_le {s : List Ms} (h : 0 < M0 s) (c : Rat) : cst s ≤ sq s c := by
  have h1 := mean_eq h
  have h2 := Rat.mul_nonneg (mul_self_nonneg (c - mean s)) (Rat.le_of_lt h)
  rw [cst_eq h, sq_eq, ← h1]
  grind
theorem sq_nonneg {s : List Ms} (h : Pos s) (c : Rat) : 0 ≤ sq s c := sm_nonneg fun x hx => Rat.mul_nonneg (Rat.le_of_lt (h x hx)) (mul_self_nonneg _)
theorem cst_nonneg {s : List Ms} (h : Pos s) (h0 : s ≠ []) : 0 ≤ cst s := by
  rw [← sq_mean (M0_pos h h0)]
  exact sq_nonneg h _
theorem cst_one (x : Ms) (h : 0 < x.2) : cst [x] = 0 := by
  have hp : 0 < M0 [x] := by show 0 < x.2 + 0; grind
  have h1 : M0 [x] = x.2 := by show x.2 + 0 = x.2; grind
  have h2 := mean_eq hp
  have h3 : M1 [x] = x.2 * x.1 := by show x.2 * x.1 + 0 = _; grind
  have h4 : M2 [x] = x.2 * x.1 * x.1 := by show x.2 * x.1 * x.1 + 0 = _; grind
  have h5 : mean [x] = x.1 := by
    unfold mean
    rw [h1, h3, Rat.mul_comm, Rat.mul_div_cancel (by grind)]
  rw [cst_eq hp, h1, h4, h5]
  grind
/-- values that ascend -/
def Asc (l : List Ms) : Prop := l.Pairwise fun a b => a.1 < b.1
theorem mul_pos_zero {a b : Rat} (ha : 0 < a) (h : a * b = 0) : b = 0 := by
  have h1 : ¬ a = 0 := by grind
  rcases Rat.mul_eq_zero.1 h with h | h
  · exact absurd h h1
  · exact h
theorem sm_zero_all {l : List Ms} {f : Ms → Rat} (h : ∀ x ∈ l, 0 ≤ f x) (h0 : sm l f = 0) : ∀ x ∈ l, f x = 0 := by
  induction l with
  | nil => intro x hx; cases hx
  | cons y l ih =>
    rw [sm_cons] at h0
    have h1 := h y (by simp)
    have h2 := sm_nonneg (l := l) (f := f) fun x hx => h x (by simp [hx])
    intro x hx
    rcases List.mem_cons.1 hx with rfl | hx
    · grind
    · exact ih (fun x hx => h x (by simp [hx])) (by grind) x hx
theorem cst_zero {s : List Ms} (hp : Pos s) (ha : Asc s) (h0 : s ≠ []) (h : cst s = 0) : s.length = 1 := by
  rw [← sq_mean (M0_pos hp h0)] at h
  have h1 := sm_zero_all (fun x hx => Rat.mul_nonneg (Rat.le_of_lt (hp x hx)) (mul_self_nonneg _)) h
  match s, ha, h0 with
  | [x], _, _ => rfl
  | x :: y :: r, ha, _ =>
    exfalso
    have hx := mul_pos_zero (hp x (by simp)) (h1 x (by simp))
    have hy := mul_pos_zero (hp y (by simp)) (h1 y (by simp))
    have hx' : x.1 - mean (x :: y :: r) = 0 := by rcases Rat.mul_eq_zero.1 hx with h | h <;> exact h
    have hy' : y.1 - mean (x :: y :: r) = 0 := by rcases Rat.mul_eq_zero.1 hy with h | h <;> exact h
    have := (List.pairwise_cons.1 ha).1 y (by simp)
    grind
/-- the first least of f 1 .. f (m + 1) -/
def bst (f : Nat → Rat) : Nat → Rat × Nat
  | 0 => (f 1, 1)
  | m + 1 => if f (m + 2) < (bst f m).1 then (f (m + 2), m + 2) else bst f m
theorem bst_at (f : Nat → Rat) : ∀ m, (bst f m).1 = f (bst f m).2 ∧ 1 ≤ (bst f m).2 ∧ (bst f m).2 ≤ m + 1
  | 0 => ⟨rfl, Nat.le_refl _, Nat.le_refl _⟩
  | m + 1 => by
    have h := bst_at f m
    rw [bst]
    split
    · exact ⟨rfl, by simp, by simp⟩
    · exact ⟨h.1, h.2.1, by omega⟩
theorem bst_le (f : Nat → Rat) : ∀ m j, 1 ≤ j → j ≤ m + 1 → (bst f m).1 ≤ f j
  | 0, j, h1, h2 => by
    obtain rfl : j = 1 := by omega
    exact Rat.le_refl
  | m + 1, j, h1, h2 => by
    rw [bst]
    split
    · rename_i h
      rcases Nat.lt_or_ge j (m + 2) with hj | hj
      · have := bst_le f m j h1 (by omega)
        show f (m + 2) ≤ f j
        grind
      · obtain rfl : j = m + 2 := by omega
        exact Rat.le_refl
    · rename_i h
      rcases Nat.lt_or_ge j (m + 2) with hj | hj
      · exact bst_le f m j h1 (by omega)
      · obtain rfl : j = m + 2 := by omega
        grind
theorem bst_congr {f g : Nat → Rat} : ∀ m, (∀ j, 1 ≤ j → j ≤ m + 1 → f j = g j) → bst f m = bst g m
  | 0, h => by rw [bst, bst, h 1 (by omega) (by omega)]
  | m + 1, h => by rw [bst, bst, h (m + 2) (by omega) (by omega), bst_congr m fun j h1 h2 => h j h1 (by omega)]
theorem bst_mul {f : Nat → Rat} {b : Rat} (hb : 0 < b) : ∀ m, bst (fun j => b * f j) m = (b * (bst f m).1, (bst f m).2)
  | 0 => rfl
  | m + 1 => by
    rw [bst, bst, bst_mul hb m]
    have h : b * f (m + 2) < b * (bst f m).1 ↔ f (m + 2) < (bst f m).1 := Rat.mul_lt_mul_left hb
    by_cases hc : f (m + 2) < (bst f m).1
    · rw [if_pos hc, if_pos (h.2 hc)]
    · rw [if_neg hc, if_neg (fun h' => hc (h.1 h'))]
/-- the cheapest division of t into p + 1 parts: its cost, how many come first -/
def dv : Nat → List Ms → Rat × Nat
  | 0, t => (cst t, t.length)
  | p + 1, t => bst (fun j => cst (t.take j) + (dv p (t.drop j)).1) (t.length - (p + 1) - 1)
/-- its centres -/
def cen : Nat → List Ms → List Rat
  | 0, t => [mean t]
  | p + 1, t => mean (t.take (dv (p + 1) t).2) :: cen p (t.drop (dv (p + 1) t).2)
theorem cen_length : ∀ p t, (cen p t).length = p + 1
  | 0, _ => rfl
  | p + 1, t => by rw [cen, List.length_cons, cen_length p]
theorem dv_at {p : Nat} {t : List Ms} (h : p + 1 < t.length) : 1 ≤ (dv (p + 1) t).2 ∧ (dv (p + 1) t).2 + (p + 1) ≤ t.length ∧ (dv (p + 1) t).1 = cst (t.take (dv (p + 1) t).2) + (dv p (t.drop (dv (p + 1) t).2)).1 := by
  obtain ⟨h1, h2, h3⟩ := bst_at (fun j => cst (t.take j) + (dv p (t.drop j)).1) (t.length - (p + 1) - 1)
  have e : dv (p + 1) t = bst (fun j => cst (t.take j) + (dv p (t.drop j)).1) (t.length - (p + 1) - 1) := rfl
  rw [← e] at h1 h2 h3
  exact ⟨h2, by omega, h1⟩
theorem dv_le {p j : Nat} {t : List Ms} (h1 : 1 ≤ j) (h2 : j + (p + 1) ≤ t.length) : (dv (p + 1) t).1 ≤ cst (t.take j) + (dv p (t.drop j)).1 :=
  bst_le (fun j => cst (t.take j) + (dv p (t.drop j)).1) (t.length - (p + 1) - 1) j h1 (by omega)
theorem Pos.take {t : List Ms} (h : Pos t) (j : Nat) : Pos (t.take j) := fun x hx => h x (List.mem_of_mem_take hx)
theorem Pos.drop {t : List Ms} (h : Pos t) (j : Nat) : Pos (t.drop j) := fun x hx => h x (List.mem_of_mem_drop hx)
theorem Asc.take {t : List Ms} (h : Asc t) (j : Nat) : Asc (t.take j) := List.Pairwise.sublist (List.take_sublist _ _) h
theorem Asc.drop {t : List Ms} (h : Asc t) (j : Nat) : Asc (t.drop j) := List.Pairwise.sublist (List.drop_sublist _ _) h
theorem take_ne {t : List Ms} {j : Nat} (h1 : 1 ≤ j) (h0 : t ≠ []) : t.take j ≠ [] := by
  cases t with
  | nil => exact absurd rfl h0
  | cons x t => obtain ⟨j, rfl⟩ : ∃ k, j = k + 1 := ⟨j - 1, by omega⟩; simp
theorem len_ne {t : List Ms} (h : 0 < t.length) : t ≠ [] := fun e => by rw [e] at h; simp at h
theorem dv_nonneg : ∀ p t, Pos t → p < t.length → 0 ≤ (dv p t).1
  | 0, t, hp, h => cst_nonneg hp (len_ne h)
  | p + 1, t, hp, h => by
    obtain ⟨h1, h2, h3⟩ := dv_at h
    have h4 := cst_nonneg (hp.take (dv (p + 1) t).2) (take_ne h1 (len_ne (by omega)))
    have h5 := dv_nonneg p (t.drop (dv (p + 1) t).2) (hp.drop _) (by rw [List.length_drop]; omega)
    rw [h3]
    grind
theorem dv_zero : ∀ p t, Pos t → Asc t → p < t.length → (dv p t).1 = 0 → t.length = p + 1
  | 0, t, hp, ha, h, h0 => cst_zero hp ha (len_ne h) h0
  | p + 1, t, hp, ha, h, h0 => by
    obtain ⟨h1, h2, h3⟩ := dv_at h
    have hn := take_ne h1 (len_ne (t := t) (by omega))
    have h4 := cst_nonneg (hp.take (dv (p + 1) t).2) hn
    have h5 := dv_nonneg p (t.drop (dv (p + 1) t).2) (hp.drop _) (by rw [List.length_drop]; omega)
    rw [h3] at h0
    have h6 := cst_zero (hp.take _) (ha.take _) hn (by grind)
    have h7 := dv_zero p (t.drop (dv (p + 1) t).2) (hp.drop _) (ha.drop _) (by rw [List.length_drop]; omega) (by grind)
    rw [List.length_take] at h6
    rw [List.length_drop] at h7
    omega
theorem dv_full : ∀ p t, Pos t → t.length = p + 1 → (dv p t).1 = 0
  | 0, t, hp, h => by
    match t, h with
    | [x], _ => exact cst_one x (hp x (by simp))
  | p + 1, t, hp, h => by
    obtain ⟨h1, h2, h3⟩ := dv_at (p := p) (t := t) (by omega)
    have h4 : (dv (p + 1) t).2 = 1 := by omega
    rw [h3, h4]
    match t, h with
    | x :: t, h =>
      have h5 := dv_full p t (fun y hy => hp y (by simp [hy])) (by simpa using h)
      show cst [x] + (dv p t).1 = 0
      rw [cst_one x (hp x (by simp)), h5]
      grind
theorem mean_ge {s : List Ms} (hp : Pos s) (h0 : s ≠ []) {a : Rat} (h : ∀ x ∈ s, a ≤ x.1) : a ≤ mean s := by
  have hm := M0_pos hp h0
  have h1 : a * M0 s ≤ mean s * M0 s := by
    rw [mean_eq hm]
    have h2 := sm_le (l := s) (f := fun x => x.2 * a) (g := fun x => x.2 * x.1) fun x hx => Rat.mul_le_mul_of_nonneg_left (h x hx) (Rat.le_of_lt (hp x hx))
    have h3 : sm s (fun x => x.2 * a) = a * M0 s := by
      unfold M0
      clear h h2 hm hp h0
      induction s with
      | nil => simp only [sm_nil]; grind
      | cons x s ih => simp only [sm_cons]; rw [ih]; grind
    rw [h3] at h2
    exact h2
  exact Rat.le_of_mul_le_mul_right h1 hm
theorem mean_le {s : List Ms} (hp : Pos s) (h0 : s ≠ []) {a : Rat} (h : ∀ x ∈ s, x.1 ≤ a) : mean s ≤ a := by
  have hm := M0_pos hp h0
  have h1 : mean s * M0 s ≤ a * M0 s := by
    rw [mean_eq hm]
    have h2 := sm_le (l := s) (g := fun x => x.2 * a) (f := fun x => x.2 * x.1) fun x hx => Rat.mul_le_mul_of_nonneg_left (h x hx) (Rat.le_of_lt (hp x hx))
    have h3 : sm s (fun x => x.2 * a) = a * M0 s := by
      unfold M0
      clear h h2 hm hp h0
      induction s with
      | nil => simp only [sm_nil]; grind
      | cons x s ih => simp only [sm_cons]; rw [ih]; grind
    rw [h3] at h2
    exact h2
  exact Rat.le_of_mul_le_mul_right h1 hm
theorem cen_ge : ∀ p t, Pos t → p < t.length → ∀ a : Rat, (∀ x ∈ t, a ≤ x.1) → ∀ c ∈ cen p t, a ≤ c
  | 0, t, hp, h, a, ha, c, hc => by
    rw [cen, List.mem_singleton] at hc
    rw [hc]
    exact mean_ge hp (len_ne h) ha
  | p + 1, t, hp, h, a, ha, c, hc => by
    obtain ⟨h1, h2, _⟩ := dv_at h
    rw [cen] at hc
    rcases List.mem_cons.1 hc with rfl | hc
    · exact mean_ge (hp.take _) (take_ne h1 (len_ne (by omega))) fun x hx => ha x (List.mem_of_mem_take hx)
    · exact cen_ge p _ (hp.drop _) (by rw [List.length_drop]; omega) a (fun x hx => ha x (List.mem_of_mem_drop hx)) c hc
theorem cen_le : ∀ p t, Pos t → p < t.length → ∀ a : Rat, (∀ x ∈ t, x.1 ≤ a) → ∀ c ∈ cen p t, c ≤ a
  | 0, t, hp, h, a, ha, c, hc => by
    rw [cen, List.mem_singleton] at hc
    rw [hc]
    exact mean_le hp (len_ne h) ha
  | p + 1, t, hp, h, a, ha, c, hc => by
    obtain ⟨h1, h2, _⟩ := dv_at h
    rw [cen] at hc
    rcases List.mem_cons.1 hc with rfl | hc
    · exact mean_le (hp.take _) (take_ne h1 (len_ne (by omega))) fun x hx => ha x (List.mem_of_mem_take hx)
    · exact cen_le p _ (hp.drop _) (by rw [List.length_drop]; omega) a (fun x hx => ha x (List.mem_of_mem_drop hx)) c hc
/-- what is taken comes before what is left -/
theorem take_lt_drop {t : List Ms} (ha : Asc t) {j : Nat} {x y : Ms} (hx : x ∈ t.take j) (hy : y ∈ t.drop j) : x.1 < y.1 := by
  have h : Asc (t.take j ++ t.drop j) := by rw [List.take_append_drop]; exact ha
  exact (List.pairwise_append.1 h).2.2 x hx y hy
theorem cen_asc : ∀ p t, Pos t → Asc t → p < t.length → (cen p t).Pairwise (· < ·)
  | 0, t, _, _, _ => by simp [cen]
  | p + 1, t, hp, ha, h => by
    obtain ⟨h1, h2, _⟩ := dv_at h
    rw [cen]
    refine List.pairwise_cons.2 ⟨fun c hc => ?_, cen_asc p _ (hp.drop _) (ha.drop _) (by rw [List.length_drop]; omega)⟩
    generalize (dv (p + 1) t).2 = j at *
    have hj : j < t.length := by omega
    have h3 : t[j] ∈ t.drop j := by rw [List.drop_eq_getElem_cons hj]; exact List.mem_cons_self
    obtain ⟨i, rfl⟩ : ∃ i, j = i + 1 := ⟨j - 1, by omega⟩
    have h4 : t[i] ∈ t.take (i + 1) := by rw [List.take_succ_eq_append_getElem (by omega)]; exact List.mem_append_right _ (List.mem_singleton_self _)
    have h5 : mean (t.take (i + 1)) ≤ t[i].1 := by
      refine mean_le (hp.take _) (take_ne h1 (len_ne (by omega))) fun x hx => ?_
      rw [List.take_succ_eq_append_getElem (by omega)] at hx
      rcases List.mem_append.1 hx with hx | hx
      · refine Rat.le_of_lt (take_lt_drop ha (j := i) hx ?_)
        rw [List.drop_eq_getElem_cons (by omega)]
        exact List.mem_cons_self
      · rw [List.mem_singleton.1 hx]
        exact Rat.le_refl
    have h6 : t[i + 1].1 ≤ c := by
      refine cen_ge p _ (hp.drop _) (by rw [List.length_drop]; omega) _ (fun x hx => ?_) c hc
      rw [List.drop_eq_getElem_cons hj] at hx
      rcases List.mem_cons.1 hx with rfl | hx
      · exact Rat.le_refl
      · refine Rat.le_of_lt (take_lt_drop ha (j := i + 1 + 1) ?_ hx)
        rw [List.take_succ_eq_append_getElem hj]
        exact List.mem_append_right _ (List.mem_singleton_self _)
    have h7 := take_lt_drop ha h4 h3
    grind
/-- the square of the distance to the nearest one -/
def mn (v : Rat) : List Rat → Rat
  | [] => 0
  | [c] => (v - c) * (v - c)
  | c :: d :: r => if (v - c) * (v - c) ≤ mn v (d :: r) then (v - c) * (v - c) else mn v (d :: r)
theorem mn_le (v : Rat) : ∀ cs, ∀ c ∈ cs, mn v cs ≤ (v - c) * (v - c)
  | [c], x, h => by rw [List.mem_singleton.1 h, mn]; exact Rat.le_refl
  | c :: d :: r, x, h => by
    rw [mn]
    rcases List.mem_cons.1 h with rfl | h
    · split
      · exact Rat.le_refl
      · grind
    · have := mn_le v (d :: r) x h
      split
      · grind
      · exact this
theorem mn_at (v : Rat) : ∀ cs, cs ≠ [] → ∃ c ∈ cs, mn v cs = (v - c) * (v - c)
  | [c], _ => ⟨c, by simp, rfl⟩
  | c :: d :: r, _ => by
    rw [mn]
    split
    · exact ⟨c, by simp, rfl⟩
    · obtain ⟨x, h1, h2⟩ := mn_at v (d :: r) (by simp)
      exact ⟨x, by simp [List.mem_cons.1 h1], h2⟩
/-- what centres cost -/
def gc (t : List Ms) (cs : List Rat) : Rat := sm t fun x => x.2 * mn x.1 cs
theorem gc_one (t : List Ms) (c : Rat) : gc t [c] = sq t c := rfl
theorem gc_upper : ∀ p t, Pos t → p < t.length → gc t (cen p t) ≤ (dv p t).1
  | 0, t, hp, h => by
    rw [cen, gc_one, sq_mean (M0_pos hp (len_ne h))]
    exact Rat.le_refl
  | p + 1, t, hp, h => by
    obtain ⟨h1, h2, h3⟩ := dv_at h
    rw [h3, cen]
    have h4 := gc_upper p (t.drop (dv (p + 1) t).2) (hp.drop _) (by rw [List.length_drop]; omega)
    generalize (dv (p + 1) t).2 = j at *
    have h5 : gc t (mean (t.take j) :: cen p (t.drop j)) = gc (t.take j) (mean (t.take j) :: cen p (t.drop j)) + gc (t.drop j) (mean (t.take j) :: cen p (t.drop j)) := by
      unfold gc
      rw [← sm_append, List.take_append_drop]
    have h6 : gc (t.take j) (mean (t.take j) :: cen p (t.drop j)) ≤ sq (t.take j) (mean (t.take j)) := sm_le fun x hx => Rat.mul_le_mul_of_nonneg_left (mn_le _ _ _ (by simp)) (Rat.le_of_lt (hp.take j x hx))
    rw [sq_mean (M0_pos (hp.take _) (take_ne h1 (len_ne (by omega))))] at h6
    have h7 : gc (t.drop j) (mean (t.take j) :: cen p (t.drop j)) ≤ gc (t.drop j) (cen p (t.drop j)) := sm_le fun x hx => by
      refine Rat.mul_le_mul_of_nonneg_left ?_ (Rat.le_of_lt (hp.drop j x hx))
      obtain ⟨c, hc1, hc2⟩ := mn_at x.1 (cen p (t.drop j)) (by intro e; have := cen_length p (t.drop j); rw [e] at this; cases this)
      rw [hc2]
      exact mn_le _ _ _ (by simp [hc1])
    rw [h5]
    grind
theorem farther {c d x y : Rat} (h : c ≤ d) (h1 : (x - d) * (x - d) < (x - c) * (x - c)) (hy : x ≤ y) : (y - d) * (y - d) ≤ (y - c) * (y - c) := by
  have h2 := Rat.mul_nonneg (show 0 ≤ d - c by grind) (show 0 ≤ y - x by grind)
  grind
theorem gc_split {c : Rat} {rest : List Rat} (hc : ∀ d ∈ rest, c ≤ d) (hr : rest ≠ []) : ∀ t, Pos t → Asc t → ∃ j, j ≤ t.length ∧ sq (t.take j) c + gc (t.drop j) rest ≤ gc t (c :: rest)
  | [], _, _ => ⟨0, Nat.le_refl _, by simp [sq, gc, sm_nil]; grind⟩
  | x :: t, hp, ha => by
    obtain ⟨d, r, rfl⟩ : ∃ d r, rest = d :: r := by
      cases rest with
      | nil => exact absurd rfl hr
      | cons d r => exact ⟨d, r, rfl⟩
    by_cases h : (x.1 - c) * (x.1 - c) ≤ mn x.1 (d :: r)
    · obtain ⟨j, h1, h2⟩ := gc_split hc hr t (fun y hy => hp y (by simp [hy])) (List.pairwise_cons.1 ha).2
      refine ⟨j + 1, by simpa using h1, ?_⟩
      rw [List.take_succ_cons, List.drop_succ_cons]
      unfold sq gc at h2 ⊢
      rw [sm_cons, sm_cons]
      have h3 : mn x.1 (c :: d :: r) = (x.1 - c) * (x.1 - c) := by rw [mn, if_pos h]
      rw [h3]
      grind
    · refine ⟨0, Nat.zero_le _, ?_⟩
      have h1 : sq (List.take 0 (x :: t)) c = 0 := rfl
      rw [h1, List.drop_zero]
      have h2 : gc (x :: t) (d :: r) ≤ gc (x :: t) (c :: d :: r) := sm_le fun y hy => by
        refine Rat.mul_le_mul_of_nonneg_left ?_ (Rat.le_of_lt (hp y hy))
        obtain ⟨e, he1, he2⟩ := mn_at x.1 (d :: r) (by simp)
        have hxy : x.1 ≤ y.1 := by
          rcases List.mem_cons.1 hy with rfl | hy
          · exact Rat.le_refl
          · exact Rat.le_of_lt ((List.pairwise_cons.1 ha).1 y hy)
        have h3 := farther (hc e he1) (x := x.1) (y := y.1) (by rw [← he2]; grind) hxy
        have h4 := mn_le y.1 (d :: r) e he1
        rw [mn]
        split
        · grind
        · exact Rat.le_refl
      grind
theorem gc_sorted : ∀ cs : List Rat, cs ≠ [] → cs.Pairwise (· ≤ ·) → ∀ t, Pos t → Asc t → 0 < t.length → ∃ p, p < cs.length ∧ p < t.length ∧ (dv p t).1 ≤ gc t cs
  | [c], _, _, t, hp, _, h => ⟨0, by simp, h, by rw [gc_one]; exact cst_le (M0_pos hp (len_ne h)) c⟩
  | c :: d :: r, _, hs, t, hp, ha, h => by
    obtain ⟨hs1, hs2⟩ := List.pairwise_cons.1 hs
    obtain ⟨j, hj, h1⟩ := gc_split hs1 (by simp) t hp ha
    rcases Nat.eq_zero_or_pos j with rfl | hj0
    · obtain ⟨p, h2, h3, h4⟩ := gc_sorted (d :: r) (by simp) hs2 t hp ha h
      have h5 : sq (List.take 0 t) c = 0 := rfl
      rw [h5, List.drop_zero] at h1
      exact ⟨p, by simp at h2 ⊢; omega, h3, by grind⟩
    · have h5 := cst_le (M0_pos (hp.take j) (take_ne hj0 (len_ne h))) c
      rcases Nat.lt_or_ge j t.length with hjt | hjt
      · obtain ⟨p, h2, h3, h4⟩ := gc_sorted (d :: r) (by simp) hs2 (t.drop j) (hp.drop j) (ha.drop j) (by rw [List.length_drop]; omega)
        rw [List.length_drop] at h3
        have h6 := dv_le (p := p) hj0 (show j + (p + 1) ≤ t.length by omega)
        exact ⟨p + 1, by simp at h2 ⊢; omega, by omega, by grind⟩
      · rw [List.take_of_length_le hjt, List.drop_eq_nil_of_le hjt] at *
        have h6 : gc [] (d :: r) = 0 := rfl
        refine ⟨0, by simp, h, ?_⟩
        show cst t ≤ _
        grind
theorem mn_perm {a b : List Rat} (h : a.Perm b) (v : Rat) : mn v a = mn v b := by
  rcases a with _ | ⟨x, a⟩
  · rw [List.nil_perm.1 h]
  · have ha : x :: a ≠ [] := by simp
    have hb : b ≠ [] := fun e => by rw [e] at h; exact absurd (List.perm_nil.1 h) (by simp)
    obtain ⟨c, h1, h2⟩ := mn_at v (x :: a) ha
    obtain ⟨d, h3, h4⟩ := mn_at v b hb
    have h5 := mn_le v b c (h.mem_iff.1 h1)
    have h6 := mn_le v (x :: a) d (h.mem_iff.2 h3)
    grind
/-- no centres are cheaper than the cheapest division into as many parts at most -/
theorem gc_lower {cs : List Rat} (h0 : cs ≠ []) {t : List Ms} (hp : Pos t) (ha : Asc t) (h : 0 < t.length) : ∃ p, p < cs.length ∧ p < t.length ∧ (dv p t).1 ≤ gc t cs := by
  have hperm : (cs.mergeSort fun a b => decide (a ≤ b)).Perm cs := List.mergeSort_perm _ _
  have hs : (cs.mergeSort fun a b => decide (a ≤ b)).Pairwise fun a b => decide (a ≤ b) = true := List.pairwise_mergeSort (fun a b c h1 h2 => by simp at *; grind) (fun a b => by simp; exact Rat.le_total) cs
  obtain ⟨p, h1, h2, h3⟩ := gc_sorted (cs.mergeSort fun a b => decide (a ≤ b)) (fun e => h0 (by rw [e] at hperm; exact List.nil_perm.1 hperm)) (hs.imp fun h => by simpa using h) t hp ha h
  refine ⟨p, by rwa [hperm.length_eq] at h1, h2, ?_⟩
  have h4 : gc t (cs.mergeSort fun a b => decide (a ≤ b)) = gc t cs := by
    unfold gc
    congr 1
    funext x
    rw [mn_perm hperm]
  rwa [h4] at h3
/-- the first least of f 0 .. f m -/
def bp (f : Nat → Rat) : Nat → Nat
  | 0 => 0
  | m + 1 => if f (m + 1) < f (bp f m) then m + 1 else bp f m
theorem bp_lt (f : Nat → Rat) : ∀ m, bp f m ≤ m
  | 0 => Nat.le_refl _
  | m + 1 => by
    have := bp_lt f m
    rw [bp]
    split <;> omega
theorem bp_le (f : Nat → Rat) : ∀ m j, j ≤ m → f (bp f m) ≤ f j
  | 0, j, h => by
    obtain rfl : j = 0 := by omega
    exact Rat.le_refl
  | m + 1, j, h => by
    rw [bp]
    rcases Nat.lt_or_ge j (m + 1) with hj | hj
    · have := bp_le f m j (by omega)
      split
      · grind
      · exact this
    · obtain rfl : j = m + 1 := by omega
      split
      · exact Rat.le_refl
      · grind
theorem bp_congr {f g : Nat → Rat} : ∀ m, (∀ j, j ≤ m → f j = g j) → bp f m = bp g m
  | 0, _ => rfl
  | m + 1, h => by
    have h1 := bp_congr m fun j hj => h j (by omega)
    have h2 := bp_lt g m
    rw [bp, bp, h1, h (m + 1) (by omega), h (bp g m) (by omega)]
theorem bp_mul {f : Nat → Rat} {b : Rat} (hb : 0 < b) : ∀ m, bp (fun j => b * f j) m = bp f m
  | 0 => rfl
  | m + 1 => by
    rw [bp, bp, bp_mul hb m]
    have h : b * f (m + 1) < b * f (bp f m) ↔ f (m + 1) < f (bp f m) := Rat.mul_lt_mul_left hb
    by_cases hc : f (m + 1) < f (bp f m)
    · rw [if_pos hc, if_pos (h.2 hc)]
    · rw [if_neg hc, if_neg (fun h' => hc (h.1 h'))]
/-- what Line finds: the number of parts less one, the cost, the centres -/
def lp (l : List Ms) (k : Nat) : Nat := bp (fun p => (dv p l).1) (min k l.length - 1)
def lcost (l : List Ms) (k : Nat) : Rat := (dv (lp l k) l).1
def lcen (l : List Ms) (k : Nat) : List Rat := cen (lp l k) l
theorem lp_lt {l : List Ms} {k : Nat} (h0 : 0 < l.length) (hk : 1 ≤ k) : lp l k < min k l.length := by
  have := bp_lt (fun p => (dv p l).1) (min k l.length - 1)
  unfold lp
  omega
theorem lcen_length (l : List Ms) (k : Nat) : (lcen l k).length = lp l k + 1 := cen_length _ _
theorem lcost_le {l : List Ms} {k p : Nat} (h : p < k) (h2 : p < l.length) : lcost l k ≤ (dv p l).1 := bp_le (fun p => (dv p l).1) _ p (by omega)
theorem lcost_gc {l : List Ms} {k : Nat} (hp : Pos l) (ha : Asc l) (h0 : 0 < l.length) (hk : 1 ≤ k) : gc l (lcen l k) = lcost l k := by
  have hl := lp_lt h0 hk
  have h1 := gc_upper (lp l k) l hp (by omega)
  obtain ⟨p, h2, h3, h4⟩ := gc_lower (cs := lcen l k) (fun e => by have := lcen_length l k; rw [e] at this; cases this) hp ha h0
  have h5 := lcost_le (l := l) (k := k) (p := p) (by rw [lcen_length] at h2; omega) h3
  have h6 : gc l (lcen l k) ≤ lcost l k := h1
  grind
theorem lcost_least {l : List Ms} {k : Nat} (hp : Pos l) (ha : Asc l) (h0 : 0 < l.length) {cs : List Rat} (hc : cs ≠ []) (hl : cs.length ≤ k) : lcost l k ≤ gc l cs := by
  obtain ⟨p, h2, h3, h4⟩ := gc_lower hc hp ha h0
  have := lcost_le (l := l) (k := k) (p := p) (by omega) h3
  grind
theorem lcost_more {l : List Ms} {k : Nat} (h0 : 0 < l.length) (hk : 1 ≤ k) : lcost l (k + 1) ≤ lcost l k := by
  have := lp_lt h0 hk
  exact lcost_le (by omega) (by omega)
theorem lcost_nonneg {l : List Ms} {k : Nat} (hp : Pos l) (h0 : 0 < l.length) (hk : 1 ≤ k) : 0 ≤ lcost l k := by
  have := lp_lt h0 hk
  exact dv_nonneg _ _ hp (by omega)
theorem lcost_few {l : List Ms} {k : Nat} (hp : Pos l) (h0 : 0 < l.length) (hk : 1 ≤ k) (h : l.length ≤ k) : lcost l k = 0 := by
  have h1 := lcost_le (l := l) (k := k) (p := l.length - 1) (by omega) (by omega)
  rw [dv_full (l.length - 1) l hp (by omega)] at h1
  have h2 := lcost_nonneg hp h0 hk
  grind
theorem lcost_zero {l : List Ms} {k : Nat} (hp : Pos l) (ha : Asc l) (h0 : 0 < l.length) (hk : 1 ≤ k) : lcost l k = 0 ↔ (lcen l k).length = l.length := by
  have h1 := lp_lt h0 hk
  rw [lcen_length]
  constructor
  · intro h
    exact (dv_zero _ _ hp ha (by omega) h).symm
  · intro h
    exact dv_full _ _ hp h.symm
/-- all values moved -/
def shf (a : Rat) (l : List Ms) : List Ms := l.map fun x => (x.1 + a, x.2)
theorem shf_length (a : Rat) (l : List Ms) : (shf a l).length = l.length := List.length_map _
theorem shf_take (a : Rat) (l : List Ms) (j : Nat) : (shf a l).take j = shf a (l.take j) := by simp [shf, List.map_take]
theorem shf_drop (a : Rat) (l : List Ms) (j : Nat) : (shf a l).drop j = shf a (l.drop j) := by simp [shf, List.map_drop]
theorem shf_M0 (a : Rat) (l : List Ms) : M0 (shf a l) = M0 l := by unfold M0 shf; rw [sm_map]
theorem shf_M1 (a : Rat) (l : List Ms) : M1 (shf a l) = M1 l + a * M0 l := by
  unfold M1 M0 shf
  rw [sm_map]
  induction l with
  | nil => simp only [sm_nil]; grind
  | cons x l ih => simp only [sm_cons]; rw [ih]; grind
theorem shf_M2 (a : Rat) (l : List Ms) : M2 (shf a l) = M2 l + 2 * a * M1 l + a * a * M0 l := by
  unfold M2 M1 M0 shf
  rw [sm_map]
  induction l with
  | nil => simp only [sm_nil]; grind
  | cons x l ih => simp only [sm_cons]; rw [ih]; grind
theorem shf_pos {a : Rat} {l : List Ms} (h : Pos l) : Pos (shf a l) := fun x hx => by
  obtain ⟨y, hy, rfl⟩ := List.mem_map.1 hx
  exact h y hy
theorem shf_mean {a : Rat} {s : List Ms} (h : 0 < M0 s) : mean (shf a s) = mean s + a := by
  have h1 := mean_eq h
  have h2 := mean_eq (s := shf a s) (by rw [shf_M0]; exact h)
  rw [shf_M0, shf_M1, ← h1] at h2
  have h3 : (mean (shf a s) - (mean s + a)) * M0 s = 0 := by grind
  rcases Rat.mul_eq_zero.1 h3 with h | h <;> grind
theorem shf_cst {a : Rat} {s : List Ms} (h : 0 < M0 s) : cst (shf a s) = cst s := by
  rw [cst_eq (s := shf a s) (by rw [shf_M0]; exact h), cst_eq h, shf_mean h, shf_M0, shf_M2, ← mean_eq h]
  grind
theorem shf_dv (a : Rat) : ∀ p t, Pos t → p < t.length → dv p (shf a t) = dv p t
  | 0, t, hp, h => by rw [dv, dv, shf_cst (M0_pos hp (len_ne h)), shf_length]
  | p + 1, t, hp, h => by
    rw [dv, dv, shf_length]
    refine bst_congr _ fun j h1 h2 => ?_
    rw [shf_take, shf_drop, shf_cst (M0_pos (hp.take j) (take_ne h1 (len_ne (by omega)))), shf_dv a p (t.drop j) (hp.drop j) (by rw [List.length_drop]; omega)]
theorem shf_cen (a : Rat) : ∀ p t, Pos t → p < t.length → cen p (shf a t) = (cen p t).map (· + a)
  | 0, t, hp, h => by rw [cen, cen, shf_mean (M0_pos hp (len_ne h))]; rfl
  | p + 1, t, hp, h => by
    obtain ⟨h1, h2, _⟩ := dv_at h
    rw [cen, cen, shf_dv a (p + 1) t hp h, shf_take, shf_drop, shf_mean (M0_pos (hp.take _) (take_ne h1 (len_ne (by omega)))), shf_cen a p _ (hp.drop _) (by rw [List.length_drop]; omega)]
    rfl
/-- all weights multiplied -/
def hvy (b : Rat) (l : List Ms) : List Ms := l.map fun x => (x.1, x.2 * b)
theorem hvy_length (b : Rat) (l : List Ms) : (hvy b l).length = l.length := List.length_map _
theorem hvy_take (b : Rat) (l : List Ms) (j : Nat) : (hvy b l).take j = hvy b (l.take j) := by simp [hvy, List.map_take]
theorem hvy_drop (b : Rat) (l : List Ms) (j : Nat) : (hvy b l).drop j = hvy b (l.drop j) := by simp [hvy, List.map_drop]
theorem hvy_M0 (b : Rat) (l : List Ms) : M0 (hvy b l) = b * M0 l := by
  unfold M0 hvy
  rw [sm_map]
  induction l with
  | nil => simp only [sm_nil]; grind
  | cons x l ih => simp only [sm_cons]; rw [ih]; grind
theorem hvy_M1 (b : Rat) (l : List Ms) : M1 (hvy b l) = b * M1 l := by
  unfold M1 hvy
  rw [sm_map]
  induction l with
  | nil => simp only [sm_nil]; grind
  | cons x l ih => simp only [sm_cons]; rw [ih]; grind
theorem hvy_M2 (b : Rat) (l : List Ms) : M2 (hvy b l) = b * M2 l := by
  unfold M2 hvy
  rw [sm_map]
  induction l with
  | nil => simp only [sm_nil]; grind
  | cons x l ih => simp only [sm_cons]; rw [ih]; grind
theorem hvy_pos {b : Rat} (hb : 0 < b) {l : List Ms} (h : Pos l) : Pos (hvy b l) := fun x hx => by
  obtain ⟨y, hy, rfl⟩ := List.mem_map.1 hx
  exact Rat.mul_pos (h y hy) hb
theorem hvy_mean {b : Rat} (hb : 0 < b) {s : List Ms} (h : 0 < M0 s) : mean (hvy b s) = mean s := by
  have h1 := mean_eq h
  have hbm : 0 < b * M0 s := Rat.mul_pos hb h
  have h2 := mean_eq (s := hvy b s) (by rw [hvy_M0]; exact hbm)
  rw [hvy_M0, hvy_M1, ← h1] at h2
  have h3 : (mean (hvy b s) - mean s) * (b * M0 s) = 0 := by grind
  rcases Rat.mul_eq_zero.1 h3 with h | h <;> grind
theorem hvy_cst {b : Rat} (hb : 0 < b) {s : List Ms} (h : 0 < M0 s) : cst (hvy b s) = b * cst s := by
  rw [cst_eq (s := hvy b s) (by rw [hvy_M0]; exact Rat.mul_pos hb h), cst_eq h, hvy_mean hb h, hvy_M0, hvy_M2]
  grind
theorem hvy_dv {b : Rat} (hb : 0 < b) : ∀ p t, Pos t → p < t.length → dv p (hvy b t) = (b * (dv p t).1, (dv p t).2)
  | 0, t, hp, h => by rw [dv, dv, hvy_cst hb (M0_pos hp (len_ne h)), hvy_length]
  | p + 1, t, hp, h => by
    rw [dv, dv, hvy_length, ← bst_mul hb]
    refine bst_congr _ fun j h1 h2 => ?_
    rw [hvy_take, hvy_drop, hvy_cst hb (M0_pos (hp.take j) (take_ne h1 (len_ne (by omega)))), hvy_dv hb p (t.drop j) (hp.drop j) (by rw [List.length_drop]; omega)]
    show b * cst (t.take j) + b * (dv p (t.drop j)).1 = b * (cst (t.take j) + (dv p (t.drop j)).1)
    grind
theorem hvy_cen {b : Rat} (hb : 0 < b) : ∀ p t, Pos t → p < t.length → cen p (hvy b t) = cen p t
  | 0, t, hp, h => by rw [cen, cen, hvy_mean hb (M0_pos hp (len_ne h))]
  | p + 1, t, hp, h => by
    obtain ⟨h1, h2, _⟩ := dv_at h
    rw [cen, cen, hvy_dv hb (p + 1) t hp h, hvy_take, hvy_drop, hvy_mean hb (M0_pos (hp.take _) (take_ne h1 (len_ne (by omega)))), hvy_cen hb p _ (hp.drop _) (by rw [List.length_drop]; omega)]
theorem shf_line {l : List Ms} {k : Nat} (a : Rat) (hp : Pos l) (h0 : 0 < l.length) (hk : 1 ≤ k) : lcost (shf a l) k = lcost l k ∧ lcen (shf a l) k = (lcen l k).map (· + a) := by
  have h1 := lp_lt h0 hk
  have h2 : lp (shf a l) k = lp l k := by
    unfold lp
    rw [shf_length]
    exact bp_congr _ fun j hj => by rw [shf_dv a j l hp (by omega)]
  unfold lcost lcen
  rw [h2, shf_dv a _ l hp (by omega), shf_cen a _ l hp (by omega)]
  exact ⟨rfl, rfl⟩
theorem hvy_line {l : List Ms} {k : Nat} {b : Rat} (hb : 0 < b) (hp : Pos l) (h0 : 0 < l.length) (hk : 1 ≤ k) : lcost (hvy b l) k = lcost l k * b ∧ lcen (hvy b l) k = lcen l k := by
  have h1 := lp_lt h0 hk
  have h2 : lp (hvy b l) k = lp l k := by
    unfold lp
    rw [hvy_length]
    refine Eq.trans (bp_congr (g := fun j => b * (dv j l).1) _ fun j hj => ?_) (bp_mul hb _)
    show (dv j (hvy b l)).1 = b * (dv j l).1
    rw [hvy_dv hb j l hp (by omega)]
  unfold lcost lcen
  rw [h2, hvy_dv hb _ l hp (by omega), hvy_cen hb _ l hp (by omega)]
  exact ⟨Rat.mul_comm _ _, rfl⟩
theorem lcen_asc {l : List Ms} {k : Nat} (hp : Pos l) (ha : Asc l) (h0 : 0 < l.length) (hk : 1 ≤ k) : (lcen l k).Pairwise (· < ·) := by
  have := lp_lt h0 hk
  exact cen_asc _ _ hp ha (by omega)
end Go.Proofs.YtkhmfgkbobblmaaGreatDoor
