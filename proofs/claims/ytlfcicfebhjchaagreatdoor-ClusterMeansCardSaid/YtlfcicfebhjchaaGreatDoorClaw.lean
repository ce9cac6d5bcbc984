/- Points whose weights are multiplied; how long the numbers of made points are. -/
import Derived.Test.YtlfcicfebhjchaaGreatDoorStp
namespace Go.Proofs.YtlfcicfebhjchaaGreatDoor
open Go.RowKit Go.Lib

def heavy (k : Rat) (l : List Pt) : List Pt := l.map fun x => (x.1, x.2 * k)
theorem heavy_next {k : Rat} {l : List Pt} {t : Nat} (h : t < l.length) : heavy k (l.take (t + 1)) = heavy k (l.take t) ++ [(l[t].1, l[t].2 * k)] := by
  unfold heavy
  rw [List.take_succ_eq_append_getElem h, List.map_append]
  rfl
theorem heavy_length (k : Rat) (l : List Pt) : (heavy k l).length = l.length := by simp [heavy]
theorem cost_heavy (k : Rat) (l : List Pt) (cs : List (List Rat)) : cost (heavy k l) cs = cost l cs * k := by
  have go : ∀ (l : List Pt) (s : Rat), (heavy k l).foldl (fun s x => s + x.2 * (near x.1 cs).2) (s * k) = l.foldl (fun s x => s + x.2 * (near x.1 cs).2) s * k := by
    intro l
    induction l with
    | nil => intro s; rfl
    | cons x l ih =>
      intro s
      rw [heavy, List.map_cons, List.foldl_cons, List.foldl_cons, ← ih, ← heavy]
      congr 1
      show s * k + x.2 * k * (near x.1 cs).2 = (s + x.2 * (near x.1 cs).2) * k
      grind
  have h := go l 0
  rw [Rat.zero_mul] at h
  exact h
theorem assign_heavy (k : Rat) (l : List Pt) (cs : List (List Rat)) : assign (heavy k l) cs = assign l cs := by
  unfold assign heavy
  rw [List.map_map]
  rfl
theorem wsum_heavy (k : Rat) (l : List Pt) (cs : List (List Rat)) (i : Nat) : wsum (heavy k l) cs i = wsum l cs i * k := by
  have go : ∀ (l : List Pt) (s : Rat), (heavy k l).foldl (fun s x => if (near x.1 cs).1 = (i : Int) then s + x.2 else s) (s * k) = l.foldl (fun s x => if (near x.1 cs).1 = (i : Int) then s + x.2 else s) s * k := by
    intro l
    induction l with
    | nil => intro s; rfl
    | cons x l ih =>
      intro s
      rw [heavy, List.map_cons, List.foldl_cons, List.foldl_cons, ← ih, ← heavy]
      congr 1
      by_cases h : (near x.1 cs).1 = (i : Int)
      · simp only [h, if_true]
        grind
      · simp only [h, if_false]
  have h := go l 0
  rw [Rat.zero_mul] at h
  exact h
theorem ssum_heavy (k : Rat) (l : List Pt) (cs : List (List Rat)) (i b : Nat) : ssum (heavy k l) cs i b = ssum l cs i b * k := by
  have go : ∀ (l : List Pt) (s : Rat), (heavy k l).foldl (fun s x => if (near x.1 cs).1 = (i : Int) then s + x.2 * x.1.getD b 0 else s) (s * k) = l.foldl (fun s x => if (near x.1 cs).1 = (i : Int) then s + x.2 * x.1.getD b 0 else s) s * k := by
    intro l
    induction l with
    | nil => intro s; rfl
    | cons x l ih =>
      intro s
      rw [heavy, List.map_cons, List.foldl_cons, List.foldl_cons, ← ih, ← heavy]
      congr 1
      by_cases h : (near x.1 cs).1 = (i : Int)
      · simp only [h, if_true]
        grind
      · simp only [h, if_false]
  have h := go l 0
  rw [Rat.zero_mul] at h
  exact h
theorem div_both {s w k : Rat} (hk : ¬ k = 0) : s * k / (w * k) = s / w := by
  rw [Rat.div_def, Rat.div_def, Rat.inv_mul_rev]
  have h : s * k * (k⁻¹ * w⁻¹) = s * w⁻¹ * (k * k⁻¹) := by grind
  rw [h, Rat.mul_inv_cancel k hk]
  grind
theorem stepF_heavy {k : Rat} (hk : ¬ k = 0) (n : Nat) (l : List Pt) (cs : List (List Rat)) : stepF n (heavy k l) cs = stepF n l cs := by
  rw [stepF_eq, stepF_eq]
  refine List.map_congr_left fun a _ => ?_
  unfold stepR
  rw [wsum_heavy]
  by_cases h : wsum l cs a = 0
  · rw [if_pos h, if_pos (by rw [h, Rat.zero_mul])]
  · rw [if_neg h, if_neg (fun e => (Rat.mul_eq_zero.1 e).elim h hk)]
    exact List.map_congr_left fun b _ => by rw [ssum_heavy, div_both hk]
theorem intp_fit {q : Rat} (h : IntP q) : FitQ 1 q := by
  obtain ⟨r, h1, h2, rfl⟩ := h
  exact ⟨by rw [int_rat_num]; omega, by rw [int_rat_den]; decide⟩
theorem wt_fit {q : Rat} (h : Wt q) : FitQ 1 q ∧ 0 < q.num := by
  rcases h with rfl | rfl | rfl | rfl
  · exact ⟨⟨of_decide_eq_true (by kernel_rfl), of_decide_eq_true (by kernel_rfl)⟩, of_decide_eq_true (by kernel_rfl)⟩
  · exact ⟨⟨of_decide_eq_true (by kernel_rfl), of_decide_eq_true (by kernel_rfl)⟩, of_decide_eq_true (by kernel_rfl)⟩
  · exact ⟨⟨of_decide_eq_true (by kernel_rfl), of_decide_eq_true (by kernel_rfl)⟩, of_decide_eq_true (by kernel_rfl)⟩
  · exact ⟨⟨of_decide_eq_true (by kernel_rfl), of_decide_eq_true (by kernel_rfl)⟩, of_decide_eq_true (by kernel_rfl)⟩
theorem dist_fitE' {a b : List Rat} {e f : Nat} (hl : a.length = b.length) (fa : ∀ q ∈ a, FitQ e q) (fb : ∀ q ∈ b, FitQ f q) : ∀ k, k ≤ a.length → FitQ (1 + k * (2 * (e + f + 1) + 1)) (dist (a.take k) (b.take k))
  | 0, _ => zero_fit (by omega)
  | k + 1, h => by
    have h1 := dist_fitE' hl fa fb k (by omega)
    have h2 := (fa a[k] (by simp)).sub (fb (b[k]'(by omega)) (by simp))
    rw [dist_next (by omega) (by omega)]
    refine (h1.add (h2.mul h2)).mono ?_
    rw [Nat.succ_mul k]
    generalize k * (2 * (e + f + 1) + 1) = X
    omega
theorem dist_fitE {a b : List Rat} {e f E : Nat} (hl : a.length = b.length) (hn : a.length ≤ 3) (fa : ∀ q ∈ a, FitQ e q) (fb : ∀ q ∈ b, FitQ f q) (hE : 1 + 3 * (2 * (e + f + 1) + 1) ≤ E) : FitQ E (dist a b) := by
  have h := dist_fitE' hl fa fb a.length (Nat.le_refl _)
  rw [List.take_of_length_le (Nat.le_refl _), List.take_of_length_le (by omega)] at h
  refine h.mono ?_
  have := Nat.mul_le_mul_right (2 * (e + f + 1) + 1) hn
  omega
theorem near_fitE {p : List Rat} {cs : List (List Rat)} {E : Nat} (hE : 1 ≤ E) (h : ∀ c ∈ cs, FitQ E (dist p c)) : FitQ E (near p cs).2 := by
  have go : ∀ k, k ≤ cs.length → FitQ E (near p (cs.take k)).2 := by
    intro k
    induction k with
    | zero => intro _; exact zero_fit hE
    | succ k ih =>
      intro hk
      have h1 := ih (by omega)
      rw [near_next (by omega)]
      by_cases hc : (near p (cs.take k)).1 < 0 ∨ dist p cs[k] < (near p (cs.take k)).2
      · rw [nearer_pos hc]
        exact h _ (by simp)
      · rw [nearer_neg hc]
        exact h1
  have h1 := go cs.length (Nat.le_refl _)
  rw [List.take_of_length_le (Nat.le_refl _)] at h1
  exact h1
theorem cost_fitE {l : List Pt} {cs : List (List Rat)} {d E X : Nat} (hw : ∀ x ∈ l, FitQ d x.2) (hn : ∀ x ∈ l, FitQ E (near x.1 cs).2) (hX : 1 + l.length * (d + E + 1) ≤ X) : FitQ X (cost l cs) := by
  have go : ∀ k, k ≤ l.length → FitQ (1 + k * (d + E + 1)) (cost (l.take k) cs) := by
    intro k
    induction k with
    | zero => intro _; exact zero_fit (by omega)
    | succ k ih =>
      intro hk
      have h1 := ih (by omega)
      rw [cost_next (by omega)]
      refine (h1.add ((hw l[k] (by simp)).mul (hn l[k] (by simp)))).mono ?_
      rw [Nat.succ_mul k]
      omega
  have h1 := go l.length (Nat.le_refl _)
  rw [List.take_of_length_le (Nat.le_refl _)] at h1
  exact h1.mono hX
theorem wsum_fitE {l : List Pt} {cs : List (List Rat)} {d X : Nat} (hw : ∀ x ∈ l, FitQ d x.2) (i : Nat) (hX : 1 + l.length * (d + 1) ≤ X) : FitQ X (wsum l cs i) := by
  have go : ∀ k, k ≤ l.length → FitQ (1 + k * (d + 1)) (wsum (l.take k) cs i) := by
    intro k
    induction k with
    | zero => intro _; exact zero_fit (by omega)
    | succ k ih =>
      intro hk
      have h1 := ih (by omega)
      rw [wsum_next (by omega)]
      split
      · refine (h1.add (hw l[k] (by simp))).mono ?_
        rw [Nat.succ_mul k]
        omega
      · refine h1.mono ?_
        rw [Nat.succ_mul k]
        omega
  have h1 := go l.length (Nat.le_refl _)
  rw [List.take_of_length_le (Nat.le_refl _)] at h1
  exact h1.mono hX
theorem ssum_fitE {l : List Pt} {cs : List (List Rat)} {d e X : Nat} (he : 1 ≤ e) (hw : ∀ x ∈ l, FitQ d x.2) (hp : ∀ x ∈ l, ∀ q ∈ x.1, FitQ e q) (i b : Nat) (hX : 1 + l.length * (d + e + 1) ≤ X) : FitQ X (ssum l cs i b) := by
  have go : ∀ k, k ≤ l.length → FitQ (1 + k * (d + e + 1)) (ssum (l.take k) cs i b) := by
    intro k
    induction k with
    | zero => intro _; exact zero_fit (by omega)
    | succ k ih =>
      intro hk
      have h1 := ih (by omega)
      rw [ssum_next (by omega)]
      split
      · refine (h1.add ((hw l[k] (by simp)).mul (getD_fit he (hp l[k] (by simp)) b))).mono ?_
        rw [Nat.succ_mul k]
        omega
      · refine h1.mono ?_
        rw [Nat.succ_mul k]
        omega
  have h1 := go l.length (Nat.le_refl _)
  rw [List.take_of_length_le (Nat.le_refl _)] at h1
  exact h1.mono hX
theorem stepF_fitE {n : Nat} {l : List Pt} {cs : List (List Rat)} {d e f X : Nat} (hg : Good n l cs) (he : 1 ≤ e) (hw : ∀ x ∈ l, FitQ d x.2) (hp : ∀ x ∈ l, ∀ q ∈ x.1, FitQ e q) (hc : ∀ c ∈ cs, ∀ q ∈ c, FitQ f q) (hX : 1 + l.length * (d + e + 1) + (1 + l.length * (d + 1)) ≤ X) (hf : f ≤ X) : ∀ p ∈ stepF n l cs, ∀ q ∈ p, FitQ X q := by
  intro p hp' q hq
  rw [stepF_eq] at hp'
  obtain ⟨a, ha, rfl⟩ := List.mem_map.1 hp'
  have ha : a < cs.length := by simpa using ha
  unfold stepR at hq
  by_cases h : wsum l cs a = 0
  · rw [if_pos h, List.getD_eq_getElem?_getD, List.getElem?_eq_getElem ha] at hq
    exact (hc _ (List.getElem_mem ha) q hq).mono hf
  · rw [if_neg h] at hq
    obtain ⟨b, _, rfl⟩ := List.mem_map.1 hq
    have h0 := wsum_nonneg hg a l.length (Nat.le_refl _)
    rw [List.take_of_length_le (Nat.le_refl _)] at h0
    exact ((ssum_fitE he hw hp a b (Nat.le_refl _)).div (wsum_fitE hw a (Nat.le_refl _)) (num_zero h h0)).mono hX
/-- made points -/
def MadeL (n : Nat) (l : List Pt) : Prop := ∀ x ∈ l, x.1.length = n ∧ (∀ q ∈ x.1, IntP q) ∧ Wt x.2
def MadeC (n : Nat) (cs : List (List Rat)) : Prop := ∀ p ∈ cs, p.length = n ∧ ∀ q ∈ p, IntP q
theorem good_made {n : Nat} {l : List Pt} {cs : List (List Rat)} (h1 : 1 ≤ n) (h3 : n ≤ 3) (hl : l.length ≤ 300) (hc : cs.length ≤ 4) (ml : MadeL n l) (mc : MadeC n cs) : Good n l cs :=
  ⟨h1, h3, hl, hc, fun x hx => (ml x hx).1, fun c hc => (mc c hc).1, fun x hx q hq => (intp_fit ((ml x hx).2.1 q hq)).mono (by decide), fun c hc q hq => (intp_fit ((mc c hc).2 q hq)).mono (by decide), fun x hx => (wt_fit (ml x hx).2.2).1.mono (by decide), fun x hx => (wt_fit (ml x hx).2.2).2⟩
theorem near_made {n : Nat} {l : List Pt} {cs : List (List Rat)} (h3 : n ≤ 3) (ml : MadeL n l) (mc : MadeC n cs) : ∀ x ∈ l, FitQ 22 (near x.1 cs).2 := fun x hx =>
  near_fitE (by decide) fun c hc => dist_fitE (e := 1) (f := 1) (by rw [(ml x hx).1, (mc c hc).1]) (by rw [(ml x hx).1]; exact h3) (fun q hq => intp_fit ((ml x hx).2.1 q hq)) (fun q hq => intp_fit ((mc c hc).2 q hq)) (by decide)
end Go.Proofs.YtlfcicfebhjchaaGreatDoor
