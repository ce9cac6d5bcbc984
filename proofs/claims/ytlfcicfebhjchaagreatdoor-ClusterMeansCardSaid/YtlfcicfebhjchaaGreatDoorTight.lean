/- How short the numbers of means of made points are. -/
import Derived.Test.YtlfcicfebhjchaaGreatDoorRun
namespace Go.Proofs.YtlfcicfebhjchaaGreatDoor
open Go.RowKit Go.Lib

/-- twice q is a whole number, at most B -/
def HalfI (B : Nat) (q : Rat) : Prop := ∃ z : Int, q * 2 = (z : Rat) ∧ z.natAbs ≤ B
theorem HalfI.add {A B : Nat} {p q : Rat} (h : HalfI A p) (k : HalfI B q) : HalfI (A + B) (p + q) := by
  obtain ⟨x, h1, h2⟩ := h
  obtain ⟨y, k1, k2⟩ := k
  exact ⟨x + y, by rw [Rat.intCast_add, ← h1, ← k1]; grind, by omega⟩
theorem HalfI.zero {B : Nat} : HalfI B 0 := ⟨0, by decide +kernel, by simp⟩
theorem sumW_half {l : List Pt} {f : Pt → Rat} {B : Nat} (h : ∀ x ∈ l, HalfI B (f x)) : HalfI (l.length * B) (sumW l f) := by
  induction l with
  | nil => exact HalfI.zero
  | cons x l ih =>
    rw [sumW_cons, List.length_cons, Nat.succ_mul, Nat.add_comm]
    exact (h x (by simp)).add (ih fun y hy => h y (by simp [hy]))
theorem wt_half {q : Rat} (h : Wt q) : ∃ z : Int, q * 2 = (z : Rat) ∧ 1 ≤ z ∧ z ≤ 6 := by
  rcases h with rfl | rfl | rfl | rfl
  · exact ⟨2, by decide +kernel, by decide, by decide⟩
  · exact ⟨4, by decide +kernel, by decide, by decide⟩
  · exact ⟨6, by decide +kernel, by decide, by decide⟩
  · exact ⟨1, by decide +kernel, by decide, by decide⟩
theorem prod_half {q p : Rat} (h : Wt q) (hp : IntP p) : HalfI 36 (q * p) := by
  obtain ⟨z, h1, h2, h3⟩ := wt_half h
  obtain ⟨r, r1, r2, rfl⟩ := hp
  refine ⟨z * r, ?_, ?_⟩
  · rw [Rat.intCast_mul, ← h1]; grind
  · rw [Int.natAbs_mul]
    have := Nat.mul_le_mul (show z.natAbs ≤ 6 by omega) (show r.natAbs ≤ 6 by omega)
    omega
theorem ssum_half {n : Nat} {l : List Pt} {cs : List (List Rat)} (ml : MadeL n l) (i k : Nat) : HalfI (l.length * 36) (ssum l cs i k) := by
  rw [ssum_sum]
  refine sumW_half fun x hx => ?_
  split
  · obtain ⟨h1, h2, h3⟩ := ml x hx
    refine prod_half h3 ?_
    rw [List.getD_eq_getElem?_getD]
    cases hk : x.1[k]? with
    | none => exact ⟨0, by decide, by decide, rfl⟩
    | some q => exact h2 q (List.mem_of_getElem? hk)
  · exact HalfI.zero
theorem wsum_half {n : Nat} {l : List Pt} {cs : List (List Rat)} (ml : MadeL n l) (i : Nat) : HalfI (l.length * 6) (wsum l cs i) := by
  rw [wsum_sum]
  refine sumW_half fun x hx => ?_
  split
  · obtain ⟨z, h1, h2, h3⟩ := wt_half (ml x hx).2.2
    exact ⟨z, h1, by omega⟩
  · exact HalfI.zero
theorem wsum_pos {n : Nat} {l : List Pt} {cs : List (List Rat)} (ml : MadeL n l) (i : Nat) : 0 ≤ wsum l cs i := by
  rw [wsum_sum]
  refine sumW_nonneg fun x hx => ?_
  split
  · exact Rat.le_of_lt (pos_of_num (wt_fit (ml x hx).2.2).2)
  · exact Rat.le_refl
theorem mean_tight {n : Nat} {l : List Pt} {cs : List (List Rat)} (ml : MadeL n l) (h7 : l.length ≤ 7) (i k : Nat) (h0 : ¬ wsum l cs i = 0) : FitQ 5 (ssum l cs i k / wsum l cs i) := by
  obtain ⟨a, a1, a2⟩ := ssum_half (cs := cs) ml i k
  obtain ⟨b, b1, b2⟩ := wsum_half (cs := cs) ml i
  have hp := num_zero h0 (wsum_pos ml i)
  have hb : 0 < b := by
    have h1 : 0 < wsum l cs i * 2 := Rat.mul_pos (pos_of_num hp) (by decide +kernel)
    rw [b1] at h1
    have h2 := num_pos h1
    rwa [int_rat_num] at h2
  have e : ssum l cs i k / wsum l cs i = (a : Rat) / (b : Rat) := by rw [← a1, ← b1, div_both (by decide +kernel)]
  rw [e]
  have fa : FitQ 3 (a : Rat) := ⟨by rw [int_rat_num]; omega, by rw [int_rat_den]; decide⟩
  have fb : FitQ 2 (b : Rat) := ⟨by rw [int_rat_num]; omega, by rw [int_rat_den]; decide⟩
  exact fa.div fb (by rw [int_rat_num]; exact hb)
/-- centres with short numbers -/
def Tight (n : Nat) (cs : List (List Rat)) : Prop := cs.length ≤ 4 ∧ (∀ c ∈ cs, c.length = n) ∧ ∀ c ∈ cs, ∀ q ∈ c, FitQ 5 q
theorem tight_made {n : Nat} {cs : List (List Rat)} (h : cs.length ≤ 4) (mc : MadeC n cs) : Tight n cs := ⟨h, fun c hc => (mc c hc).1, fun c hc q hq => (intp_fit ((mc c hc).2 q hq)).mono (by decide)⟩
theorem tight_good {n : Nat} {l : List Pt} {cs : List (List Rat)} (h1 : 1 ≤ n) (h3 : n ≤ 3) (h7 : l.length ≤ 7) (ml : MadeL n l) (h : Tight n cs) : Good n l cs :=
  ⟨h1, h3, by omega, h.1, fun x hx => (ml x hx).1, h.2.1, fun x hx q hq => (intp_fit ((ml x hx).2.1 q hq)).mono (by decide), fun c hc q hq => (h.2.2 c hc q hq).mono (by decide), fun x hx => (wt_fit (ml x hx).2.2).1.mono (by decide), fun x hx => (wt_fit (ml x hx).2.2).2⟩
theorem tight_step {n : Nat} {l : List Pt} {cs : List (List Rat)} (h7 : l.length ≤ 7) (ml : MadeL n l) (h : Tight n cs) : Tight n (stepF n l cs) := by
  have hrow : ∀ p ∈ stepF n l cs, p.length = n ∧ ∀ q ∈ p, FitQ 5 q := by
    intro p hp
    rw [stepF_eq] at hp
    obtain ⟨a, ha, rfl⟩ := List.mem_map.1 hp
    have ha : a < cs.length := by simpa using ha
    unfold stepR
    by_cases h0 : wsum l cs a = 0
    · rw [if_pos h0, List.getD_eq_getElem?_getD, List.getElem?_eq_getElem ha]
      exact ⟨h.2.1 _ (List.getElem_mem ha), h.2.2 _ (List.getElem_mem ha)⟩
    · rw [if_neg h0]
      refine ⟨by simp, fun q hq => ?_⟩
      obtain ⟨b, _, rfl⟩ := List.mem_map.1 hq
      exact mean_tight ml h7 a b h0
  exact ⟨by rw [stepF_length]; exact h.1, fun c hc => (hrow c hc).1, fun c hc => (hrow c hc).2⟩
theorem tight_fine {n : Nat} {l : List Pt} (h1 : 1 ≤ n) (h3 : n ≤ 3) (h7 : l.length ≤ 7) (ml : MadeL n l) : Fine n l (Tight n) := fun _ h => ⟨tight_good h1 h3 h7 ml h, tight_step h7 ml h⟩
theorem tight_cost {n : Nat} {l : List Pt} {cs : List (List Rat)} (h3 : n ≤ 3) (h7 : l.length ≤ 7) (ml : MadeL n l) (h : Tight n cs) : FitQ 400 (cost l cs) := by
  refine cost_fitE (d := 1) (E := 46) (fun x hx => (wt_fit (ml x hx).2.2).1) (fun x hx => near_fitE (by decide) fun c hc => dist_fitE (e := 1) (f := 5) (by rw [(ml x hx).1, h.2.1 c hc]) (by rw [(ml x hx).1]; exact h3) (fun q hq => intp_fit ((ml x hx).2.1 q hq)) (h.2.2 c hc) (by decide)) (by omega)
theorem made_pos {n : Nat} {l : List Pt} (ml : MadeL n l) : ∀ x ∈ l, 0 < x.2 := fun x hx => pos_of_num (wt_fit (ml x hx).2.2).2
theorem sub_le {p q : Rat} (h : p ≤ q) : (p - q).num.sign ≤ 0 := by
  rcases Int.lt_trichotomy (p - q).num 0 with h' | h' | h'
  · rw [Int.sign_eq_neg_one_of_neg h']; decide
  · rw [h']; decide
  · have := pos_of_num h'
    grind
end Go.Proofs.YtlfcicfebhjchaaGreatDoor
