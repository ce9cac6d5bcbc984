/- Plain laws of points and centres: the order of points does not matter; a step never costs more; one centre. -/
import Derived.Test.YtlfcicfebhjchaaGreatDoorClaw
namespace Go.Proofs.YtlfcicfebhjchaaGreatDoor
open Go.RowKit Go.Lib

/-- a sum over points -/
def sumW (l : List Pt) (f : Pt → Rat) : Rat := l.foldl (fun s x => s + f x) 0
theorem foldl_sumW (l : List Pt) (f : Pt → Rat) (s : Rat) : l.foldl (fun s x => s + f x) s = s + sumW l f := by
  induction l generalizing s with
  | nil => show s = s + 0; grind
  | cons x l ih =>
    unfold sumW
    rw [List.foldl_cons, List.foldl_cons, ih, ih (0 + f x)]
    grind
theorem sumW_nil (f : Pt → Rat) : sumW [] f = 0 := rfl
theorem sumW_cons (x : Pt) (l : List Pt) (f : Pt → Rat) : sumW (x :: l) f = f x + sumW l f := by
  show List.foldl _ (0 + f x) l = _
  rw [foldl_sumW]
  grind
theorem sumW_congr {l : List Pt} {f g : Pt → Rat} (h : ∀ x ∈ l, f x = g x) : sumW l f = sumW l g := by
  induction l with
  | nil => rfl
  | cons x l ih => rw [sumW_cons, sumW_cons, h x (by simp), ih fun y hy => h y (by simp [hy])]
theorem sumW_le {l : List Pt} {f g : Pt → Rat} (h : ∀ x ∈ l, f x ≤ g x) : sumW l f ≤ sumW l g := by
  induction l with
  | nil => exact Rat.le_refl
  | cons x l ih =>
    rw [sumW_cons, sumW_cons]
    have h1 := h x (by simp)
    have h2 := ih fun y hy => h y (by simp [hy])
    grind
theorem sumW_zero (l : List Pt) : sumW l (fun _ => 0) = 0 := by
  induction l with
  | nil => rfl
  | cons x l ih => rw [sumW_cons, ih]; grind
theorem sumW_nonneg {l : List Pt} {f : Pt → Rat} (h : ∀ x ∈ l, 0 ≤ f x) : 0 ≤ sumW l f := by
  have := sumW_le (l := l) (f := fun _ => 0) h
  rw [sumW_zero] at this
  exact this
theorem sumW_add (l : List Pt) (f g : Pt → Rat) : sumW l (fun x => f x + g x) = sumW l f + sumW l g := by
  induction l with
  | nil => show (0 : Rat) = 0 + 0; grind
  | cons x l ih => rw [sumW_cons, sumW_cons, sumW_cons, ih]; grind
theorem sumW_perm {l m : List Pt} (h : l.Perm m) (f : Pt → Rat) : sumW l f = sumW m f :=
  h.foldl_eq' (fun x _ y _ z => by grind) 0
theorem cost_sum (l : List Pt) (cs : List (List Rat)) : cost l cs = sumW l fun x => x.2 * (near x.1 cs).2 := rfl
theorem fold_if (l : List Pt) (c : Pt → Prop) [DecidablePred c] (f : Pt → Rat) (s : Rat) : l.foldl (fun s x => if c x then s + f x else s) s = s + sumW l fun x => if c x then f x else 0 := by
  induction l generalizing s with
  | nil => show s = s + 0; grind
  | cons x l ih =>
    rw [List.foldl_cons, ih, sumW_cons]
    split <;> grind
theorem wsum_sum (l : List Pt) (cs : List (List Rat)) (i : Nat) : wsum l cs i = sumW l fun x => if (near x.1 cs).1 = (i : Int) then x.2 else 0 := by
  have h := fold_if l (fun x => (near x.1 cs).1 = (i : Int)) (fun x => x.2) 0
  rw [Rat.zero_add] at h
  exact h
theorem ssum_sum (l : List Pt) (cs : List (List Rat)) (i k : Nat) : ssum l cs i k = sumW l fun x => if (near x.1 cs).1 = (i : Int) then x.2 * x.1.getD k 0 else 0 := by
  have h := fold_if l (fun x => (near x.1 cs).1 = (i : Int)) (fun x => x.2 * x.1.getD k 0) 0
  rw [Rat.zero_add] at h
  exact h
theorem cost_perm {l m : List Pt} (h : l.Perm m) (cs : List (List Rat)) : cost l cs = cost m cs := by rw [cost_sum, cost_sum, sumW_perm h]
theorem stepF_perm {l m : List Pt} (h : l.Perm m) (n : Nat) (cs : List (List Rat)) : stepF n l cs = stepF n m cs := by
  unfold stepF
  refine List.map_congr_left fun i _ => ?_
  rw [wsum_sum, wsum_sum, sumW_perm h]
  split
  · rfl
  · exact List.map_congr_left fun k _ => by rw [ssum_sum, ssum_sum, sumW_perm h]
/-- a sum over the numbers below m -/
def rsum : Nat → (Nat → Rat) → Rat
  | 0, _ => 0
  | m + 1, g => rsum m g + g m
theorem rsum_congr {m : Nat} {f g : Nat → Rat} (h : ∀ i, i < m → f i = g i) : rsum m f = rsum m g := by
  induction m with
  | zero => rfl
  | succ m ih => rw [rsum, rsum, ih fun i hi => h i (by omega), h m (by omega)]
theorem rsum_le {m : Nat} {f g : Nat → Rat} (h : ∀ i, i < m → f i ≤ g i) : rsum m f ≤ rsum m g := by
  induction m with
  | zero => exact Rat.le_refl
  | succ m ih =>
    rw [rsum, rsum]
    have h1 := ih fun i hi => h i (by omega)
    have h2 := h m (by omega)
    grind
theorem rsum_zero {m : Nat} {f : Nat → Rat} (h : ∀ i, i < m → f i = 0) : rsum m f = 0 := by
  induction m with
  | zero => rfl
  | succ m ih => rw [rsum, ih fun i hi => h i (by omega), h m (by omega)]; grind
theorem rsum_one {m j : Nat} (f : Nat → Rat) (hj : j < m) : rsum m (fun i => if j = i then f i else 0) = f j := by
  induction m with
  | zero => omega
  | succ m ih =>
    rw [rsum]
    by_cases h : j = m
    · subst h
      rw [rsum_zero fun i hi => if_neg (by omega), if_pos rfl]
      grind
    · rw [ih (by omega), if_neg h]
      grind
theorem rsum_mul (m : Nat) (a : Rat) (f : Nat → Rat) : a * rsum m f = rsum m (fun i => a * f i) := by
  induction m with
  | zero => rw [rsum, rsum]; grind
  | succ m ih => rw [rsum, rsum, ← ih]; grind
/-- sums change places -/
theorem sum_swap (l : List Pt) (m : Nat) (f : Pt → Nat → Rat) : sumW l (fun x => rsum m (f x)) = rsum m (fun i => sumW l fun x => f x i) := by
  induction m with
  | zero =>
    show sumW l (fun _ => 0) = 0
    exact sumW_zero l
  | succ m ih =>
    show sumW l (fun x => rsum m (f x) + f x m) = _
    rw [sumW_add, ih]
    rfl
theorem dist_rsum {a b : List Rat} (hl : a.length = b.length) : dist a b = rsum a.length fun k => (a.getD k 0 - b.getD k 0) * (a.getD k 0 - b.getD k 0) := by
  have go : ∀ k, k ≤ a.length → dist (a.take k) (b.take k) = rsum k fun k => (a.getD k 0 - b.getD k 0) * (a.getD k 0 - b.getD k 0) := by
    intro k
    induction k with
    | zero => intro _; rfl
    | succ k ih =>
      intro h
      rw [dist_next (by omega) (by omega), ih (by omega), rsum]
      simp [List.getD_eq_getElem?_getD, List.getElem?_eq_getElem (show k < a.length by omega), List.getElem?_eq_getElem (show k < b.length by omega)]
  have h := go a.length (Nat.le_refl _)
  rw [List.take_of_length_le (Nat.le_refl _), List.take_of_length_le (by omega)] at h
  exact h
theorem sq_nonneg (a : Rat) : 0 ≤ a * a := by
  rcases Rat.le_total (a := 0) (b := a) with h | h
  · exact Rat.mul_nonneg h h
  · have := Rat.mul_nonneg (a := -a) (b := -a) (by grind) (by grind)
    grind
theorem dist_nonneg {a b : List Rat} (hl : a.length = b.length) : 0 ≤ dist a b := by
  rw [dist_rsum hl]
  have h := rsum_le (m := a.length) (f := fun _ => 0) (g := fun k => (a.getD k 0 - b.getD k 0) * (a.getD k 0 - b.getD k 0)) fun i _ => sq_nonneg _
  rw [rsum_zero fun _ _ => rfl] at h
  exact h
/-- the mean is best, in one coordinate -/
theorem mean_best (l : List Pt) (u v : Pt → Rat) (hu : ∀ x ∈ l, 0 ≤ u x) (hW : ¬ sumW l u = 0) (c : Rat) :
    sumW l (fun x => u x * ((v x - sumW l (fun x => u x * v x) / sumW l u) * (v x - sumW l (fun x => u x * v x) / sumW l u))) ≤ sumW l (fun x => u x * ((v x - c) * (v x - c))) := by
  have key : ∀ c, sumW l (fun x => u x * ((v x - c) * (v x - c))) = sumW l (fun x => u x * (v x * v x)) - 2 * c * sumW l (fun x => u x * v x) + c * c * sumW l u := by
    intro c
    clear hu hW
    induction l with
    | nil => simp only [sumW_nil]; grind
    | cons x l ih => simp only [sumW_cons]; rw [ih]; grind
  have h0 : 0 ≤ sumW l u := sumW_nonneg hu
  rw [key, key c]
  generalize sumW l u = W at *
  generalize sumW l (fun x => u x * v x) = S at *
  generalize sumW l (fun x => u x * (v x * v x)) = Q at *
  obtain ⟨m, hm⟩ : ∃ m, S / W = m := ⟨_, rfl⟩
  have hS : S = m * W := by rw [← hm, Rat.div_mul_cancel hW]
  rw [hm, hS]
  have h1 := Rat.mul_nonneg h0 (sq_nonneg (c - m))
  grind
theorem near_all (p : List Rat) (cs : List (List Rat)) : ∀ k, k ≤ cs.length → (∀ i (h : i < cs.length), i < k → (near p (cs.take k)).2 ≤ dist p cs[i]) ∧ (0 < k → ∃ i, ∃ h : i < cs.length, i < k ∧ (near p (cs.take k)).1 = (i : Int) ∧ (near p (cs.take k)).2 = dist p cs[i])
  | 0, _ => ⟨fun i _ h => by omega, fun h => by omega⟩
  | k + 1, h => by
    obtain ⟨h1, h2⟩ := near_all p cs k (by omega)
    rw [near_next (by omega)]
    by_cases hc : (near p (cs.take k)).1 < 0 ∨ dist p cs[k] < (near p (cs.take k)).2
    · rw [nearer_pos hc]
      refine ⟨fun i hi hik => ?_, fun _ => ⟨k, by omega, by omega, rfl, rfl⟩⟩
      by_cases hik' : i = k
      · subst hik'; exact Rat.le_refl
      · have hlt := h1 i hi (by omega)
        obtain ⟨j, _, _, hj, _⟩ := h2 (by omega)
        rcases hc with hc | hc
        · omega
        · show dist p cs[k] ≤ _
          exact Rat.le_trans (Rat.le_of_lt hc) hlt
    · rw [nearer_neg hc]
      have hk0 : 0 < k := by
        rcases Nat.eq_zero_or_pos k with rfl | h
        · exact absurd (.inl (by show (-1 : Int) < 0; decide)) hc
        · exact h
      refine ⟨fun i hi hik => ?_, fun _ => ?_⟩
      · by_cases hik' : i = k
        · subst hik'
          exact Rat.not_lt.1 fun h => hc (.inr h)
        · exact h1 i hi (by omega)
      · obtain ⟨j, h3, h4, h5⟩ := h2 hk0
        exact ⟨j, h3, by omega, h5⟩
theorem near_le (p : List Rat) {cs : List (List Rat)} {i : Nat} (h : i < cs.length) : (near p cs).2 ≤ dist p cs[i] := by
  have h1 := (near_all p cs cs.length (Nat.le_refl _)).1 i h h
  rw [List.take_of_length_le (Nat.le_refl _)] at h1
  exact h1
theorem near_is (p : List Rat) {cs : List (List Rat)} (h : 0 < cs.length) : ∃ i, ∃ h : i < cs.length, (near p cs).1 = (i : Int) ∧ (near p cs).2 = dist p cs[i] := by
  have h1 := (near_all p cs cs.length (Nat.le_refl _)).2 h
  rw [List.take_of_length_le (Nat.le_refl _)] at h1
  obtain ⟨i, h1, _, h2⟩ := h1
  exact ⟨i, h1, h2⟩
theorem stepF_get {n : Nat} {l : List Pt} {cs : List (List Rat)} {i : Nat} (h : i < cs.length) : (stepF n l cs)[i]'(by rw [stepF_length]; exact h) = stepR n l cs i := by simp [stepF_eq]
/-- a step never costs more -/
theorem step_falls {n : Nat} {l : List Pt} {cs : List (List Rat)} (hp : ∀ x ∈ l, x.1.length = n) (hc : ∀ c ∈ cs, c.length = n) (hw : ∀ x ∈ l, 0 ≤ x.2) : cost l (stepF n l cs) ≤ cost l cs := by
  rcases Nat.eq_zero_or_pos cs.length with h0 | h0
  · have : cs = [] := List.length_eq_zero_iff.1 h0
    subst this
    exact Rat.le_refl
  have hrow : ∀ i, i < cs.length → (stepR n l cs i).length = n := by
    intro i hi
    unfold stepR
    split
    · rw [List.getD_eq_getElem?_getD, List.getElem?_eq_getElem hi]
      exact hc _ (List.getElem_mem hi)
    · simp
  have hA : cost l (stepF n l cs) ≤ sumW l fun x => rsum cs.length fun i => rsum n fun k => (if (near x.1 cs).1 = (i : Int) then x.2 else 0) * ((x.1.getD k 0 - (stepR n l cs i).getD k 0) * (x.1.getD k 0 - (stepR n l cs i).getD k 0)) := by
    rw [cost_sum]
    refine sumW_le fun x hx => ?_
    obtain ⟨a, ha, h1, h2⟩ := near_is x.1 h0
    have h3 := near_le x.1 (cs := stepF n l cs) (i := a) (by rw [stepF_length]; exact ha)
    rw [stepF_get ha, dist_rsum (by rw [hp x hx, hrow a ha]), hp x hx] at h3
    have h4 := Rat.mul_le_mul_of_nonneg_left h3 (hw x hx)
    refine Rat.le_trans h4 ?_
    rw [rsum_mul, h1]
    have h5 := rsum_one (m := cs.length) (j := a) (fun i => rsum n fun k => x.2 * ((x.1.getD k 0 - (stepR n l cs i).getD k 0) * (x.1.getD k 0 - (stepR n l cs i).getD k 0))) ha
    rw [← h5]
    have e : ∀ i, i < cs.length → (if a = i then rsum n fun k => x.2 * ((x.1.getD k 0 - (stepR n l cs i).getD k 0) * (x.1.getD k 0 - (stepR n l cs i).getD k 0)) else 0) = rsum n fun k => (if (a : Int) = (i : Int) then x.2 else 0) * ((x.1.getD k 0 - (stepR n l cs i).getD k 0) * (x.1.getD k 0 - (stepR n l cs i).getD k 0)) := by
      intro i _
      by_cases h : a = i
      · subst h
        simp
      · rw [if_neg h]
        refine (rsum_zero fun k _ => ?_).symm
        rw [if_neg (by omega)]
        grind
    rw [rsum_congr e]
    exact Rat.le_refl
  have hB : cost l cs = sumW l fun x => rsum cs.length fun i => rsum n fun k => (if (near x.1 cs).1 = (i : Int) then x.2 else 0) * ((x.1.getD k 0 - (cs.getD i []).getD k 0) * (x.1.getD k 0 - (cs.getD i []).getD k 0)) := by
    rw [cost_sum]
    refine sumW_congr fun x hx => ?_
    obtain ⟨a, ha, h1, h2⟩ := near_is x.1 h0
    have hca : cs.getD a [] = cs[a] := by rw [List.getD_eq_getElem?_getD, List.getElem?_eq_getElem ha]; rfl
    rw [h2, dist_rsum (by rw [hp x hx, hc _ (List.getElem_mem ha)]), hp x hx, rsum_mul, h1]
    have h5 := rsum_one (m := cs.length) (j := a) (fun i => rsum n fun k => x.2 * ((x.1.getD k 0 - (cs.getD i []).getD k 0) * (x.1.getD k 0 - (cs.getD i []).getD k 0))) ha
    rw [hca] at h5
    rw [← h5]
    refine rsum_congr fun i _ => ?_
    by_cases h : a = i
    · subst h
      simp
    · rw [if_neg h]
      refine (rsum_zero fun k _ => ?_).symm
      rw [if_neg (by omega)]
      grind
  refine Rat.le_trans hA ?_
  rw [hB, sum_swap, sum_swap]
  refine rsum_le fun i hi => ?_
  rw [sum_swap, sum_swap]
  refine rsum_le fun k hk => ?_
  unfold stepR
  split
  · exact Rat.le_refl
  · rename_i hW
    rw [wsum_sum] at hW
    have h := mean_best l (fun x => if (near x.1 cs).1 = (i : Int) then x.2 else 0) (fun x => x.1.getD k 0) (fun x hx => by
      show 0 ≤ if (near x.1 cs).1 = (i : Int) then x.2 else 0
      split
      · exact hw x hx
      · exact Rat.le_refl) hW ((cs.getD i []).getD k 0)
    have e : ((List.range n).map fun k => ssum l cs i k / wsum l cs i).getD k 0 = (sumW l fun x => (if (near x.1 cs).1 = (i : Int) then x.2 else 0) * x.1.getD k 0) / sumW l fun x => if (near x.1 cs).1 = (i : Int) then x.2 else 0 := by
      rw [List.getD_eq_getElem?_getD, List.getElem?_eq_getElem (by simpa using hk)]
      simp only [List.getElem_map, List.getElem_range, Option.getD_some]
      rw [wsum_sum, ssum_sum]
      congr 1
      refine sumW_congr fun x _ => ?_
      split <;> grind
    rw [e]
    exact h
/-- one centre: a step leads to the mean -/
theorem near_one (p c : List Rat) : near p [c] = (0, dist p c) := rfl
theorem step_one {n : Nat} {l : List Pt} (c d : List Rat) (hw : ¬ sumW l (fun x => x.2) = 0) : stepF n l [c] = stepF n l [d] := by
  have h1 : ∀ c, wsum l [c] 0 = sumW l fun x => x.2 := fun c => by
    rw [wsum_sum]
    exact sumW_congr fun x _ => if_pos rfl
  have h2 : ∀ c k, ssum l [c] 0 k = sumW l fun x => x.2 * x.1.getD k 0 := fun c k => by
    rw [ssum_sum]
    exact sumW_congr fun x _ => if_pos rfl
  rw [stepF_eq, stepF_eq]
  show [stepR n l [c] 0] = [stepR n l [d] 0]
  unfold stepR
  rw [h1, h1, if_neg hw, if_neg hw]
  rw [List.map_congr_left fun k _ => by rw [h2 c k, ← h2 d k]]
theorem sumW_pos {l : List Pt} (h : ∀ x ∈ l, 0 < x.2) (h0 : 0 < l.length) : ¬ sumW l (fun x => x.2) = 0 := by
  rcases l with _ | ⟨x, l⟩
  · simp at h0
  · rw [sumW_cons]
    have h1 := h x (by simp)
    have h2 : 0 ≤ sumW l fun x => x.2 := sumW_nonneg fun y hy => Rat.le_of_lt (h y (by simp [hy]))
    grind
theorem num_pos {q : Rat} (h : 0 < q) : 0 < q.num := num_zero (fun e => by rw [e] at h; exact absurd h (by grind)) (Rat.le_of_lt h)
theorem good_heavy {n : Nat} {l : List Pt} {cs : List (List Rat)} {k : Rat} (h : Good n l cs) (fw : ∀ x ∈ l, FitQ 1 x.2) (fk : FitQ 1 k) (hk : 0 < k.num) : Good n (heavy k l) cs := by
  have hm : ∀ x ∈ heavy k l, ∃ y ∈ l, x = (y.1, y.2 * k) := fun x hx => by
    obtain ⟨y, hy, rfl⟩ := List.mem_map.1 hx
    exact ⟨y, hy, rfl⟩
  refine ⟨h.n1, h.n3, by rw [heavy_length]; exact h.pts, h.cts, ?_, h.cn, ?_, h.cf, ?_, ?_⟩
  · intro x hx
    obtain ⟨y, hy, rfl⟩ := hm x hx
    exact h.pn y hy
  · intro x hx
    obtain ⟨y, hy, rfl⟩ := hm x hx
    exact h.pf y hy
  · intro x hx
    obtain ⟨y, hy, rfl⟩ := hm x hx
    exact ((fw y hy).mul fk).mono (by decide)
  · intro x hx
    obtain ⟨y, hy, rfl⟩ := hm x hx
    exact num_pos (Rat.mul_pos (pos_of_num (h.wp y hy)) (pos_of_num hk))
end Go.Proofs.YtlfcicfebhjchaaGreatDoor
