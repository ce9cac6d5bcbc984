/- What the nearest centres cost, mass by mass: plain. -/
import Derived.Test.YtkhmfgkbobblmaaGreatDoorLineN
import Derived.Test.YtkhmfgkbobblmaaGreatDoorCNear
namespace Go.Proofs.YtkhmfgkbobblmaaGreatDoor
open Go.RowKit Go.Lib

theorem ne_len {α : Type} {l : List α} (h : 0 < l.length) : l ≠ [] := fun e => by rw [e] at h; simp at h
theorem near_min (p : List Rat) (cs : List (List Rat)) : ∀ k, 0 < k → k ≤ cs.length → ∃ i, ∃ h : i < cs.length, i < k ∧ (near p (cs.take k)).1 = (i : Int) ∧ (near p (cs.take k)).2 = dist p cs[i] ∧ (∀ j (hj : j < cs.length), j < k → dist p cs[i] ≤ dist p cs[j])
  | 0, h, _ => absurd h (by omega)
  | k + 1, _, h => by
    rw [near_next (by omega)]
    rcases Nat.eq_zero_or_pos k with h0 | h0
    · subst h0
      have e : near p (cs.take 0) = (-1, 0) := rfl
      rw [nearer_pos (by rw [e]; exact Or.inl (by decide))]
      refine ⟨0, by omega, by omega, rfl, rfl, fun j hj hj1 => ?_⟩
      obtain rfl : j = 0 := by omega
      exact Rat.le_refl
    · obtain ⟨i, hi, h1, h2, h3, h4⟩ := near_min p cs k h0 (by omega)
      by_cases hc : dist p cs[k] < (near p (cs.take k)).2
      · rw [nearer_pos (Or.inr hc)]
        rw [h3] at hc
        refine ⟨k, by omega, by omega, rfl, rfl, fun j hj hj1 => ?_⟩
        rcases Nat.lt_or_ge j k with hjk | hjk
        · have := h4 j hj hjk
          grind
        · obtain rfl : j = k := by omega
          exact Rat.le_refl
      · rw [nearer_neg (fun hh => hh.elim (fun hh => by omega) hc)]
        rw [h3] at hc
        refine ⟨i, hi, by omega, h2, h3, fun j hj hj1 => ?_⟩
        rcases Nat.lt_or_ge j k with hjk | hjk
        · exact h4 j hj hjk
        · obtain rfl : j = k := by omega
          exact Rat.not_lt.1 hc
theorem dist_sq (x y : Rat) : dist [x] [y] = (x - y) * (x - y) := by
  show 0 + _ = _
  rw [Rat.zero_add]
theorem near_mn {l : List Rat} {x : Rat} (h : 0 < l.length) : ∃ k, ∃ hk : k < l.length, (near [x] (pts l)).1 = (k : Int) ∧ (x - l[k]) * (x - l[k]) = mn x l := by
  obtain ⟨k, hk, h1, h2, _, h4⟩ := near_min [x] (pts l) l.length h (by rw [pts_length]; exact Nat.le_refl _)
  rw [List.take_of_length_le (by rw [pts_length]; exact Nat.le_refl _)] at h2
  refine ⟨k, h1, h2, ?_⟩
  have h5 := mn_le x l l[k] (List.getElem_mem h1)
  obtain ⟨c, hc, h6⟩ := mn_at x l (ne_len h)
  obtain ⟨i, hi, rfl⟩ := List.getElem_of_mem hc
  have h7 := h4 i (by rw [pts_length]; exact hi) hi
  rw [pts_get h1, pts_get hi, dist_sq, dist_sq] at h7
  grind
theorem gc_nil (cs : List Rat) : gc [] cs = 0 := rfl
theorem gc_next {l : List Ms} {cs : List Rat} {i : Nat} (h : i < l.length) : gc (l.take (i + 1)) cs = gc (l.take i) cs + l[i].2 * mn l[i].1 cs := by
  unfold gc
  rw [List.take_succ_eq_append_getElem h, sm_append]
  show _ + (_ + 0) = _
  grind
theorem mn_fit {v : Rat} {cs : List Rat} (h0 : cs ≠ []) (fv : FitQ 4 v) (fc : ∀ c ∈ cs, FitQ 7 c) : FitQ 24 (mn v cs) := by
  obtain ⟨c, hc, h⟩ := mn_at v cs h0
  rw [h]
  have := fv.sub (fc c hc)
  exact this.mul this
theorem gc_fit {l : List Ms} {cs : List Rat} (h0 : cs ≠ []) (hl : ∀ x ∈ l, MsG x) (fc : ∀ c ∈ cs, FitQ 7 c) : ∀ i, i ≤ l.length → FitQ (1 + i * 29) (gc (l.take i) cs)
  | 0, _ => by
    rw [List.take_zero, gc_nil]
    exact ⟨by decide, by decide⟩
  | i + 1, h => by
    have hx := hl _ (List.getElem_mem (show i < l.length by omega))
    have f1 : FitQ 4 l[i].1 := hx.val.1.fit (by decide) (by decide) (by decide)
    have f2 : FitQ 4 l[i].2 := hx.val.2.fit (by decide) (by decide) (by decide)
    rw [gc_next (by omega)]
    exact ((gc_fit h0 hl fc i (by omega)).add (f2.mul (mn_fit h0 f1 fc))).mono (by omega)
end Go.Proofs.YtkhmfgkbobblmaaGreatDoor
