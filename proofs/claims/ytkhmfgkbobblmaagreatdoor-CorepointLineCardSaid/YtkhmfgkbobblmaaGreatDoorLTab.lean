/- The table of the sums of masses, and the divisions read off it: plain. -/
import Derived.Test.YtkhmfgkbobblmaaGreatDoorLTight
namespace Go.Proofs.YtkhmfgkbobblmaaGreatDoor
open Go.RowKit Go.Lib

/-- a weight times the value, p times -/
def mw (x : Ms) : Nat → Rat
  | 0 => x.2
  | p + 1 => mw x p * x.1
def tb (l : List Ms) (p k : Nat) : Rat := sm (l.take k) fun x => mw x p
theorem tb_zero (l : List Ms) (p : Nat) : tb l p 0 = 0 := rfl
theorem tb_next {l : List Ms} {p k : Nat} (h : k < l.length) : tb l p (k + 1) = tb l p k + mw l[k] p := by
  unfold tb
  rw [List.take_succ_eq_append_getElem h, sm_append]
  show _ + (_ + 0) = _
  grind
theorem mw_fit {x : Ms} (h : MsG x) : ∀ p, p ≤ 2 → FitQ (4 + p * 4) (mw x p)
  | 0, _ => h.val.2.fit (by decide) (by decide) (by decide)
  | p + 1, hp => ((mw_fit h p (by omega)).mul (h.val.1.fit (e := 4) (by decide) (by decide) (by decide))).mono (by omega)
theorem tb_fit {l : List Ms} (h : MsOk l) (p k : Nat) (hp : p ≤ 2) : FitQ 10 (tb l p k) := by
  match p, hp with
  | 0, _ => exact M0_fit (h.take k)
  | 1, _ => exact M1_fit (h.take k)
  | 2, _ => exact M2_fit (h.take k)
/-- the masses from i to before k -/
def seg (l : List Ms) (i k : Nat) : List Ms := (l.drop i).take (k - i)
theorem seg_ne {l : List Ms} {i k : Nat} (h : i < k) (hk : k ≤ l.length) : seg l i k ≠ [] := take_ne (by omega) (len_ne (by rw [List.length_drop]; omega))
theorem seg_ok {l : List Ms} (h : MsOk l) (i k : Nat) : MsOk (seg l i k) := (h.drop i).take _
theorem tb0 {l : List Ms} {i k : Nat} (h : i ≤ k) : tb l 0 k - tb l 0 i = M0 (seg l i k) := sm_part l _ h
theorem tb1 {l : List Ms} {i k : Nat} (h : i ≤ k) : tb l 1 k - tb l 1 i = M1 (seg l i k) := sm_part l _ h
theorem tb2 {l : List Ms} {i k : Nat} (h : i ≤ k) : tb l 2 k - tb l 2 i = M2 (seg l i k) := sm_part l _ h
/-- the row of divisions into p + 1 parts -/
def dvr (l : List Ms) (p i : Nat) : Rat × Nat := ((dv p (l.drop i)).1, i + (dv p (l.drop i)).2)
theorem dvr_zero {l : List Ms} {i : Nat} (_h : i < l.length) : dvr l 0 i = (cst (seg l i l.length), l.length) := by
  unfold dvr seg dv
  rw [List.length_drop, List.take_of_length_le (by rw [List.length_drop]; exact Nat.le_refl _)]
  congr 1
  simp only
  omega
/-- the best so far: second parts that begin at i + 1 .. i + m -/
def dvb (l : List Ms) (p i m : Nat) : Rat × Nat := ((bst (fun j => cst ((l.drop i).take j) + (dv p ((l.drop i).drop j)).1) m).1, i + (bst (fun j => cst ((l.drop i).take j) + (dv p ((l.drop i).drop j)).1) m).2)
theorem dvb_first (l : List Ms) (p i : Nat) : dvb l p i 0 = (cst (seg l i (i + 1)) + (dvr l p (i + 1)).1, i + 1) := by
  unfold dvb dvr seg bst
  rw [List.drop_drop, show i + 1 - i = 1 by omega]
theorem dvb_next (l : List Ms) (p i m : Nat) : dvb l p i (m + 1) = if cst (seg l i (i + (m + 2))) + (dvr l p (i + (m + 2))).1 < (dvb l p i m).1 then (cst (seg l i (i + (m + 2))) + (dvr l p (i + (m + 2))).1, i + (m + 2)) else dvb l p i m := by
  unfold dvb dvr seg
  rw [bst, List.drop_drop, show i + (m + 2) - i = m + 2 by omega]
  split <;> rfl
theorem dvb_all {l : List Ms} {p i : Nat} (_h : i + (p + 1) < l.length) : dvb l p i (l.length - i - (p + 1) - 1) = dvr l (p + 1) i := by
  unfold dvb dvr
  rw [dv, List.length_drop]
theorem bst_fit {f : Nat → Rat} {e m : Nat} (h : ∀ j, 1 ≤ j → j ≤ m + 1 → FitQ e (f j)) : FitQ e (bst f m).1 := by
  obtain ⟨h1, h2, h3⟩ := bst_at f m
  rw [h1]
  exact h _ h2 h3
theorem dvr_fit {l : List Ms} (h : MsOk l) {p i : Nat} (hi : i + p < l.length) : FitQ (14 * (p + 1)) (dvr l p i).1 := dv_fit p _ (h.drop i) (by rw [List.length_drop]; omega)
theorem dvb_fit {l : List Ms} (h : MsOk l) {p i m : Nat} (hm : i + (m + 1) + p < l.length) : FitQ (14 * (p + 2)) (dvb l p i m).1 := by
  unfold dvb
  refine bst_fit fun j h1 h2 => ?_
  have h3 : FitQ 13 (cst ((l.drop i).take j)) := cst_fit ((h.drop i).take j) (take_ne h1 (len_ne (by rw [List.length_drop]; omega)))
  have h4 : FitQ (14 * (p + 1)) (dv p ((l.drop i).drop j)).1 := dv_fit p _ ((h.drop i).drop j) (by rw [List.length_drop, List.length_drop]; omega)
  exact (h3.add h4).mono (by omega)
theorem dvr_next {l : List Ms} {p i : Nat} (hi : i + p < l.length) : i < (dvr l p i).2 ∧ (dvr l p i).2 + p ≤ l.length := by
  unfold dvr
  match p with
  | 0 =>
    rw [dv]
    simp only [List.length_drop]
    omega
  | p + 1 =>
    obtain ⟨h1, h2, _⟩ := dv_at (p := p) (t := l.drop i) (by rw [List.length_drop]; omega)
    rw [List.length_drop] at h2
    simp only
    omega
/-- the centres, read off the table -/
theorem cen_step {l : List Ms} {p i : Nat} (hi : i + p < l.length) : cen p (l.drop i) = mean (seg l i (dvr l p i).2) :: (match p with | 0 => [] | q + 1 => cen q (l.drop (dvr l p i).2)) := by
  unfold dvr seg
  match p with
  | 0 =>
    rw [cen, dv]
    simp only
    rw [show i + (l.drop i).length - i = (l.drop i).length by omega, List.take_of_length_le (Nat.le_refl _)]
  | p + 1 =>
    rw [cen]
    simp only
    rw [show i + (dv (p + 1) (l.drop i)).2 - i = (dv (p + 1) (l.drop i)).2 by omega, List.drop_drop]
end Go.Proofs.YtkhmfgkbobblmaaGreatDoor
