/- corepoint.Line of no masses; joinlearnref02.Sign; comparisons whose answer is known. -/
import Derived.Test.YtkhmfgkbobblmaaGreatDoorLSane
namespace Go.Proofs.YtkhmfgkbobblmaaGreatDoor
open Go.RowKit Go.Lib

set_option maxRecDepth 100000 in
set_option maxHeartbeats 1000000 in
theorem line_nil (vl : Value) (k : Nat) (w : World) (h : ML w vl []) (h1 : 1 ≤ k) (h4 : k ≤ 4) :
    Calls Tryz.prog 16 #[vl, .int .i64 k] w fun e w' => e = .returned (.tuple #[.slice none 0 0, .string ⟨#[]⟩, .int .i64 12]) ∧ Ext w w' := by
  have MS := Lib.hid (masses_any vl [] k w h ⟨by decide, fun x hx => by cases hx⟩ List.Pairwise.nil h1 h4)
  rw [if_pos (show ([] : List Ms).length = 0 from rfl)] at MS
  obtain ⟨A, ca, rfl, _, _, _⟩ := h.parts
  clear h
  go_enter Tryz.func16, Tryz.ntmps16
  go_wp2_with fail
  refine MS.out.mono ?_
  rintro e w1 ⟨rfl, hx1⟩
  go_wp2
  go_ret3
  exact ⟨rfl, hx1⟩
set_option maxRecDepth 100000 in
set_option maxHeartbeats 1000000 in
theorem r2sign_any (q : Rat) (w : World) (hf : FitQ 400 q) :
    Calls Tryz.prog 19 #[.string ⟨(ratText q).toArray⟩] w fun e w' => e = .returned (.int .i64 q.num.sign) ∧ Ext w w' := by
  have V := Lib.hid (fun w => r2valid_any q w hf)
  have R := Lib.hid (fun w => r2read_any q w (e := 399) hf (by decide))
  have G := Lib.hid (fun v w h => rfsign_any v q w h)
  generalize ratText q = t at *
  go_enter Tryz.func19, Tryz.ntmps19
  go_wp2_with fail
  refine (V.out w).mono ?_
  rintro e w1 ⟨rfl, hx1⟩
  go_wp2_with fail
  refine (R.out w1).mono ?_
  rintro e w2 ⟨v, rfl, hv, hx2⟩
  go_wp2_with fail
  refine (G.out v w2 hv).mono ?_
  rintro e w3 ⟨rfl, hx3⟩
  go_wp2
  go_ret
  exact ⟨rfl, hx1.trans (hx2.trans hx3)⟩
theorem num_sign_ge {q : Rat} (h : 0 ≤ q) : 0 ≤ q.num.sign := by
  have h1 := (@Rat.num_nonneg q).2 h
  rcases Int.lt_trichotomy q.num 0 with h' | h' | h'
  · omega
  · rw [h']; decide
  · rw [Int.sign_eq_one_of_pos h']; decide
theorem num_sign_lt {q : Rat} (h : q < 0) : q.num.sign < 0 := by
  have h1 : q.num < 0 := by
    rcases Int.lt_trichotomy q.num 0 with h' | h' | h'
    · exact h'
    · have h2 := (@Rat.num_nonneg q).1 (by omega)
      grind
    · have h2 := (@Rat.num_nonneg q).1 (by omega)
      grind
  rw [Int.sign_eq_neg_one_of_neg h1]
  decide
theorem num_sign_le {q : Rat} (h : q ≤ 0) : q.num.sign ≤ 0 := by
  by_cases h0 : q = 0
  · subst h0; decide
  · have := num_sign_lt (q := q) (by grind)
    omega
theorem cmp_ge {p q : Rat} (fp : FitQ 400 p) (fq : FitQ 400 q) (h : q ≤ p) (w : World) : Calls Tryz.prog 18 #[.string ⟨(ratText p).toArray⟩, .string ⟨(ratText q).toArray⟩] w fun e w' => ∃ s : Int, 0 ≤ s ∧ e = .returned (.int .i64 s) ∧ Ext w w' :=
  (r2compare_any p q w fp fq).mono fun _ _ ⟨h1, h2⟩ => ⟨_, num_sign_ge (by grind), h1, h2⟩
theorem cmp_le {p q : Rat} (fp : FitQ 400 p) (fq : FitQ 400 q) (h : p ≤ q) (w : World) : Calls Tryz.prog 18 #[.string ⟨(ratText p).toArray⟩, .string ⟨(ratText q).toArray⟩] w fun e w' => ∃ s : Int, s ≤ 0 ∧ e = .returned (.int .i64 s) ∧ Ext w w' :=
  (r2compare_any p q w fp fq).mono fun _ _ ⟨h1, h2⟩ => ⟨_, num_sign_le (by grind), h1, h2⟩
theorem cmp_lt {p q : Rat} (fp : FitQ 400 p) (fq : FitQ 400 q) (h : p < q) (w : World) : Calls Tryz.prog 18 #[.string ⟨(ratText p).toArray⟩, .string ⟨(ratText q).toArray⟩] w fun e w' => ∃ s : Int, s < 0 ∧ e = .returned (.int .i64 s) ∧ Ext w w' :=
  (r2compare_any p q w fp fq).mono fun _ _ ⟨h1, h2⟩ => ⟨_, num_sign_lt (by grind), h1, h2⟩
theorem asc_ge {l : List Ms} (ha : Asc l) (h0 : 0 < l.length) : ∀ x ∈ l, l[0].1 ≤ x.1 := by
  intro x hx
  obtain ⟨i, hi, rfl⟩ := List.getElem_of_mem hx
  rcases Nat.eq_zero_or_pos i with h | h
  · subst h; exact Rat.le_refl
  · exact Rat.le_of_lt (List.pairwise_iff_getElem.1 ha 0 i h0 hi h)
theorem asc_le {l : List Ms} (ha : Asc l) {z : Nat} (h0 : z < l.length) (hz : l.length ≤ z + 1) : ∀ x ∈ l, x.1 ≤ l[z].1 := by
  intro x hx
  obtain ⟨i, hi, rfl⟩ := List.getElem_of_mem hx
  rcases Nat.lt_or_ge i z with h | h
  · exact Rat.le_of_lt (List.pairwise_iff_getElem.1 ha i z hi h0 h)
  · have : i = z := by omega
    subst this; exact Rat.le_refl
end Go.Proofs.YtkhmfgkbobblmaaGreatDoor
