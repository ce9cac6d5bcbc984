/- join.Less, slices.Compare on texts, cmp.Compare on strings. -/
import Derived.Test.YthalpbjkkfkheaaGreatDoorTbl
import Derived.Laws.Cover1
namespace Go.Proofs.YthalpbjkkfkheaaGreatDoor
open Go.RowKit Go.Lib

def cmpS (a b : Txt) : Int := if Op.bytesLess a b = true then -1 else if (a == b) = true then 0 else 1
def cmpTs (a b : List Txt) : Int := if ltT a b = true then -1 else if (a == b) = true then 0 else 1
set_option maxRecDepth 100000 in
theorem isnan_any (a : Txt) (w : World) :
    Calls Tryz.prog 83 #[.string ⟨a.toArray⟩] w fun e w' => e = .returned (.bool false) ∧ w' = w := by
  have h : (a == a) = true := by simp
  go_enter Tryz.func83, Tryz.ntmps83
  go_wp2
  go_ret
  exact ⟨rfl, rfl⟩
set_option maxRecDepth 100000 in
set_option maxHeartbeats 1000000 in
theorem ccmp_any (a b : Txt) (w : World) :
    Calls Tryz.prog 70 #[.string ⟨a.toArray⟩, .string ⟨b.toArray⟩] w fun e w' => e = .returned (.int .i64 (cmpS a b)) ∧ w' = w := by
  have HV : Hid (cmpS a b = if Op.bytesLess a b = true then -1 else if (a == b) = true then 0 else 1) := rfl
  generalize cmpS a b = cv at *
  have H1 := Lib.hid (isnan_any a w)
  have H2 := Lib.hid (isnan_any b w)
  cases hl : Op.bytesLess a b with
  | true =>
    rw [hl] at HV
    have HC : Hid (cv = -1) := HV.out
    go_enter Tryz.func70, Tryz.ntmps70
    go_wp2_with fail
    refine H1.out.mono ?_
    rintro e w1 ⟨rfl, rfl⟩
    go_wp2_with fail
    refine H2.out.mono ?_
    rintro e w1 ⟨rfl, rfl⟩
    go_wp2
    go_ret
    exact ⟨by rw [HC.out]; rfl, rfl⟩
  | false =>
    cases he : a == b with
    | true =>
      rw [hl, he] at HV
      have HC : Hid (cv = 0) := HV.out
      go_enter Tryz.func70, Tryz.ntmps70
      go_wp2_with fail
      refine H1.out.mono ?_
      rintro e w1 ⟨rfl, rfl⟩
      go_wp2_with fail
      refine H2.out.mono ?_
      rintro e w1 ⟨rfl, rfl⟩
      go_wp2
      go_ret
      exact ⟨by rw [HC.out]; rfl, rfl⟩
    | false =>
      rw [hl, he] at HV
      have HC : Hid (cv = 1) := HV.out
      go_enter Tryz.func70, Tryz.ntmps70
      go_wp2_with fail
      refine H1.out.mono ?_
      rintro e w1 ⟨rfl, rfl⟩
      go_wp2_with fail
      refine H2.out.mono ?_
      rintro e w1 ⟨rfl, rfl⟩
      go_wp2
      go_ret
      exact ⟨by rw [HC.out]; rfl, rfl⟩
set_option maxRecDepth 100000 in
set_option maxHeartbeats 1000000 in
theorem scmp_any (A1 A2 : Option Addr) (n1 c1 n2 c2 : Nat) (a b : List Txt) (w : World) (h1 : TL w (.slice A1 n1 c1) a) (h2 : TL w (.slice A2 n2 c2) b) :
    Calls Tryz.prog 54 #[.slice A1 n1 c1, .slice A2 n2 c2] w fun e w' => e = .returned (.int .i64 (cmpTs a b)) ∧ w' = w := by
  obtain ⟨e1, hc1, hm1⟩ := cap_le h1
  obtain ⟨e2, hc2, hm2⟩ := cap_le h2
  subst e1 e2
  have HA := Lib.hid h1
  have HB := Lib.hid h2
  clear h1 h2
  go_enter Tryz.func54, Tryz.ntmps54
  go_wp2
  go_loopw [11] (fun v wr => ∃ i : Nat, i ≤ a.length ∧ i ≤ b.length ∧ v = .int .i64 i ∧ Hid (a.take i = b.take i) ∧ wr = w) (fun v _ => a.length - (RowKit.intOf v).toNat)
  case atStart => exact ⟨0, Nat.zero_le _, Nat.zero_le _, rfl, rfl, rfl⟩
  case round =>
    obtain ⟨i, hi1, hi2, rfl, HT, rfl⟩ := hrel
    by_cases ha : i < a.length
    · obtain ⟨g, o, rfl, _, hcell⟩ := TL.get HA.out ha
      by_cases hb : i < b.length
      · obtain ⟨g', o', rfl, _, hcell'⟩ := TL.get HB.out hb
        have HLT := Lib.hid (fun h => ltT_at ha hb HT.out h)
        have HTS : Hid ((a[i] == b[i]) = true → a.take (i + 1) = b.take (i + 1)) := fun h => by rw [List.take_add_one, List.take_add_one, HT.out, List.getElem?_eq_getElem ha, List.getElem?_eq_getElem hb, beq_iff_eq.1 h]
        have HNE : Hid ((a[i] == b[i]) = false → (a == b) = false) := fun h => by
          rw [beq_eq_false_iff_ne] at h ⊢
          intro e
          subst e
          exact h rfl
        generalize a[i] = x at *
        generalize b[i] = y at *
        have CS := Lib.hid (ccmp_any x y wr)
        cases hxy : x == y with
        | true =>
          have HTN := Lib.hid (HTS.out hxy)
          have hcs : cmpS x y = 0 := by
            have e := beq_iff_eq.1 hxy
            unfold cmpS
            rw [if_neg (by rw [e, text_lin.irr]; decide), if_pos hxy]
          rw [hcs] at CS
          clear hxy hcs HTS HLT HNE HT
          go_wp2_with fail
          refine CS.out.mono ?_
          rintro e w1 ⟨rfl, rfl⟩
          go_wp2
          go_roundw
          case rel => exact ⟨i + 1, by omega, by omega, by go_num, HTN, by trivial⟩
          case measure => simp [RowKit.intOf]; omega
        | false =>
          have HV : Hid (cmpTs a b = cmpS x y) := by
            unfold cmpTs cmpS
            rw [Hid, HLT.out hxy, HNE.out hxy, hxy]
          have hcs : cmpS x y = -1 ∨ cmpS x y = 1 := by
            unfold cmpS
            rw [hxy]
            split
            · exact .inl rfl
            · exact .inr rfl
          clear HLT HNE HTS hxy HT
          generalize cmpS x y = cv at *
          rcases hcs with rfl | rfl
          · go_wp2_with fail
            refine CS.out.mono ?_
            rintro e w1 ⟨rfl, rfl⟩
            go_wp2
            go_ret
            exact ⟨by rw [HV.out]; rfl, rfl⟩
          · go_wp2_with fail
            refine CS.out.mono ?_
            rintro e w1 ⟨rfl, rfl⟩
            go_wp2
            go_ret
            exact ⟨by rw [HV.out]; rfl, rfl⟩
      · have HV : Hid (cmpTs a b = 1) := by
          have e : i = b.length := by omega
          have h1 := HT.out
          rw [e] at h1
          have h2 := ltT_endB h1
          have h3 : (a == b) = false := by
            rw [beq_eq_false_iff_ne]
            intro h
            rw [h] at ha
            omega
          unfold cmpTs
          rw [Hid, h2, h3]
          rfl
        have hbi : b.length ≤ i := by omega
        go_wp2
        go_ret
        exact ⟨by rw [HV.out]; rfl, rfl⟩
    · have hie : i = a.length := by omega
      have HI := Lib.hid hie
      have hai : a.length ≤ i := by omega
      clear hie
      by_cases hb : a.length < b.length
      · have HV : Hid (cmpTs a b = -1) := by
          have h1 := HT.out
          rw [HI.out] at h1
          unfold cmpTs
          rw [Hid, ltT_endA hb h1]
          rfl
        go_wp2
        go_ret
        exact ⟨by rw [HV.out]; rfl, rfl⟩
      · have HV : Hid (cmpTs a b = 0) := by
          have h1 := HT.out
          have e : i = b.length := by omega
          have e2 : a = b := by
            have h2 := h1
            rw [HI.out, List.take_length] at h2
            have h3 : a.length = b.length := by omega
            rw [h3, List.take_length] at h2
            exact h2
          unfold cmpTs
          rw [Hid, e2, ltT_lin.irr]
          simp
        go_wp2
        go_ret
        exact ⟨by rw [HV.out]; rfl, rfl⟩
set_option maxRecDepth 100000 in
theorem jless_any (A1 A2 : Option Addr) (n1 c1 n2 c2 : Nat) (a b : List Txt) (w : World) (h1 : TL w (.slice A1 n1 c1) a) (h2 : TL w (.slice A2 n2 c2) b) :
    Calls Tryz.prog 45 #[.slice A1 n1 c1, .slice A2 n2 c2] w fun e w' => e = .returned (.bool (ltT a b)) ∧ w = w' := by
  have CS := Lib.hid (scmp_any A1 A2 n1 c1 n2 c2 a b w h1 h2)
  clear h1 h2
  cases hl : ltT a b with
  | true =>
    have hcs : cmpTs a b = -1 := by unfold cmpTs; rw [if_pos hl]
    rw [hcs] at CS
    go_enter Tryz.func45, Tryz.ntmps45
    go_wp2_with fail
    refine CS.out.mono ?_
    rintro e w1 ⟨rfl, rfl⟩
    go_wp2
    go_ret
    exact ⟨rfl, rfl⟩
  | false =>
    have hcs : cmpTs a b = 0 ∨ cmpTs a b = 1 := by
      unfold cmpTs
      rw [hl]
      split
      · rename_i h; cases h
      · split
        · exact .inl rfl
        · exact .inr rfl
    generalize cmpTs a b = cv at *
    rcases hcs with rfl | rfl
    · go_enter Tryz.func45, Tryz.ntmps45
      go_wp2_with fail
      refine CS.out.mono ?_
      rintro e w1 ⟨rfl, rfl⟩
      go_wp2
      go_ret
      exact ⟨rfl, rfl⟩
    · go_enter Tryz.func45, Tryz.ntmps45
      go_wp2_with fail
      refine CS.out.mono ?_
      rintro e w1 ⟨rfl, rfl⟩
      go_wp2
      go_ret
      exact ⟨rfl, rfl⟩
end Go.Proofs.YthalpbjkkfkheaaGreatDoor
