/- joinlearnref02: split, Parts, Valid. joinlearnref02: fractions as values: Of, Read, New, Give, Zero, Sign. joinlearnref02: New. joinlearnref02: Mul, Add, Sub of fractions as values. joinlearnref02: Give, Zero, Sign; Mul, Add, Sub, Compare of texts. -/
import Derived.Test.YthalpbjkkfkheaaGreatDoorRefY
/- joinlearnref02: split, Parts, Valid. -/
namespace Go.Proofs.YthalpbjkkfkheaaGreatDoor
open Go.RowKit Go.Lib

theorem byte_ne {x y : UInt8} (h : x ≠ y) : ((x.toNat : Int) == (y.toNat : Int)) = false := by
  rw [beq_eq_false_iff_ne]
  intro h'
  exact h (UInt8.toNat.inj (by omega))
set_option maxRecDepth 100000 in
set_option maxHeartbeats 8000000 in
theorem rsplit_none (l : List UInt8) (w : World) (hl : l.length ≤ 100000000) (hn : (47 : UInt8) ∉ l) :
    Calls Tryz.prog 55 #[.string ⟨l.toArray⟩] w fun e w' => e = .returned (.tuple #[.string ⟨l.toArray⟩, .string ⟨#[49]⟩, .bool false]) ∧ Ext w w' := by
  have HN := Lib.hid hn
  clear hn
  go_enter Tryz.func55, Tryz.ntmps55
  go_wp2
  go_loop [5] (fun v5 => ∃ k : Nat, k ≤ l.length ∧ v5 = .int .i64 k) (fun v5 => l.length - (RowKit.intOf v5).toNat)
  case atStart => exact ⟨0, Nat.zero_le _, rfl⟩
  case round =>
    obtain ⟨k, hk, rfl⟩ := hrel
    by_cases hlt : k < l.length
    · have hk' : k < (ByteArray.mk l.toArray).size := hlt
      have hne : ((((ByteArray.mk l.toArray)[k]'hk').toNat : Int) == 47) = false := byte_ne (y := 47) (fun h => HN.out (by rw [← h]; exact List.getElem_mem hlt))
      go_wp2
      go_round
      case rel => exact ⟨k + 1, by omega, by go_num⟩
      case measure => simp [RowKit.intOf]; omega
    · go_wp2
      go_ret3
      exact ⟨rfl, Ext.refl _⟩
set_option maxRecDepth 100000 in
set_option maxHeartbeats 8000000 in
theorem rsplit_some (a b : List UInt8) (w : World) (hl : a.length + b.length ≤ 10000000) (hn : (47 : UInt8) ∉ a) :
    Calls Tryz.prog 55 #[.string ⟨(a ++ 47 :: b).toArray⟩] w fun e w' => e = .returned (.tuple #[.string ⟨a.toArray⟩, .string ⟨b.toArray⟩, .bool true]) ∧ Ext w w' := by
  have HN := Lib.hid hn
  have hsz : (a ++ 47 :: b).length = a.length + b.length + 1 := by simp; omega
  obtain ⟨l, hl'⟩ : ∃ l, l = a ++ 47 :: b := ⟨_, rfl⟩
  have HLL := Lib.hid hl'
  rw [← hl'] at hsz ⊢
  have HSZ := Lib.hid hsz
  have hl1 : a.length < l.length := by omega
  have hl2 : l.length ≤ 10000001 := by omega
  clear hn hsz hl'
  go_enter Tryz.func55, Tryz.ntmps55
  go_wp2
  go_loop [5] (fun v5 => ∃ k : Nat, k ≤ a.length ∧ v5 = .int .i64 k) (fun v5 => l.length - (RowKit.intOf v5).toNat)
  case atStart => exact ⟨0, Nat.zero_le _, rfl⟩
  case round =>
    obtain ⟨k, hk, rfl⟩ := hrel
    have hkl : k < l.length := by omega
    have hk' : k < (ByteArray.mk l.toArray).size := hkl
    by_cases hlt : k < a.length
    · have hne : ((((ByteArray.mk l.toArray)[k]'hk').toNat : Int) == 47) = false := byte_ne (y := 47) (fun h => HN.out (by
        have e : l[k] = a[k] := by simp [HLL.out, hlt]
        rw [← h]
        show l[k] ∈ a
        rw [e]
        exact List.getElem_mem hlt))
      go_wp2
      go_round
      case rel => exact ⟨k + 1, by omega, by go_num⟩
      case measure => simp [RowKit.intOf]; omega
    · obtain rfl : k = a.length := by omega
      have heq : ((((ByteArray.mk l.toArray)[a.length]'hk').toNat : Int) == 47) = true := by
        have e : l[a.length] = 47 := by simp [HLL.out]
        have e' : ((ByteArray.mk l.toArray)[a.length]'hk') = 47 := e
        rw [e']
        rfl
      have c2 : (a.length : Int) ≤ (l.length : Int) := by omega
      have c4 : (a.length : Int) + 1 ≤ (l.length : Int) := by omega
      have e1 : (ByteArray.mk l.toArray).extract 0 a.length = ⟨a.toArray⟩ := by rw [ext_text, HLL.out]; simp
      have e2 : (ByteArray.mk l.toArray).extract (a.length + 1) l.length = ⟨b.toArray⟩ := by rw [ext_text, List.take_of_length_le (Nat.le_refl _), HLL.out, show a ++ 47 :: b = (a ++ [47]) ++ b by simp, List.drop_left' (by simp)]
      have E1 := Lib.hid e1
      have E2 := Lib.hid e2
      have hw1 : IntKind.i64.wrap ((a.length : Int) + 1) = (a.length : Int) + 1 := IntWalk.i64_in _ (by omega)
      clear e1 e2
      go_wp2
      go_quiet (fail)
      go_wp2
      go_ret3
      refine ⟨?_, (Ext.refl _).drewN _⟩
      show Ending.returned (Value.tuple #[.string ((ByteArray.mk l.toArray).extract 0 a.length), .string ((ByteArray.mk l.toArray).extract (a.length + 1) l.length), .bool true]) = _
      rw [E1.out, E2.out]
theorem r1valid_one (w : World) : Calls Tryz.prog 56 #[.string ⟨#[49]⟩] w fun e w' => e = .returned (.bool true) ∧ w = w' := by
  have h := r1valid_any 1 w (by rw [show (1 : Int).natAbs = 1 from rfl, nDigits_small (by decide)]; decide)
  rw [one_text] at h
  exact h
theorem rtext_one (v : Value) (w : World) (h : BigV w v ((1 : Nat) : Int)) : Calls Tryz.prog 59 #[v] w fun e w' => e = .returned (.string ⟨#[49]⟩) ∧ Ext w w' := by
  have h' := rtext_any v 1 w h fitz_one.wide
  rw [one_text] at h'
  exact h'
set_option maxRecDepth 100000 in
set_option maxHeartbeats 8000000 in
theorem rparts_any (q : Rat) (w : World) (hf : FitQ 400 q) :
    Calls Tryz.prog 46 #[.string ⟨(ratText q).toArray⟩] w fun e w' => e = .returned (.tuple #[.string ⟨(decZ q.num).toArray⟩, .string ⟨(decDigits q.den).toArray⟩, .bool true]) ∧ Ext w w' := by
  have hn2 := decZ_length q.num
  have hn3 := hf.dn
  have hd3 := hf.dd
  have V1 := Lib.hid (fun w => r1valid_any q.num w hf.dn)
  by_cases h1 : q.den = 1
  · have HT := Lib.hid (ratText_int h1)
    have hd1 : decDigits q.den = [49] := by rw [h1]; exact dec_small (by decide)
    rw [HT.out, hd1]
    have hsl := decZ_slash q.num
    have hlen : ((decZ q.num).length : Int) ≤ 802 := by omega
    generalize decZ q.num = a at *
    have HC := Lib.hid (fun w => rsplit_none a w (by omega) hsl)
    clear hn2 hn3 hd3 h1 hf HT hsl hd1
    go_enter Tryz.func46, Tryz.ntmps46
    go_wp2_with fail
    refine (HC.out w).mono ?_
    rintro e w1 ⟨rfl, hx1⟩
    go_wp2_with fail
    refine (V1.out w1).mono ?_
    rintro e w2 ⟨rfl, rfl⟩
    go_wp2_with fail
    refine (r1valid_one w1).mono ?_
    rintro e w3 ⟨rfl, rfl⟩
    go_wp2
    go_ret3
    exact ⟨rfl, hx1⟩
  · have HT := Lib.hid (ratText_frac h1)
    have hd1 : nDigits (q.den : Int).natAbs ≤ 400 := by rw [Int.natAbs_natCast]; exact hd3
    have V2 := Lib.hid (fun w => r1valid_any q.den w hd1)
    have R1 := Lib.hid (fun w => rread_any q.num w (small_fit hn3).wide)
    have R2 := Lib.hid (fun w => rread_any q.den w (small_fit hd1).wide)
    have F1 := Lib.hid (small_fit hn3)
    have F2 := Lib.hid (small_fit hd1)
    have hnz : (decZ q.num == [48]) = false := by
      rw [beq_eq_false_iff_ne]
      intro h
      have h0 : q.num = 0 := decZ_inj (h.trans dec_zero.symm)
      have := q.reduced
      rw [h0] at this
      exact h1 (by simpa using this)
    have hdn : decDigits q.den = decZ q.den := (decZ_nat _).symm
    have hd1n : (decZ q.den == [49]) = false := by
      rw [beq_eq_false_iff_ne]
      intro h
      have h0 : (q.den : Int) = 1 := decZ_inj (h.trans one_text.symm)
      exact h1 (by omega)
    have hd0n : (decZ q.den == [48]) = false := by
      rw [beq_eq_false_iff_ne]
      intro h
      have h0 : (q.den : Int) = 0 := decZ_inj (h.trans dec_zero.symm)
      have := q.den_pos
      omega
    have hg : Nat.gcd q.num.natAbs (q.den : Int).natAbs = 1 := by rw [Int.natAbs_natCast]; exact q.reduced
    have HG := Lib.hid hg
    have hsl := decZ_slash q.num
    have hll : (decZ q.num).length + (decZ q.den).length ≤ 10000000 := by rw [← hdn, decDigits_length]; omega
    have hlen : ((decZ q.num ++ 47 :: decZ q.den).length : Int) ≤ 802 := by rw [List.length_append, List.length_cons, ← hdn, decDigits_length]; omega
    obtain ⟨c0, r0, hcr⟩ : ∃ c0 r0, decZ q.den = c0 :: r0 := by
      rcases hd : decDigits q.den with _ | ⟨c0, r0⟩
      · exact absurd hd (dec_ne_nil _)
      · exact ⟨c0, r0, by rw [← hdn, hd]⟩
    have hp0 : 0 < (ByteArray.mk (decZ q.den).toArray).size := by show 0 < (decZ q.den).length; rw [hcr]; simp
    have hc45 : ((((ByteArray.mk (decZ q.den).toArray)[0]'hp0).toNat : Int) == 45) = false := byte_ne (y := 45) (fun h => by
      have e : (decZ q.den)[0]'hp0 = 45 := h
      have hm : (45 : UInt8) ∈ decDigits q.den := by rw [hdn, ← e]; exact List.getElem_mem _
      exact not_dg (by unfold isDg; decide) hm)
    rw [HT.out, hdn]
    have HC := Lib.hid (fun w => rsplit_some (decZ q.num) (decZ q.den) w hll hsl)
    generalize decZ q.num = a at *
    generalize decZ q.den = b at *
    generalize a ++ 47 :: b = ab at *
    clear hn2 hn3 hd3 h1 hf HT hsl hd1 hg hdn hll hcr
    go_enter Tryz.func46, Tryz.ntmps46
    go_wp2_with fail
    refine (HC.out w).mono ?_
    rintro e w1 ⟨rfl, hx1⟩
    go_wp2_with fail
    refine (V1.out w1).mono ?_
    rintro e w2 ⟨rfl, rfl⟩
    go_wp2_with fail
    refine (V2.out w1).mono ?_
    rintro e w3 ⟨rfl, rfl⟩
    go_wp2_with fail
    refine (R1.out w1).mono ?_
    rintro e w5 ⟨v5, rfl, hv5, hx5⟩
    obtain ⟨b5, A5, n5, c5, rfl, HV5⟩ := hv5.parts
    go_wp2_with fail
    refine (R2.out w5).mono ?_
    rintro e w6 ⟨v6, rfl, hv6, hx6⟩
    obtain ⟨b6, A6, n6, c6, rfl, HV6⟩ := hv6.parts
    go_wp2_with fail
    refine (rgcd_any _ _ q.num q.den w6 (HV5.out.ext hx6) HV6.out F1.out F2.out).mono ?_
    rintro e w7 ⟨v7, rfl, hv7, hx7⟩
    rw [HG.out] at hv7
    obtain ⟨b7, A7, n7, c7, rfl, HV7⟩ := hv7.parts
    go_wp2_with fail
    refine (rtext_one _ w7 HV7.out).mono ?_
    rintro e w8 ⟨rfl, hx8⟩
    go_wp2
    go_ret3
    exact ⟨rfl, hx1.trans (hx5.trans (hx6.trans (hx7.trans hx8)))⟩
end Go.Proofs.YthalpbjkkfkheaaGreatDoor
/- joinlearnref02: fractions as values: Of, Read, New, Give, Zero, Sign. -/
namespace Go.Proofs.YthalpbjkkfkheaaGreatDoor
open Go.RowKit Go.Lib

/-- the value v is the rational q -/
def RFrac (w : World) (v : Value) (q : Rat) : Prop := ∃ a b c d, v = .agg #[a, b, c, d] ∧ BigV w (.agg #[a, b]) q.num ∧ BigV w (.agg #[c, d]) q.den
theorem RFrac.ext {w w' : World} {v : Value} {q : Rat} (h : RFrac w v q) (hx : Ext w w') : RFrac w' v q := by
  obtain ⟨a, b, c, d, rfl, h1, h2⟩ := h
  exact ⟨a, b, c, d, rfl, h1.ext hx, h2.ext hx⟩
theorem RFrac.keep {w w' : World} {v : Value} {q : Rat} (h : RFrac w v q) (hx : Kept tI w w') : RFrac w' v q := by
  obtain ⟨a, b, c, d, rfl, h1, h2⟩ := h
  exact ⟨a, b, c, d, rfl, h1.keep hx, h2.keep hx⟩
theorem RFrac.parts {w : World} {v : Value} {q : Rat} (h : RFrac w v q) : ∃ b A n c b' A' n' c', v = .agg #[.bool b, .slice A n c, .bool b', .slice A' n' c'] ∧ Hid (BigV w (.agg #[.bool b, .slice A n c]) q.num) ∧ Hid (BigV w (.agg #[.bool b', .slice A' n' c']) q.den) := by
  obtain ⟨a, b, c, d, rfl, h1, h2⟩ := h
  obtain ⟨b1, A1, n1, c1, e1, H1⟩ := h1.parts
  obtain ⟨b2, A2, n2, c2, e2, H2⟩ := h2.parts
  simp at e1 e2
  obtain ⟨rfl, rfl⟩ := e1
  obtain ⟨rfl, rfl⟩ := e2
  exact ⟨b1, A1, n1, c1, b2, A2, n2, c2, rfl, H1, H2⟩
theorem RFrac.mk' {w : World} {a b c d : Value} {q : Rat} (h1 : BigV w (.agg #[a, b]) q.num) (h2 : BigV w (.agg #[c, d]) q.den) : RFrac w (.agg #[a, b, c, d]) q := ⟨a, b, c, d, rfl, h1, h2⟩
theorem rread_one (w : World) : Calls Tryz.prog 57 #[.string ⟨#[49]⟩] w fun e w' => ∃ v, e = .returned v ∧ BigV w' v 1 ∧ Ext w w' := by
  have h := rread_any 1 w fitz_one.wide
  rw [one_text] at h
  exact h

theorem divInt_quo (x y : Int) (hy : 0 < y) : signed (decide (x < 0) != decide ((((Nat.gcd x.natAbs y.natAbs : Nat) : Int)) < 0)) (x.natAbs / (((Nat.gcd x.natAbs y.natAbs : Nat) : Int)).natAbs) = (Rat.divInt x y).num ∧ signed (decide (y < 0) != decide ((((Nat.gcd x.natAbs y.natAbs : Nat) : Int)) < 0)) (y.natAbs / (((Nat.gcd x.natAbs y.natAbs : Nat) : Int)).natAbs) = ((Rat.divInt x y).den : Int) := by
  have hd := divInt_parts x y hy
  have e : Int.gcd x y = Nat.gcd x.natAbs y.natAbs := rfl
  rw [e] at hd
  have hg : 0 < Nat.gcd x.natAbs y.natAbs := Nat.gcd_pos_of_pos_right _ (by omega)
  have hdx : Nat.gcd x.natAbs y.natAbs ∣ x.natAbs := Nat.gcd_dvd_left _ _
  have hdy : Nat.gcd x.natAbs y.natAbs ∣ y.natAbs := Nat.gcd_dvd_right _ _
  rw [hd.1, hd.2]
  generalize Nat.gcd x.natAbs y.natAbs = G at *
  rw [Int.natAbs_natCast, decide_eq_false (show ¬ ((G : Int) < 0) by omega), decide_eq_false (show ¬ (y < 0) by omega)]
  obtain ⟨a, ha⟩ := hdx
  obtain ⟨b, hb⟩ := hdy
  rw [ha, hb, Nat.mul_div_cancel_left _ hg, Nat.mul_div_cancel_left _ hg]
  constructor
  · by_cases h : x < 0
    · have hx : x = (G : Int) * (-(a : Int)) := by rw [Int.mul_neg, ← Int.natCast_mul, ← ha]; omega
      rw [decide_eq_true h, hx, Int.mul_ediv_cancel_left _ (by omega)]
      rfl
    · have hx : x = (G : Int) * (a : Int) := by rw [← Int.natCast_mul, ← ha]; omega
      rw [decide_eq_false h, hx, Int.mul_ediv_cancel_left _ (by omega)]
      rfl
  · have hx : y = (G : Int) * (b : Int) := by rw [← Int.natCast_mul, ← hb]; omega
    rw [hx, Int.mul_ediv_cancel_left _ (by omega)]
    rfl
end Go.Proofs.YthalpbjkkfkheaaGreatDoor
/- joinlearnref02: New. -/
namespace Go.Proofs.YthalpbjkkfkheaaGreatDoor
open Go.RowKit Go.Lib

theorem big_len_pos {w : World} {b : Bool} {A : Option Addr} {n c : Nat} {z : Int} (h : BigV w (.agg #[.bool b, .slice A n c]) z) (hz : z ≠ 0) : 0 < n := by
  obtain ⟨_, rfl, _⟩ := h.inv
  rcases Nat.eq_zero_or_pos (toL z.natAbs).length with h0 | h0
  · have := toL_eq_nil.1 (List.eq_nil_of_length_eq_zero h0)
    omega
  · exact h0
end Go.Proofs.YthalpbjkkfkheaaGreatDoor
/- joinlearnref02: Mul, Add, Sub of fractions as values. -/
namespace Go.Proofs.YthalpbjkkfkheaaGreatDoor
open Go.RowKit Go.Lib
theorem sub_divInt (a b : Rat) : Rat.divInt (a.num * b.den - b.num * a.den) (a.den * b.den) = a - b := by
  have h := add_divInt a (-b)
  rw [Rat.neg_num, Rat.neg_den, Int.neg_mul, ← Int.sub_eq_add_neg] at h
  rw [h, Rat.sub_eq_add_neg]
theorem FitQ.subZ {p q : Rat} {d e : Nat} (fa : FitQ d p) (fb : FitQ e q) (he : d + e + 1 ≤ 1000000) : FitZ (p.num * q.den - q.num * p.den) := by
  have h := FitQ.addZ fa fb.neg he
  rw [Rat.neg_num, Rat.neg_den, Int.neg_mul, ← Int.sub_eq_add_neg] at h
  exact h
end Go.Proofs.YthalpbjkkfkheaaGreatDoor
/- joinlearnref02: Give, Zero, Sign; Mul, Add, Sub, Compare of texts. -/
namespace Go.Proofs.YthalpbjkkfkheaaGreatDoor
open Go.RowKit Go.Lib

theorem big_len {w : World} {b : Bool} {A : Option Addr} {n c : Nat} {z : Int} (h : BigV w (.agg #[.bool b, .slice A n c]) z) : (((n : Int) == 0)) = decide (z = 0) := by
  obtain ⟨_, rfl, _⟩ := h.inv
  by_cases hz : z = 0
  · subst hz; rfl
  · rw [decide_eq_false hz, beq_eq_false_iff_ne]
    have := big_len_pos h hz
    omega
end Go.Proofs.YthalpbjkkfkheaaGreatDoor
