/- joinlearnref02: split, Parts, Valid. joinlearnref02: fractions as values: Of, Read, New, Give, Zero, Sign. joinlearnref02: New. joinlearnref02: Mul, Add, Sub of fractions as values. joinlearnref02: Give, Zero, Sign; Mul, Add, Sub, Compare of texts. -/
import Derived.Test.YtkhmfgkbobblmaaGreatDoorRefY
/- joinlearnref02: split, Parts, Valid. -/
namespace Go.Proofs.YtkhmfgkbobblmaaGreatDoor
open Go.RowKit Go.Lib

theorem byte_ne {x y : UInt8} (h : x ≠ y) : ((x.toNat : Int) == (y.toNat : Int)) = false := by
  rw [beq_eq_false_iff_ne]
  intro h'
  exact h (UInt8.toNat.inj (by omega))
set_option maxRecDepth 100000 in
set_option maxHeartbeats 8000000 in
theorem rsplit_none (l : List UInt8) (w : World) (hl : l.length ≤ 100000000) (hn : (47 : UInt8) ∉ l) :
    Calls Tryz.prog 49 #[.string ⟨l.toArray⟩] w fun e w' => e = .returned (.tuple #[.string ⟨l.toArray⟩, .string ⟨#[49]⟩, .bool false]) ∧ Ext w w' := by
  have HN := Lib.hid hn
  clear hn
  go_enter Tryz.func49, Tryz.ntmps49
  go_wp2
  go_loop [5] (fun v5 => ∃ k : Nat, k ≤ l.length ∧ v5 = .int .i64 k) (fun v5 => l.length - (RowKit.intOf v5).toNat)
  case atStart => exact ⟨0, Nat.zero_le _, rfl⟩
  case round =>
    obtain ⟨k, hk, rfl⟩ := hrel
    by_cases hlt : k < l.length
    · have hk' : k < (ByteArray.mk l.toArray).size := hlt
      have hne : ((((ByteArray.mk l.toArray)[k]'hk').toNat : Int) == 47) = false := byte_ne (y := 47) (fun h => HN.out (by rw [← h]; exact List.getElem_mem hlt))
      go_wp2
      go_round
      case rel => exact ⟨k + 1, by omega, by go_num⟩
      case measure => simp [RowKit.intOf]; omega
    · go_wp2
      go_ret3
      exact ⟨rfl, Ext.refl _⟩
set_option maxRecDepth 100000 in
set_option maxHeartbeats 8000000 in
theorem rsplit_some (a b : List UInt8) (w : World) (hl : a.length + b.length ≤ 10000000) (hn : (47 : UInt8) ∉ a) :
    Calls Tryz.prog 49 #[.string ⟨(a ++ 47 :: b).toArray⟩] w fun e w' => e = .returned (.tuple #[.string ⟨a.toArray⟩, .string ⟨b.toArray⟩, .bool true]) ∧ Ext w w' := by
  have HN := Lib.hid hn
  have hsz : (a ++ 47 :: b).length = a.length + b.length + 1 := by simp; omega
  obtain ⟨l, hl'⟩ : ∃ l, l = a ++ 47 :: b := ⟨_, rfl⟩
  have HLL := Lib.hid hl'
  rw [← hl'] at hsz ⊢
  have HSZ := Lib.hid hsz
  have hl1 : a.length < l.length := by omega
  have hl2 : l.length ≤ 10000001 := by omega
  clear hn hsz hl'
  go_enter Tryz.func49, Tryz.ntmps49
  go_wp2
  go_loop [5] (fun v5 => ∃ k : Nat, k ≤ a.length ∧ v5 = .int .i64 k) (fun v5 => l.length - (RowKit.intOf v5).toNat)
  case atStart => exact ⟨0, Nat.zero_le _, rfl⟩
  case round =>
    obtain ⟨k, hk, rfl⟩ := hrel
    have hkl : k < l.length := by omega
    have hk' : k < (ByteArray.mk l.toArray).size := hkl
    by_cases hlt : k < a.length
    · have hne : ((((ByteArray.mk l.toArray)[k]'hk').toNat : Int) == 47) = false := byte_ne (y := 47) (fun h => HN.out (by
        have e : l[k] = a[k] := by simp [HLL.out, hlt]
        rw [← h]
        show l[k] ∈ a
        rw [e]
        exact List.getElem_mem hlt))
      go_wp2
      go_round
      case rel => exact ⟨k + 1, by omega, by go_num⟩
      case measure => simp [RowKit.intOf]; omega
    · obtain rfl : k = a.length := by omega
      have heq : ((((ByteArray.mk l.toArray)[a.length]'hk').toNat : Int) == 47) = true := by
        have e : l[a.length] = 47 := by simp [HLL.out]
        have e' : ((ByteArray.mk l.toArray)[a.length]'hk') = 47 := e
        rw [e']
        rfl
      have c2 : (a.length : Int) ≤ (l.length : Int) := by omega
      have c4 : (a.length : Int) + 1 ≤ (l.length : Int) := by omega
      have e1 : (ByteArray.mk l.toArray).extract 0 a.length = ⟨a.toArray⟩ := by rw [ext_text, HLL.out]; simp
      have e2 : (ByteArray.mk l.toArray).extract (a.length + 1) l.length = ⟨b.toArray⟩ := by rw [ext_text, List.take_of_length_le (Nat.le_refl _), HLL.out, show a ++ 47 :: b = (a ++ [47]) ++ b by simp, List.drop_left' (by simp)]
      have E1 := Lib.hid e1
      have E2 := Lib.hid e2
      have hw1 : IntKind.i64.wrap ((a.length : Int) + 1) = (a.length : Int) + 1 := IntWalk.i64_in _ (by omega)
      clear e1 e2
      go_wp2
      go_quiet (fail)
      go_wp2
      go_ret3
      refine ⟨?_, (Ext.refl _).drewN _⟩
      show Ending.returned (Value.tuple #[.string ((ByteArray.mk l.toArray).extract 0 a.length), .string ((ByteArray.mk l.toArray).extract (a.length + 1) l.length), .bool true]) = _
      rw [E1.out, E2.out]
theorem r1valid_one (w : World) : Calls Tryz.prog 86 #[.string ⟨#[49]⟩] w fun e w' => e = .returned (.bool true) ∧ w = w' := by
  have h := r1valid_any 1 w (by rw [show (1 : Int).natAbs = 1 from rfl, nDigits_small (by decide)]; decide)
  rw [one_text] at h
  exact h
theorem rtext_one (v : Value) (w : World) (h : BigV w v ((1 : Nat) : Int)) : Calls Tryz.prog 59 #[v] w fun e w' => e = .returned (.string ⟨#[49]⟩) ∧ Ext w w' := by
  have h' := rtext_any v 1 w h fitz_one.wide
  rw [one_text] at h'
  exact h'
set_option maxRecDepth 100000 in
set_option maxHeartbeats 8000000 in
theorem rparts_any (q : Rat) (w : World) (hf : FitQ 400 q) :
    Calls Tryz.prog 60 #[.string ⟨(ratText q).toArray⟩] w fun e w' => e = .returned (.tuple #[.string ⟨(decZ q.num).toArray⟩, .string ⟨(decDigits q.den).toArray⟩, .bool true]) ∧ Ext w w' := by
  have hn2 := decZ_length q.num
  have hn3 := hf.dn
  have hd3 := hf.dd
  have V1 := Lib.hid (fun w => r1valid_any q.num w hf.dn)
  by_cases h1 : q.den = 1
  · have HT := Lib.hid (ratText_int h1)
    have hd1 : decDigits q.den = [49] := by rw [h1]; exact dec_small (by decide)
    rw [HT.out, hd1]
    have hsl := decZ_slash q.num
    have hlen : ((decZ q.num).length : Int) ≤ 802 := by omega
    generalize decZ q.num = a at *
    have HC := Lib.hid (fun w => rsplit_none a w (by omega) hsl)
    clear hn2 hn3 hd3 h1 hf HT hsl hd1
    go_enter Tryz.func60, Tryz.ntmps60
    go_wp2_with fail
    refine (HC.out w).mono ?_
    rintro e w1 ⟨rfl, hx1⟩
    go_wp2_with fail
    refine (V1.out w1).mono ?_
    rintro e w2 ⟨rfl, rfl⟩
    go_wp2_with fail
    refine (r1valid_one w1).mono ?_
    rintro e w3 ⟨rfl, rfl⟩
    go_wp2
    go_ret3
    exact ⟨rfl, hx1⟩
  · have HT := Lib.hid (ratText_frac h1)
    have hd1 : nDigits (q.den : Int).natAbs ≤ 400 := by rw [Int.natAbs_natCast]; exact hd3
    have V2 := Lib.hid (fun w => r1valid_any q.den w hd1)
    have R1 := Lib.hid (fun w => rread_any q.num w (small_fit hn3).wide)
    have R2 := Lib.hid (fun w => rread_any q.den w (small_fit hd1).wide)
    have F1 := Lib.hid (small_fit hn3)
    have F2 := Lib.hid (small_fit hd1)
    have hnz : (decZ q.num == [48]) = false := by
      rw [beq_eq_false_iff_ne]
      intro h
      have h0 : q.num = 0 := decZ_inj (h.trans dec_zero.symm)
      have := q.reduced
      rw [h0] at this
      exact h1 (by simpa using this)
    have hdn : decDigits q.den = decZ q.den := (decZ_nat _).symm
    have hd1n : (decZ q.den == [49]) = false := by
      rw [beq_eq_false_iff_ne]
      intro h
      have h0 : (q.den : Int) = 1 := decZ_inj (h.trans one_text.symm)
      exact h1 (by omega)
    have hd0n : (decZ q.den == [48]) = false := by
      rw [beq_eq_false_iff_ne]
      intro h
      have h0 : (q.den : Int) = 0 := decZ_inj (h.trans dec_zero.symm)
      have := q.den_pos
      omega
    have hg : Nat.gcd q.num.natAbs (q.den : Int).natAbs = 1 := by rw [Int.natAbs_natCast]; exact q.reduced
    have HG := Lib.hid hg
    have hsl := decZ_slash q.num
    have hll : (decZ q.num).length + (decZ q.den).length ≤ 10000000 := by rw [← hdn, decDigits_length]; omega
    have hlen : ((decZ q.num ++ 47 :: decZ q.den).length : Int) ≤ 802 := by rw [List.length_append, List.length_cons, ← hdn, decDigits_length]; omega
    obtain ⟨c0, r0, hcr⟩ : ∃ c0 r0, decZ q.den = c0 :: r0 := by
      rcases hd : decDigits q.den with _ | ⟨c0, r0⟩
      · exact absurd hd (dec_ne_nil _)
      · exact ⟨c0, r0, by rw [← hdn, hd]⟩
    have hp0 : 0 < (ByteArray.mk (decZ q.den).toArray).size := by show 0 < (decZ q.den).length; rw [hcr]; simp
    have hc45 : ((((ByteArray.mk (decZ q.den).toArray)[0]'hp0).toNat : Int) == 45) = false := byte_ne (y := 45) (fun h => by
      have e : (decZ q.den)[0]'hp0 = 45 := h
      have hm : (45 : UInt8) ∈ decDigits q.den := by rw [hdn, ← e]; exact List.getElem_mem _
      exact not_dg (by unfold isDg; decide) hm)
    rw [HT.out, hdn]
    have HC := Lib.hid (fun w => rsplit_some (decZ q.num) (decZ q.den) w hll hsl)
    generalize decZ q.num = a at *
    generalize decZ q.den = b at *
    generalize a ++ 47 :: b = ab at *
    clear hn2 hn3 hd3 h1 hf HT hsl hd1 hg hdn hll hcr
    go_enter Tryz.func60, Tryz.ntmps60
    go_wp2_with fail
    refine (HC.out w).mono ?_
    rintro e w1 ⟨rfl, hx1⟩
    go_wp2_with fail
    refine (V1.out w1).mono ?_
    rintro e w2 ⟨rfl, rfl⟩
    go_wp2_with fail
    refine (V2.out w1).mono ?_
    rintro e w3 ⟨rfl, rfl⟩
    go_wp2_with fail
    refine (R1.out w1).mono ?_
    rintro e w5 ⟨v5, rfl, hv5, hx5⟩
    obtain ⟨b5, A5, n5, c5, rfl, HV5⟩ := hv5.parts
    go_wp2_with fail
    refine (R2.out w5).mono ?_
    rintro e w6 ⟨v6, rfl, hv6, hx6⟩
    obtain ⟨b6, A6, n6, c6, rfl, HV6⟩ := hv6.parts
    go_wp2_with fail
    refine (rgcd_any _ _ q.num q.den w6 (HV5.out.ext hx6) HV6.out F1.out F2.out).mono ?_
    rintro e w7 ⟨v7, rfl, hv7, hx7⟩
    rw [HG.out] at hv7
    obtain ⟨b7, A7, n7, c7, rfl, HV7⟩ := hv7.parts
    go_wp2_with fail
    refine (rtext_one _ w7 HV7.out).mono ?_
    rintro e w8 ⟨rfl, hx8⟩
    go_wp2
    go_ret3
    exact ⟨rfl, hx1.trans (hx5.trans (hx6.trans (hx7.trans hx8)))⟩
theorem r2valid_any (q : Rat) (w : World) (hf : FitQ 400 q) :
    Calls Tryz.prog 35 #[.string ⟨(ratText q).toArray⟩] w fun e w' => e = .returned (.bool true) ∧ Ext w w' := by
  have H := Lib.hid (fun w => rparts_any q w hf)
  clear hf
  generalize ratText q = t at *
  generalize decZ q.num = a at *
  generalize decDigits q.den = b at *
  go_enter Tryz.func35, Tryz.ntmps35
  go_wp2_with fail
  refine (H.out w).mono ?_
  rintro e w1 ⟨rfl, hx1⟩
  go_wp2
  go_ret
  exact ⟨rfl, hx1⟩
end Go.Proofs.YtkhmfgkbobblmaaGreatDoor
/- joinlearnref02: fractions as values: Of, Read, New, Give, Zero, Sign. -/
namespace Go.Proofs.YtkhmfgkbobblmaaGreatDoor
open Go.RowKit Go.Lib

abbrev tFr : TypeId := 47
/-- the value v is the rational q -/
def RFrac (w : World) (v : Value) (q : Rat) : Prop := ∃ a b c d, v = .agg #[a, b, c, d] ∧ BigV w (.agg #[a, b]) q.num ∧ BigV w (.agg #[c, d]) q.den
theorem RFrac.ext {w w' : World} {v : Value} {q : Rat} (h : RFrac w v q) (hx : Ext w w') : RFrac w' v q := by
  obtain ⟨a, b, c, d, rfl, h1, h2⟩ := h
  exact ⟨a, b, c, d, rfl, h1.ext hx, h2.ext hx⟩
theorem RFrac.keep {w w' : World} {v : Value} {q : Rat} (h : RFrac w v q) (hx : Kept tI w w') : RFrac w' v q := by
  obtain ⟨a, b, c, d, rfl, h1, h2⟩ := h
  exact ⟨a, b, c, d, rfl, h1.keep hx, h2.keep hx⟩
theorem RFrac.parts {w : World} {v : Value} {q : Rat} (h : RFrac w v q) : ∃ b A n c b' A' n' c', v = .agg #[.bool b, .slice A n c, .bool b', .slice A' n' c'] ∧ Hid (BigV w (.agg #[.bool b, .slice A n c]) q.num) ∧ Hid (BigV w (.agg #[.bool b', .slice A' n' c']) q.den) := by
  obtain ⟨a, b, c, d, rfl, h1, h2⟩ := h
  obtain ⟨b1, A1, n1, c1, e1, H1⟩ := h1.parts
  obtain ⟨b2, A2, n2, c2, e2, H2⟩ := h2.parts
  simp at e1 e2
  obtain ⟨rfl, rfl⟩ := e1
  obtain ⟨rfl, rfl⟩ := e2
  exact ⟨b1, A1, n1, c1, b2, A2, n2, c2, rfl, H1, H2⟩
theorem RFrac.mk' {w : World} {a b c d : Value} {q : Rat} (h1 : BigV w (.agg #[a, b]) q.num) (h2 : BigV w (.agg #[c, d]) q.den) : RFrac w (.agg #[a, b, c, d]) q := ⟨a, b, c, d, rfl, h1, h2⟩
theorem ret_rfrac {fn : Func} {t g : Nat} {w w1 : World} {x0 x1 x2 x3 u0 u1 u2 u3 : Value} {q : Rat} {a : Act} {R : Ending → World → Prop} (hres : fn.results = #[.cell t tFr]) (ht : a.tmps.getD t undef = .pointer (some ⟨g, 0, none⟩)) (hd : a.defers = [])
    (hB : Blk w1 g tFr [u0, u1, u2, u3]) (H1 : RFrac w1 (.agg #[x0, x1, x2, x3]) q) (hx : Ext w w1) (hg : w.heap.size ≤ g) (hR : ∀ v W', RFrac W' v q → Ext w W' → R (.returned v) W') :
    bodyPost Tryz.prog fn R .ret a ((((w1.setCell ⟨g, 0, none⟩ x0).setCell ⟨g, 1, none⟩ x1).setCell ⟨g, 2, none⟩ x2).setCell ⟨g, 3, none⟩ x3) := by
  have hB2 : Blk ((((w1.setCell ⟨g, 0, none⟩ x0).setCell ⟨g, 1, none⟩ x1).setCell ⟨g, 2, none⟩ x2).setCell ⟨g, 3, none⟩ x3) g tFr [x0, x1, x2, x3] := (((hB.set_ 0 x0).set_ 1 x1).set_ 2 x2).set_ 3 x3
  exact bodyPost_ret (results_cell_row hres a.tmps _ g tFr #[x0, x1, x2, x3] (0, 0) _ ht hB2 Tryz.underlying47 rfl (by kernel_rfl)) hd (hR _ _ (H1.keep (hB.kept4 (by decide) 0 1 2 3 x0 x1 x2 x3)) ((((hx.setCell hg _).setCell hg _).setCell hg _).setCell hg _))
theorem rread_one (w : World) : Calls Tryz.prog 50 #[.string ⟨#[49]⟩] w fun e w' => ∃ v, e = .returned v ∧ BigV w' v 1 ∧ Ext w w' := by
  have h := rread_any 1 w fitz_one.wide
  rw [one_text] at h
  exact h

set_option maxRecDepth 100000 in
set_option maxHeartbeats 8000000 in
theorem r2read_any (q : Rat) (w : World) {e : Nat} (hf : FitQ (e + 1) q) (he : e ≤ 100000) :
    Calls Tryz.prog 23 #[.string ⟨(ratText q).toArray⟩] w fun e w' => ∃ v, e = .returned v ∧ RFrac w' v q ∧ Ext w w' := by
  have FN := Lib.hid (hf.num (by omega)).wide
  have FD := Lib.hid (hf.den (by omega)).wide
  have hn1 := decZ_length q.num
  have hn2 := hf.dn
  have hd2 := hf.dd
  have hsl := decZ_slash q.num
  have RN := Lib.hid (fun w => rread_any q.num w FN.out)
  have RD := Lib.hid (fun w => rread_any q.den w FD.out)
  by_cases h1 : q.den = 1
  · have HT := Lib.hid (ratText_int h1)
    have HC := Lib.hid (fun w => rsplit_none (decZ q.num) w (by omega) hsl)
    have H1 : Hid ((q.den : Int) = 1) := by rw [Hid, h1]; rfl
    clear hn1 hn2 hd2 h1 hf hsl
    rw [HT.out]
    generalize decZ q.num = a at *
    go_enter Tryz.func23, Tryz.ntmps23
    go_wp2_with fail
    refine box1 (P := fun W => Calls _ _ _ W _) fun W HX HR => ?_
    refine (HC.out W).mono ?_
    rintro e w1 ⟨rfl, hx1⟩
    go_wp2_with fail
    refine (RN.out w1).mono ?_
    rintro e w2 ⟨v2, rfl, hv2, hx2⟩
    obtain ⟨b2, A2, n2, c2, rfl, HV2⟩ := hv2.parts
    go_wp2_with fail
    refine (rread_one w2).mono ?_
    rintro e w3 ⟨v3, rfl, hv3, hx3⟩
    obtain ⟨b3, A3, n3, c3, rfl, HV3⟩ := hv3.parts
    have HX3 := Lib.hid (HX.out.trans (hx1.trans (hx2.trans hx3)))
    have HR3 := Lib.hid (HR.out.ext (hx1.trans (hx2.trans hx3)))
    have HF : Hid (RFrac w3 (.agg #[.bool b2, .slice A2 n2 c2, .bool b3, .slice A3 n3 c3]) q) := .mk' (HV2.out.ext hx3) (by rw [H1.out]; exact HV3.out)
    obtain ⟨k0, k1, k2, k3⟩ := HR3.out.four
    obtain ⟨f0, f1, f2, f3⟩ := HR3.out.free4
    clear hx1 hx2 hx3 hv2 hv3
    go_wp2
    exact ret_rfrac rfl rfl rfl HR3.out HF.out HX3.out (Nat.le_refl _) (fun v W' h1 h2 => ⟨v, rfl, h1, h2⟩)
  · have HT := Lib.hid (ratText_frac h1)
    have hdn : decDigits q.den = decZ q.den := (decZ_nat _).symm
    have hll : (decZ q.num).length + (decZ q.den).length ≤ 10000000 := by rw [← hdn, decDigits_length]; omega
    have HC := Lib.hid (fun w => rsplit_some (decZ q.num) (decZ q.den) w hll hsl)
    rw [HT.out, hdn]
    clear hn1 hn2 hd2 h1 hf hsl hll hdn
    generalize decZ q.num = a at *
    generalize decZ q.den = b at *
    generalize a ++ 47 :: b = ab at *
    go_enter Tryz.func23, Tryz.ntmps23
    go_wp2_with fail
    refine box1 (P := fun W => Calls _ _ _ W _) fun W HX HR => ?_
    refine (HC.out W).mono ?_
    rintro e w1 ⟨rfl, hx1⟩
    go_wp2_with fail
    refine (RN.out w1).mono ?_
    rintro e w2 ⟨v2, rfl, hv2, hx2⟩
    obtain ⟨b2, A2, n2, c2, rfl, HV2⟩ := hv2.parts
    go_wp2_with fail
    refine (RD.out w2).mono ?_
    rintro e w3 ⟨v3, rfl, hv3, hx3⟩
    obtain ⟨b3, A3, n3, c3, rfl, HV3⟩ := hv3.parts
    have HX3 := Lib.hid (HX.out.trans (hx1.trans (hx2.trans hx3)))
    have HR3 := Lib.hid (HR.out.ext (hx1.trans (hx2.trans hx3)))
    have HF : Hid (RFrac w3 (.agg #[.bool b2, .slice A2 n2 c2, .bool b3, .slice A3 n3 c3]) q) := .mk' (HV2.out.ext hx3) (by skip; exact HV3.out)
    obtain ⟨k0, k1, k2, k3⟩ := HR3.out.four
    obtain ⟨f0, f1, f2, f3⟩ := HR3.out.free4
    clear hx1 hx2 hx3 hv2 hv3
    go_wp2
    exact ret_rfrac rfl rfl rfl HR3.out HF.out HX3.out (Nat.le_refl _) (fun v W' h1 h2 => ⟨v, rfl, h1, h2⟩)

set_option maxRecDepth 100000 in
set_option maxHeartbeats 8000000 in
theorem r2of_any (z : Int) (w : World) (h0 : -9223372036854775808 ≤ z) (h1 : z ≤ 9223372036854775807) :
    Calls Tryz.prog 20 #[.int .i64 z] w fun e w' => ∃ v, e = .returned v ∧ RFrac w' v (z : Rat) ∧ Ext w w' := by
  have RN := Lib.hid (fun w => rof_any z w h0 h1)
  have RD := Lib.hid (fun w => rof_any 1 w (by decide) (by decide))
  obtain ⟨q, hq⟩ : ∃ q : Rat, q = (z : Rat) := ⟨_, rfl⟩
  rw [← hq]
  have HQN : Hid (z = q.num) := by rw [Hid, hq]; rfl
  have HQD : Hid ((q.den : Int) = 1) := by rw [Hid, hq]; rfl
  clear h0 h1 hq
  go_enter Tryz.func20, Tryz.ntmps20
  go_wp2_with fail
  refine box1 (P := fun W => Calls _ _ _ W _) fun W HX HR => ?_
  refine (RN.out W).mono ?_
  rintro e w2 ⟨v2, rfl, hv2, hx2⟩
  obtain ⟨b2, A2, n2, c2, rfl, HV2⟩ := hv2.parts
  go_wp2_with fail
  refine (RD.out w2).mono ?_
  rintro e w3 ⟨v3, rfl, hv3, hx3⟩
  obtain ⟨b3, A3, n3, c3, rfl, HV3⟩ := hv3.parts
  have hx1 := Ext.refl W
  rw [HQN.out] at HV2
  have HX3 := Lib.hid (HX.out.trans (hx1.trans (hx2.trans hx3)))
  have HR3 := Lib.hid (HR.out.ext (hx1.trans (hx2.trans hx3)))
  have HF : Hid (RFrac w3 (.agg #[.bool b2, .slice A2 n2 c2, .bool b3, .slice A3 n3 c3]) q) := .mk' (HV2.out.ext hx3) (by rw [HQD.out]; exact HV3.out)
  obtain ⟨k0, k1, k2, k3⟩ := HR3.out.four
  obtain ⟨f0, f1, f2, f3⟩ := HR3.out.free4
  clear hx1 hx2 hx3 hv2 hv3
  go_wp2
  exact ret_rfrac rfl rfl rfl HR3.out HF.out HX3.out (Nat.le_refl _) (fun v W' h1 h2 => ⟨v, rfl, h1, h2⟩)

theorem divInt_quo (x y : Int) (hy : 0 < y) : signed (decide (x < 0) != decide ((((Nat.gcd x.natAbs y.natAbs : Nat) : Int)) < 0)) (x.natAbs / (((Nat.gcd x.natAbs y.natAbs : Nat) : Int)).natAbs) = (Rat.divInt x y).num ∧ signed (decide (y < 0) != decide ((((Nat.gcd x.natAbs y.natAbs : Nat) : Int)) < 0)) (y.natAbs / (((Nat.gcd x.natAbs y.natAbs : Nat) : Int)).natAbs) = ((Rat.divInt x y).den : Int) := by
  have hd := divInt_parts x y hy
  have e : Int.gcd x y = Nat.gcd x.natAbs y.natAbs := rfl
  rw [e] at hd
  have hg : 0 < Nat.gcd x.natAbs y.natAbs := Nat.gcd_pos_of_pos_right _ (by omega)
  have hdx : Nat.gcd x.natAbs y.natAbs ∣ x.natAbs := Nat.gcd_dvd_left _ _
  have hdy : Nat.gcd x.natAbs y.natAbs ∣ y.natAbs := Nat.gcd_dvd_right _ _
  rw [hd.1, hd.2]
  generalize Nat.gcd x.natAbs y.natAbs = G at *
  rw [Int.natAbs_natCast, decide_eq_false (show ¬ ((G : Int) < 0) by omega), decide_eq_false (show ¬ (y < 0) by omega)]
  obtain ⟨a, ha⟩ := hdx
  obtain ⟨b, hb⟩ := hdy
  rw [ha, hb, Nat.mul_div_cancel_left _ hg, Nat.mul_div_cancel_left _ hg]
  constructor
  · by_cases h : x < 0
    · have hx : x = (G : Int) * (-(a : Int)) := by rw [Int.mul_neg, ← Int.natCast_mul, ← ha]; omega
      rw [decide_eq_true h, hx, Int.mul_ediv_cancel_left _ (by omega)]
      rfl
    · have hx : x = (G : Int) * (a : Int) := by rw [← Int.natCast_mul, ← ha]; omega
      rw [decide_eq_false h, hx, Int.mul_ediv_cancel_left _ (by omega)]
      rfl
  · have hx : y = (G : Int) * (b : Int) := by rw [← Int.natCast_mul, ← hb]; omega
    rw [hx, Int.mul_ediv_cancel_left _ (by omega)]
    rfl
end Go.Proofs.YtkhmfgkbobblmaaGreatDoor
/- joinlearnref02: New. -/
namespace Go.Proofs.YtkhmfgkbobblmaaGreatDoor
open Go.RowKit Go.Lib

theorem big_len_pos {w : World} {b : Bool} {A : Option Addr} {n c : Nat} {z : Int} (h : BigV w (.agg #[.bool b, .slice A n c]) z) (hz : z ≠ 0) : 0 < n := by
  obtain ⟨_, rfl, _⟩ := h.inv
  rcases Nat.eq_zero_or_pos (toL z.natAbs).length with h0 | h0
  · have := toL_eq_nil.1 (List.eq_nil_of_length_eq_zero h0)
    omega
  · exact h0
set_option maxRecDepth 100000 in
set_option maxHeartbeats 8000000 in
theorem rnew_any (va vb : Value) (x y : Int) (w : World) (ha : BigV w va x) (hb : BigV w vb y) (fx : FitZ x) (fy : FitZ y) (hy : 0 < y) :
    Calls Tryz.prog 31 #[va, vb] w fun e w' => ∃ v', e = .returned v' ∧ RFrac w' v' (Rat.divInt x y) ∧ Ext w w' := by
  obtain ⟨ba, Aa, na, ca, rfl, HA⟩ := ha.parts
  obtain ⟨bb, Ab, nb, cb, rfl, HB⟩ := hb.parts
  have FX := Lib.hid fx
  have FY := Lib.hid fy
  have HDQ := Lib.hid (divInt_quo x y hy)
  have hnb := big_len_pos HB.out (by omega)
  have hnb0 : ((nb : Int) == 0) = false := by rw [beq_eq_false_iff_ne]; omega
  have hgp : 0 < Nat.gcd x.natAbs y.natAbs := Nat.gcd_pos_of_pos_right _ (by omega)
  have HGP : Hid (((Nat.gcd x.natAbs y.natAbs : Nat) : Int) ≠ 0) := by unfold Hid; omega
  have FG : Hid (FitZ ((Nat.gcd x.natAbs y.natAbs : Nat) : Int)) := FY.out.le (by rw [Int.natAbs_natCast]; exact Nat.gcd_le_right _ (by omega))
  have HGC := Lib.hid (fun (w : World) (va vb : Value) (ha : BigV w va x) (hb : BigV w vb y) => rgcd_any va vb x y w ha hb FX.out FY.out)
  generalize Nat.gcd x.natAbs y.natAbs = G at *
  clear ha hb fx fy hgp
  go_enter Tryz.func31, Tryz.ntmps31
  go_wp2_with fail
  refine box3 (P := fun W => Calls _ _ _ W _) fun W HX0 BA BB BR => ?_
  refine (HGC.out W _ _ (HA.out.ext HX0.out) (HB.out.ext HX0.out)).mono ?_
  rintro e w1 ⟨v1, rfl, hv1, hx1⟩
  obtain ⟨b1, A1, n1, c1, rfl, HV1⟩ := hv1.parts
  go_upto_region 4 with fail
  refine box1 (P := fun W => Code.wp _ _ _ _ W) fun W2 HX2 BG => ?_
  have HXA := Lib.hid (hx1.trans HX2.out)
  have BA2 := Lib.hid (BA.out.ext HXA.out)
  have BB2 := Lib.hid (BB.out.ext HXA.out)
  have BR2 := Lib.hid (BR.out.ext HXA.out)
  have HX3 := Lib.hid (HX0.out.trans HXA.out)
  have HG2 := Lib.hid (hv1.ext HX2.out)
  obtain ⟨a0, a1⟩ := BA2.out.two
  obtain ⟨g0, g1⟩ := BG.out.two
  clear hx1 hv1 HV1 hnb0 hnb
  go_wp2_with fail
  refine (rquo_any _ _ x G W2 (HA.out.ext HX3.out) HG2.out FX.out FG.out HGP.out).mono ?_
  rintro e w3 ⟨v3, v3', rfl, hv3, hv3', hx3⟩
  rw [HDQ.out.1] at hv3
  obtain ⟨b3, A3, n3, c3, rfl, HV3⟩ := hv3.parts
  obtain ⟨b3', A3', n3', c3', rfl, _⟩ := hv3'.parts
  go_upto_region 5 with fail
  refine box2 (P := fun W => Code.wp _ _ _ _ W) fun W4 HX4 BN _ => ?_
  have HXB := Lib.hid (hx3.trans HX4.out)
  have BB4 := Lib.hid (BB2.out.ext HXB.out)
  have BR4 := Lib.hid (BR2.out.ext HXB.out)
  have BG4 := Lib.hid (BG.out.ext HXB.out)
  have HX5 := Lib.hid (HX3.out.trans HXB.out)
  have HG4 := Lib.hid (HG2.out.ext HXB.out)
  have HN4 := Lib.hid (hv3.ext HX4.out)
  obtain ⟨b0, b1⟩ := BB4.out.two
  obtain ⟨g0, g1⟩ := BG4.out.two
  clear hx3 hv3 hv3' HV3 a0 a1
  go_wp2_with fail
  refine (rquo_any _ _ y G W4 (HB.out.ext HX5.out) HG4.out FY.out FG.out HGP.out).mono ?_
  rintro e w5 ⟨v5, v5', rfl, hv5, hv5', hx5⟩
  rw [HDQ.out.2] at hv5
  obtain ⟨b5, A5, n5, c5, rfl, HV5⟩ := hv5.parts
  obtain ⟨b5', A5', n5', c5', rfl, _⟩ := hv5'.parts
  have hb5 : b5 = false := by rw [HV5.out.inv.1]; exact decide_eq_false (by omega)
  subst hb5
  go_upto_region 6 with fail
  refine box2 (P := fun W => Code.wp _ _ _ _ W) fun W6 HX6 BD _ => ?_
  have HXC := Lib.hid (hx5.trans HX6.out)
  have BR6 := Lib.hid (BR4.out.ext HXC.out)
  have BN6 := Lib.hid (BN.out.ext HXC.out)
  have HX7 := Lib.hid (HX5.out.trans HXC.out)
  have HF : Hid (RFrac W6 (.agg #[.bool b3, .slice A3 n3 c3, .bool false, .slice A5 n5 c5]) (Rat.divInt x y)) := .mk' (HN4.out.ext HXC.out) (hv5.ext HX6.out)
  obtain ⟨n0, n1⟩ := BN6.out.two
  obtain ⟨d0, d1⟩ := BD.out.two
  obtain ⟨k0, k1, k2, k3⟩ := BR6.out.four
  obtain ⟨f0, f1, f2, f3⟩ := BR6.out.free4
  clear hx5 hv5 hv5' HV5 b0 b1 g0 g1
  go_wp2
  exact ret_rfrac rfl rfl rfl BR6.out HF.out HX7.out (by omega) (fun v W' h1 h2 => ⟨v, rfl, h1, h2⟩)
end Go.Proofs.YtkhmfgkbobblmaaGreatDoor
/- joinlearnref02: Mul, Add, Sub of fractions as values. -/
namespace Go.Proofs.YtkhmfgkbobblmaaGreatDoor
open Go.RowKit Go.Lib
theorem sub_divInt (a b : Rat) : Rat.divInt (a.num * b.den - b.num * a.den) (a.den * b.den) = a - b := by
  have h := add_divInt a (-b)
  rw [Rat.neg_num, Rat.neg_den, Int.neg_mul, ← Int.sub_eq_add_neg] at h
  rw [h, Rat.sub_eq_add_neg]
theorem FitQ.subZ {p q : Rat} {d e : Nat} (fa : FitQ d p) (fb : FitQ e q) (he : d + e + 1 ≤ 1000000) : FitZ (p.num * q.den - q.num * p.den) := by
  have h := FitQ.addZ fa fb.neg he
  rw [Rat.neg_num, Rat.neg_den, Int.neg_mul, ← Int.sub_eq_add_neg] at h
  exact h
set_option maxRecDepth 100000 in
set_option maxHeartbeats 8000000 in
theorem rfmul_any (va vb : Value) (p q : Rat) (w : World) (ha : RFrac w va p) (hb : RFrac w vb q) {d e : Nat} (fa : FitQ d p) (fb : FitQ e q) (he : d + e + 1 ≤ 1000000) :
    Calls Tryz.prog 26 #[va, vb] w fun e w' => ∃ v', e = .returned v' ∧ RFrac w' v' (p * q) ∧ Ext w w' := by
  have F4 := Lib.hid (FitZ.mul fa.1 fb.1 (show d + e ≤ 1000000 by omega))
  obtain ⟨ba, Aa, na, ca, bb, Ab, nb, cb, rfl, HA, HB⟩ := ha.parts
  obtain ⟨bc, Ac, nc, cc, bd, Ad, nd, cd, rfl, HC, HD⟩ := hb.parts
  have FA := Lib.hid (fa.num (by omega))
  have FB := Lib.hid (fa.den (by omega))
  have FC := Lib.hid (fb.num (by omega))
  have FD := Lib.hid (fb.den (by omega))
  have F1 := Lib.hid (FitZ.mul fa.1 (by simpa using fb.2 : ((q.den : Int)).natAbs < _) (by omega))
  have F2 := Lib.hid (FitZ.mul fb.1 (by simpa using fa.2 : ((p.den : Int)).natAbs < _) (by omega))
  have F3 := Lib.hid (FitZ.mul (by simpa using fa.2 : ((p.den : Int)).natAbs < _) (by simpa using fb.2 : ((q.den : Int)).natAbs < _) (by omega))
  have HP := Lib.hid (Int.mul_pos (q_den_pos p) (q_den_pos q))
  clear ha hb fa fb he
  go_enter Tryz.func26, Tryz.ntmps26
  go_wp2_with fail
  refine box3 (P := fun W => Code.wp _ _ _ _ W) fun W HX BA BB BR => ?_
  obtain ⟨a0, a1, a2, a3⟩ := BA.out.four
  obtain ⟨b0, b1, b2, b3⟩ := BB.out.four
  go_region_held3 (fun w' => (w'.cell? ⟨w.heap.size, 0, none⟩ = some (.bool ba) ∧ w'.cell? ⟨w.heap.size, 1, none⟩ = some (.slice Aa na ca) ∧ w'.cell? ⟨w.heap.size, 2, none⟩ = some (.bool bb) ∧ w'.cell? ⟨w.heap.size, 3, none⟩ = some (.slice Ab nb cb)) ∧ w'.cell? ⟨w.heap.size + 1, 0, none⟩ = some (.bool bc) ∧ w'.cell? ⟨w.heap.size + 1, 1, none⟩ = some (.slice Ac nc cc) ∧ w'.cell? ⟨w.heap.size + 1, 2, none⟩ = some (.bool bd) ∧ w'.cell? ⟨w.heap.size + 1, 3, none⟩ = some (.slice Ad nd cd)) (first | with_reducible exact ⟨⟨a0, a1, a2, a3⟩, b0, b1, b2, b3⟩ | with_reducible exact ⟨BA.out.drew.four, BB.out.drew.four⟩ | with_reducible exact ⟨(BA.out.ext hy3).four, (BB.out.ext hy3).four⟩ | with_reducible exact ⟨(BA.out.ext hy4).four, (BB.out.ext hy4).four⟩ | with_reducible exact ⟨(BA.out.ext hy5).four, (BB.out.ext hy5).four⟩ | with_reducible exact ⟨((BA.out.ext hy5).past4 (ne2 _) _ _ _ _).four, ((BB.out.ext hy5).past4 (ne12 _) _ _ _ _).four⟩)
    (first
      | (go_at_call 51; (with_reducible show Calls _ _ #[Value.agg #[Value.bool ba, _], _] _ _); refine (rmul_any _ _ p.num q.num _ (HA.out.ext (by exact HX.out.drew)) (HC.out.ext (by exact HX.out.drew)) FA.out.wide FC.out.wide).mono ?_; rintro e w3 ⟨v3, rfl, hv3, hx3⟩; have hy3 := (Ext.refl W).drew.trans hx3)
      | (go_at_call 51; (with_reducible show Calls _ _ #[Value.agg #[Value.bool bb, _], _] _ _); refine (rmul_any _ _ p.den q.den _ (HB.out.ext (by exact HX.out.trans hy3)) (HD.out.ext (by exact HX.out.trans hy3)) FB.out.wide FD.out.wide).mono ?_; rintro e w4 ⟨v4, rfl, hv4, hx4⟩; have hy4 := hy3.trans hx4)
      | (go_at_call 31; refine (rnew_any _ _ _ _ _ (hv3.ext (by exact hx4)) hv4 F4.out F3.out HP.out).mono ?_; rintro e w5 ⟨v5, rfl, hv5, hx5⟩; have hy5 := hy4.trans hx5; obtain ⟨r0, R0, r1, r2, s0, S0, s1, s2, rfl, HR1, HR2⟩ := (hv5).parts; have BR5 := Lib.hid (BR.out.ext hy5); obtain ⟨k0, k1, k2, k3⟩ := BR5.out.four; obtain ⟨f0, f1, f2, f3⟩ := BR5.out.free4))
  all_goals
    go_wp2
    refine ret_rfrac rfl rfl rfl BR5.out (.mk' HR1.out HR2.out) (HX.out.trans hy5) (by omega) (fun v W' h1 h2 => ⟨v, rfl, ?_, h2⟩)
    rw [← mul_divInt]
    exact h1
set_option maxRecDepth 100000 in
set_option maxHeartbeats 8000000 in
theorem rfadd_any (va vb : Value) (p q : Rat) (w : World) (ha : RFrac w va p) (hb : RFrac w vb q) {d e : Nat} (fa : FitQ d p) (fb : FitQ e q) (he : d + e + 1 ≤ 1000000) :
    Calls Tryz.prog 25 #[va, vb] w fun e w' => ∃ v', e = .returned v' ∧ RFrac w' v' (p + q) ∧ Ext w w' := by
  have F4 := Lib.hid (FitQ.addZ fa fb he)
  obtain ⟨ba, Aa, na, ca, bb, Ab, nb, cb, rfl, HA, HB⟩ := ha.parts
  obtain ⟨bc, Ac, nc, cc, bd, Ad, nd, cd, rfl, HC, HD⟩ := hb.parts
  have FA := Lib.hid (fa.num (by omega))
  have FB := Lib.hid (fa.den (by omega))
  have FC := Lib.hid (fb.num (by omega))
  have FD := Lib.hid (fb.den (by omega))
  have F1 := Lib.hid (FitZ.mul fa.1 (by simpa using fb.2 : ((q.den : Int)).natAbs < _) (by omega))
  have F2 := Lib.hid (FitZ.mul fb.1 (by simpa using fa.2 : ((p.den : Int)).natAbs < _) (by omega))
  have F3 := Lib.hid (FitZ.mul (by simpa using fa.2 : ((p.den : Int)).natAbs < _) (by simpa using fb.2 : ((q.den : Int)).natAbs < _) (by omega))
  have HP := Lib.hid (Int.mul_pos (q_den_pos p) (q_den_pos q))
  clear ha hb fa fb he
  go_enter Tryz.func25, Tryz.ntmps25
  go_wp2_with fail
  refine box3 (P := fun W => Code.wp _ _ _ _ W) fun W HX BA BB BR => ?_
  obtain ⟨a0, a1, a2, a3⟩ := BA.out.four
  obtain ⟨b0, b1, b2, b3⟩ := BB.out.four
  go_region_held3 (fun w' => (w'.cell? ⟨w.heap.size, 0, none⟩ = some (.bool ba) ∧ w'.cell? ⟨w.heap.size, 1, none⟩ = some (.slice Aa na ca) ∧ w'.cell? ⟨w.heap.size, 2, none⟩ = some (.bool bb) ∧ w'.cell? ⟨w.heap.size, 3, none⟩ = some (.slice Ab nb cb)) ∧ w'.cell? ⟨w.heap.size + 1, 0, none⟩ = some (.bool bc) ∧ w'.cell? ⟨w.heap.size + 1, 1, none⟩ = some (.slice Ac nc cc) ∧ w'.cell? ⟨w.heap.size + 1, 2, none⟩ = some (.bool bd) ∧ w'.cell? ⟨w.heap.size + 1, 3, none⟩ = some (.slice Ad nd cd)) (first | with_reducible exact ⟨⟨a0, a1, a2, a3⟩, b0, b1, b2, b3⟩ | with_reducible exact ⟨BA.out.drew.four, BB.out.drew.four⟩ | with_reducible exact ⟨(BA.out.ext hy3).four, (BB.out.ext hy3).four⟩ | with_reducible exact ⟨(BA.out.ext hy4).four, (BB.out.ext hy4).four⟩ | with_reducible exact ⟨(BA.out.ext hy5).four, (BB.out.ext hy5).four⟩ | with_reducible exact ⟨(BA.out.ext hy6).four, (BB.out.ext hy6).four⟩ | with_reducible exact ⟨(BA.out.ext hy7).four, (BB.out.ext hy7).four⟩ | with_reducible exact ⟨((BA.out.ext hy7).past4 (ne2 _) _ _ _ _).four, ((BB.out.ext hy7).past4 (ne12 _) _ _ _ _).four⟩)
    (first
      | (go_at_call 51; (with_reducible show Calls _ _ #[Value.agg #[Value.bool ba, _], _] _ _); refine (rmul_any _ _ p.num q.den _ (HA.out.ext (by exact HX.out.drew)) (HD.out.ext (by exact HX.out.drew)) FA.out.wide FD.out.wide).mono ?_; rintro e w3 ⟨v3, rfl, hv3, hx3⟩; have hy3 := (Ext.refl W).drew.trans hx3)
      | (go_at_call 51; (with_reducible show Calls _ _ #[Value.agg #[Value.bool bc, _], _] _ _); refine (rmul_any _ _ q.num p.den _ (HC.out.ext (by exact HX.out.trans hy3)) (HB.out.ext (by exact HX.out.trans hy3)) FC.out.wide FB.out.wide).mono ?_; rintro e w4 ⟨v4, rfl, hv4, hx4⟩; have hy4 := hy3.trans hx4)
      | (go_at_call 53; refine (radd_any _ _ _ _ _ (hv3.ext (by exact hx4)) hv4 F1.out.wide F2.out.wide).mono ?_; rintro e w5 ⟨v5, rfl, hv5, hx5⟩; have hy5 := hy4.trans hx5)
      | (go_at_call 51; (with_reducible show Calls _ _ #[Value.agg #[Value.bool bb, _], _] _ _); refine (rmul_any _ _ p.den q.den _ (HB.out.ext (by exact HX.out.trans hy5)) (HD.out.ext (by exact HX.out.trans hy5)) FB.out.wide FD.out.wide).mono ?_; rintro e w6 ⟨v6, rfl, hv6, hx6⟩; have hy6 := hy5.trans hx6)
      | (go_at_call 31; refine (rnew_any _ _ _ _ _ (hv5.ext (by exact hx6)) hv6 F4.out F3.out HP.out).mono ?_; rintro e w7 ⟨v7, rfl, hv7, hx7⟩; have hy7 := hy6.trans hx7; obtain ⟨r0, R0, r1, r2, s0, S0, s1, s2, rfl, HR1, HR2⟩ := (hv7).parts; have BR5 := Lib.hid (BR.out.ext hy7); obtain ⟨k0, k1, k2, k3⟩ := BR5.out.four; obtain ⟨f0, f1, f2, f3⟩ := BR5.out.free4))
  all_goals
    go_wp2
    refine ret_rfrac rfl rfl rfl BR5.out (.mk' HR1.out HR2.out) (HX.out.trans hy7) (by omega) (fun v W' h1 h2 => ⟨v, rfl, ?_, h2⟩)
    rw [← add_divInt]
    exact h1
set_option maxRecDepth 100000 in
set_option maxHeartbeats 8000000 in
theorem rfsub_any (va vb : Value) (p q : Rat) (w : World) (ha : RFrac w va p) (hb : RFrac w vb q) {d e : Nat} (fa : FitQ d p) (fb : FitQ e q) (he : d + e + 1 ≤ 1000000) :
    Calls Tryz.prog 24 #[va, vb] w fun e w' => ∃ v', e = .returned v' ∧ RFrac w' v' (p - q) ∧ Ext w w' := by
  have F4 := Lib.hid (FitQ.subZ fa fb he)
  obtain ⟨ba, Aa, na, ca, bb, Ab, nb, cb, rfl, HA, HB⟩ := ha.parts
  obtain ⟨bc, Ac, nc, cc, bd, Ad, nd, cd, rfl, HC, HD⟩ := hb.parts
  have FA := Lib.hid (fa.num (by omega))
  have FB := Lib.hid (fa.den (by omega))
  have FC := Lib.hid (fb.num (by omega))
  have FD := Lib.hid (fb.den (by omega))
  have F1 := Lib.hid (FitZ.mul fa.1 (by simpa using fb.2 : ((q.den : Int)).natAbs < _) (by omega))
  have F2 := Lib.hid (FitZ.mul fb.1 (by simpa using fa.2 : ((p.den : Int)).natAbs < _) (by omega))
  have F3 := Lib.hid (FitZ.mul (by simpa using fa.2 : ((p.den : Int)).natAbs < _) (by simpa using fb.2 : ((q.den : Int)).natAbs < _) (by omega))
  have HP := Lib.hid (Int.mul_pos (q_den_pos p) (q_den_pos q))
  clear ha hb fa fb he
  go_enter Tryz.func24, Tryz.ntmps24
  go_wp2_with fail
  refine box3 (P := fun W => Code.wp _ _ _ _ W) fun W HX BA BB BR => ?_
  obtain ⟨a0, a1, a2, a3⟩ := BA.out.four
  obtain ⟨b0, b1, b2, b3⟩ := BB.out.four
  go_region_held3 (fun w' => (w'.cell? ⟨w.heap.size, 0, none⟩ = some (.bool ba) ∧ w'.cell? ⟨w.heap.size, 1, none⟩ = some (.slice Aa na ca) ∧ w'.cell? ⟨w.heap.size, 2, none⟩ = some (.bool bb) ∧ w'.cell? ⟨w.heap.size, 3, none⟩ = some (.slice Ab nb cb)) ∧ w'.cell? ⟨w.heap.size + 1, 0, none⟩ = some (.bool bc) ∧ w'.cell? ⟨w.heap.size + 1, 1, none⟩ = some (.slice Ac nc cc) ∧ w'.cell? ⟨w.heap.size + 1, 2, none⟩ = some (.bool bd) ∧ w'.cell? ⟨w.heap.size + 1, 3, none⟩ = some (.slice Ad nd cd)) (first | with_reducible exact ⟨⟨a0, a1, a2, a3⟩, b0, b1, b2, b3⟩ | with_reducible exact ⟨BA.out.drew.four, BB.out.drew.four⟩ | with_reducible exact ⟨(BA.out.ext hy3).four, (BB.out.ext hy3).four⟩ | with_reducible exact ⟨(BA.out.ext hy4).four, (BB.out.ext hy4).four⟩ | with_reducible exact ⟨(BA.out.ext hy5).four, (BB.out.ext hy5).four⟩ | with_reducible exact ⟨(BA.out.ext hy6).four, (BB.out.ext hy6).four⟩ | with_reducible exact ⟨(BA.out.ext hy7).four, (BB.out.ext hy7).four⟩ | with_reducible exact ⟨((BA.out.ext hy7).past4 (ne2 _) _ _ _ _).four, ((BB.out.ext hy7).past4 (ne12 _) _ _ _ _).four⟩)
    (first
      | (go_at_call 51; (with_reducible show Calls _ _ #[Value.agg #[Value.bool ba, _], _] _ _); refine (rmul_any _ _ p.num q.den _ (HA.out.ext (by exact HX.out.drew)) (HD.out.ext (by exact HX.out.drew)) FA.out.wide FD.out.wide).mono ?_; rintro e w3 ⟨v3, rfl, hv3, hx3⟩; have hy3 := (Ext.refl W).drew.trans hx3)
      | (go_at_call 51; (with_reducible show Calls _ _ #[Value.agg #[Value.bool bc, _], _] _ _); refine (rmul_any _ _ q.num p.den _ (HC.out.ext (by exact HX.out.trans hy3)) (HB.out.ext (by exact HX.out.trans hy3)) FC.out.wide FB.out.wide).mono ?_; rintro e w4 ⟨v4, rfl, hv4, hx4⟩; have hy4 := hy3.trans hx4)
      | (go_at_call 52; refine (rsub_any _ _ _ _ _ (hv3.ext (by exact hx4)) hv4 F1.out.wide F2.out.wide).mono ?_; rintro e w5 ⟨v5, rfl, hv5, hx5⟩; have hy5 := hy4.trans hx5)
      | (go_at_call 51; (with_reducible show Calls _ _ #[Value.agg #[Value.bool bb, _], _] _ _); refine (rmul_any _ _ p.den q.den _ (HB.out.ext (by exact HX.out.trans hy5)) (HD.out.ext (by exact HX.out.trans hy5)) FB.out.wide FD.out.wide).mono ?_; rintro e w6 ⟨v6, rfl, hv6, hx6⟩; have hy6 := hy5.trans hx6)
      | (go_at_call 31; refine (rnew_any _ _ _ _ _ (hv5.ext (by exact hx6)) hv6 F4.out F3.out HP.out).mono ?_; rintro e w7 ⟨v7, rfl, hv7, hx7⟩; have hy7 := hy6.trans hx7; obtain ⟨r0, R0, r1, r2, s0, S0, s1, s2, rfl, HR1, HR2⟩ := (hv7).parts; have BR5 := Lib.hid (BR.out.ext hy7); obtain ⟨k0, k1, k2, k3⟩ := BR5.out.four; obtain ⟨f0, f1, f2, f3⟩ := BR5.out.free4))
  all_goals
    go_wp2
    refine ret_rfrac rfl rfl rfl BR5.out (.mk' HR1.out HR2.out) (HX.out.trans hy7) (by omega) (fun v W' h1 h2 => ⟨v, rfl, ?_, h2⟩)
    rw [← sub_divInt]
    exact h1
end Go.Proofs.YtkhmfgkbobblmaaGreatDoor
/- joinlearnref02: Give, Zero, Sign; Mul, Add, Sub, Compare of texts. -/
namespace Go.Proofs.YtkhmfgkbobblmaaGreatDoor
open Go.RowKit Go.Lib

set_option maxRecDepth 100000 in
set_option maxHeartbeats 8000000 in
theorem rfgive_any (v : Value) (q : Rat) (w : World) (h : RFrac w v q) (hf : FitQ 400 q) :
    Calls Tryz.prog 29 #[v] w fun e w' => e = .returned (.tuple #[.string ⟨(ratText q).toArray⟩, .int .i64 0]) ∧ Ext w w' := by
  obtain ⟨b, A, n, c, b', A', n', c', rfl, H, H'⟩ := h.parts
  have hd1 : nDigits (q.den : Int).natAbs ≤ 400 := by rw [Int.natAbs_natCast]; exact hf.dd
  have GN := Lib.hid (fun (v : Value) (w : World) (h : BigV w v q.num) => rgive_any v q.num w h hf.dn)
  have GD := Lib.hid (fun (v : Value) (w : World) (h : BigV w v q.den) => rgive_any v q.den w h hd1)
  have hn1 := decZ_length q.num
  have hn2 := hf.dn
  have hd2 := hf.dd
  have hdn : decDigits q.den = decZ q.den := (decZ_nat _).symm
  have hln : (decZ q.num).length ≤ 401 := by omega
  have hld : (decZ q.den).length ≤ 400 := by rw [← hdn, decDigits_length]; exact hd2
  clear h
  by_cases h1 : q.den = 1
  · have HT := Lib.hid (ratText_int h1)
    have hone : (decZ q.den == [49]) = true := by rw [h1]; rw [beq_iff_eq]; exact one_text
    rw [HT.out]
    generalize decZ q.num = a at *
    generalize decZ q.den = bt at *
    clear hf hd1 hn1 hn2 hd2 hdn h1 HT hln hld
    go_enter Tryz.func29, Tryz.ntmps29
    go_wp2_with fail
    refine box1 (P := fun W => Calls _ _ _ W _) fun W HX HB => ?_
    refine (GN.out _ W (H.out.ext HX.out)).mono ?_
    rintro e w1 ⟨rfl, hx1⟩
    obtain ⟨k0, k1, k2, k3⟩ := (HB.out.ext hx1).four
    go_wp2_with fail
    refine (GD.out _ w1 (H'.out.ext (HX.out.trans hx1))).mono ?_
    rintro e w2 ⟨rfl, hx2⟩
    go_wp2
    go_ret2
    exact ⟨rfl, HX.out.trans (hx1.trans hx2)⟩
  · have HT := Lib.hid (ratText_frac h1)
    have hone : (decZ q.den == [49]) = false := by
      rw [beq_eq_false_iff_ne]
      intro h
      have h0 : (q.den : Int) = 1 := decZ_inj (h.trans one_text.symm)
      exact h1 (by omega)
    rw [HT.out, hdn]
    have ha1 := fun w => cat_run (decZ q.num) [47] w (by simp; omega)
    have ha2 := fun w => cat_run (decZ q.num ++ [47]) (decZ q.den) w (by simp; omega)
    have HAP : Hid (decZ q.num ++ [47] ++ decZ q.den = decZ q.num ++ 47 :: decZ q.den) := by rw [Hid]; simp
    generalize decZ q.num = a at *
    generalize decZ q.den = bt at *
    rw [HAP.out] at ha2
    generalize a ++ 47 :: bt = ab at *
    clear hf hd1 hn1 hn2 hd2 hdn h1 HT hln hld
    go_enter Tryz.func29, Tryz.ntmps29
    go_wp2_with fail
    refine box1 (P := fun W => Calls _ _ _ W _) fun W HX HB => ?_
    refine (GN.out _ W (H.out.ext HX.out)).mono ?_
    rintro e w1 ⟨rfl, hx1⟩
    obtain ⟨k0, k1, k2, k3⟩ := (HB.out.ext hx1).four
    go_wp2_with fail
    refine (GD.out _ w1 (H'.out.ext (HX.out.trans hx1))).mono ?_
    rintro e w2 ⟨rfl, hx2⟩
    go_wp2
    go_ret2
    exact ⟨rfl, HX.out.trans (hx1.trans hx2)⟩

theorem big_len {w : World} {b : Bool} {A : Option Addr} {n c : Nat} {z : Int} (h : BigV w (.agg #[.bool b, .slice A n c]) z) : (((n : Int) == 0)) = decide (z = 0) := by
  obtain ⟨_, rfl, _⟩ := h.inv
  by_cases hz : z = 0
  · subst hz; rfl
  · rw [decide_eq_false hz, beq_eq_false_iff_ne]
    have := big_len_pos h hz
    omega
theorem rfzero_any (v : Value) (q : Rat) (w : World) (h : RFrac w v q) :
    Calls Tryz.prog 54 #[v] w fun e w' => e = .returned (.bool (decide (q.num = 0))) ∧ Ext w w' := by
  obtain ⟨b, A, n, c, b', A', n', c', rfl, H, H'⟩ := h.parts
  have HL := Lib.hid (big_len H.out)
  clear h
  go_enter Tryz.func54, Tryz.ntmps54
  go_wp2
  go_ret
  exact ⟨ret_bool HL.out, (Ext.refl w).alloc _⟩
set_option maxRecDepth 100000 in
set_option maxHeartbeats 8000000 in
theorem rfsign_any (v : Value) (q : Rat) (w : World) (h : RFrac w v q) :
    Calls Tryz.prog 27 #[v] w fun e w' => e = .returned (.int .i64 q.num.sign) ∧ Ext w w' := by
  have HZ := Lib.hid (fun (w : World) (h : RFrac w v q) => rfzero_any v q w h)
  obtain ⟨b, A, n, c, b', A', n', c', rfl, H, H'⟩ := h.parts
  have HV := Lib.hid h
  have hb := H.out.inv.1
  clear h
  rcases Int.lt_trichotomy q.num 0 with hz | hz | hz
  · rw [decide_eq_true hz] at hb
    subst hb
    have HS := Lib.hid (Int.sign_eq_neg_one_of_neg hz)
    clear hz
    go_enter Tryz.func27, Tryz.ntmps27
    go_wp2
    go_ret
    exact ⟨ret_int HS.out.symm, (Ext.refl w).alloc _⟩
  · rw [decide_eq_false (by omega)] at hb
    subst hb
    have hd : decide (q.num = 0) = true := decide_eq_true hz
    have HS : Hid (q.num.sign = 0) := by rw [Hid, hz]; rfl
    clear hz
    go_enter Tryz.func27, Tryz.ntmps27
    go_wp2_with fail
    refine box1 (P := fun W => Calls _ _ _ W _) fun W HX HB => ?_
    refine (HZ.out W (HV.out.ext HX.out)).mono ?_
    rintro e w1 ⟨rfl, hx1⟩
    rw [hd]
    go_wp2
    go_ret
    exact ⟨ret_int HS.out.symm, HX.out.trans hx1⟩
  · rw [decide_eq_false (by omega)] at hb
    subst hb
    have hd : decide (q.num = 0) = false := decide_eq_false (by omega)
    have HS := Lib.hid (Int.sign_eq_one_of_pos hz)
    clear hz
    go_enter Tryz.func27, Tryz.ntmps27
    go_wp2_with fail
    refine box1 (P := fun W => Calls _ _ _ W _) fun W HX HB => ?_
    refine (HZ.out W (HV.out.ext HX.out)).mono ?_
    rintro e w1 ⟨rfl, hx1⟩
    rw [hd]
    go_wp2
    go_ret
    exact ⟨ret_int HS.out.symm, HX.out.trans hx1⟩

set_option maxRecDepth 100000 in
set_option maxHeartbeats 8000000 in
theorem r2mul_any (p q : Rat) (w : World) (fp : FitQ 400 p) (fq : FitQ 400 q) (fr : FitQ 400 (p * q)) :
    Calls Tryz.prog 15 #[.string ⟨(ratText p).toArray⟩, .string ⟨(ratText q).toArray⟩] w fun e w' => e = .returned (.tuple #[.string ⟨(ratText (p * q)).toArray⟩, .int .i64 0]) ∧ Ext w w' := by
  have G := Lib.hid (fun (v : Value) (w : World) (h : RFrac w v (p * q)) => rfgive_any v (p * q) w h fr)
  clear fr
  have V1 := Lib.hid (fun w => r2valid_any p w fp)
  have V2 := Lib.hid (fun w => r2valid_any q w fq)
  have R1 := Lib.hid (fun w => r2read_any p w (e := 399) fp (by decide))
  have R2 := Lib.hid (fun w => r2read_any q w (e := 399) fq (by decide))
  have OP := Lib.hid (fun (va vb : Value) (w : World) (ha : RFrac w va p) (hb : RFrac w vb q) => rfmul_any va vb p q w ha hb fp fq (by decide))
  clear fp fq
  generalize ratText p = tp at *
  generalize ratText q = tq at *
  go_enter Tryz.func15, Tryz.ntmps15
  go_wp2_with fail
  refine (V1.out w).mono ?_
  rintro e w1 ⟨rfl, hx1⟩
  go_wp2_with fail
  refine (V2.out w1).mono ?_
  rintro e w2 ⟨rfl, hx2⟩
  go_wp2_with fail
  refine (R1.out w2).mono ?_
  rintro e w3 ⟨v3, rfl, hv3, hx3⟩
  obtain ⟨b3, A3, n3, c3, b3', A3', n3', c3', rfl, _, _⟩ := hv3.parts
  go_wp2_with fail
  refine (R2.out w3).mono ?_
  rintro e w4 ⟨v4, rfl, hv4, hx4⟩
  obtain ⟨b4, A4, n4, c4, b4', A4', n4', c4', rfl, _, _⟩ := hv4.parts
  go_wp2_with fail
  refine (OP.out _ _ w4 (hv3.ext hx4) hv4).mono ?_
  rintro e w5 ⟨v5, rfl, hv5, hx5⟩
  obtain ⟨b5, A5, n5, c5, b5', A5', n5', c5', rfl, _, _⟩ := hv5.parts
  go_wp2_with fail
  refine (G.out _ w5 hv5).mono ?_
  rintro e w6 ⟨rfl, hx6⟩
  go_wp2
  go_ret2
  exact ⟨rfl, hx1.trans (hx2.trans (hx3.trans (hx4.trans (hx5.trans hx6))))⟩
set_option maxRecDepth 100000 in
set_option maxHeartbeats 8000000 in
theorem r2add_any (p q : Rat) (w : World) (fp : FitQ 400 p) (fq : FitQ 400 q) (fr : FitQ 400 (p + q)) :
    Calls Tryz.prog 14 #[.string ⟨(ratText p).toArray⟩, .string ⟨(ratText q).toArray⟩] w fun e w' => e = .returned (.tuple #[.string ⟨(ratText (p + q)).toArray⟩, .int .i64 0]) ∧ Ext w w' := by
  have G := Lib.hid (fun (v : Value) (w : World) (h : RFrac w v (p + q)) => rfgive_any v (p + q) w h fr)
  clear fr
  have V1 := Lib.hid (fun w => r2valid_any p w fp)
  have V2 := Lib.hid (fun w => r2valid_any q w fq)
  have R1 := Lib.hid (fun w => r2read_any p w (e := 399) fp (by decide))
  have R2 := Lib.hid (fun w => r2read_any q w (e := 399) fq (by decide))
  have OP := Lib.hid (fun (va vb : Value) (w : World) (ha : RFrac w va p) (hb : RFrac w vb q) => rfadd_any va vb p q w ha hb fp fq (by decide))
  clear fp fq
  generalize ratText p = tp at *
  generalize ratText q = tq at *
  go_enter Tryz.func14, Tryz.ntmps14
  go_wp2_with fail
  refine (V1.out w).mono ?_
  rintro e w1 ⟨rfl, hx1⟩
  go_wp2_with fail
  refine (V2.out w1).mono ?_
  rintro e w2 ⟨rfl, hx2⟩
  go_wp2_with fail
  refine (R1.out w2).mono ?_
  rintro e w3 ⟨v3, rfl, hv3, hx3⟩
  obtain ⟨b3, A3, n3, c3, b3', A3', n3', c3', rfl, _, _⟩ := hv3.parts
  go_wp2_with fail
  refine (R2.out w3).mono ?_
  rintro e w4 ⟨v4, rfl, hv4, hx4⟩
  obtain ⟨b4, A4, n4, c4, b4', A4', n4', c4', rfl, _, _⟩ := hv4.parts
  go_wp2_with fail
  refine (OP.out _ _ w4 (hv3.ext hx4) hv4).mono ?_
  rintro e w5 ⟨v5, rfl, hv5, hx5⟩
  obtain ⟨b5, A5, n5, c5, b5', A5', n5', c5', rfl, _, _⟩ := hv5.parts
  go_wp2_with fail
  refine (G.out _ w5 hv5).mono ?_
  rintro e w6 ⟨rfl, hx6⟩
  go_wp2
  go_ret2
  exact ⟨rfl, hx1.trans (hx2.trans (hx3.trans (hx4.trans (hx5.trans hx6))))⟩
set_option maxRecDepth 100000 in
set_option maxHeartbeats 8000000 in
theorem r2compare_any (p q : Rat) (w : World) (fp : FitQ 400 p) (fq : FitQ 400 q) :
    Calls Tryz.prog 18 #[.string ⟨(ratText p).toArray⟩, .string ⟨(ratText q).toArray⟩] w fun e w' => e = .returned (.int .i64 (p - q).num.sign) ∧ Ext w w' := by
  have V1 := Lib.hid (fun w => r2valid_any p w fp)
  have V2 := Lib.hid (fun w => r2valid_any q w fq)
  have R1 := Lib.hid (fun w => r2read_any p w (e := 399) fp (by decide))
  have R2 := Lib.hid (fun w => r2read_any q w (e := 399) fq (by decide))
  have OP := Lib.hid (fun (va vb : Value) (w : World) (ha : RFrac w va p) (hb : RFrac w vb q) => rfsub_any va vb p q w ha hb fp fq (by decide))
  clear fp fq
  generalize ratText p = tp at *
  generalize ratText q = tq at *
  go_enter Tryz.func18, Tryz.ntmps18
  go_wp2_with fail
  refine (V1.out w).mono ?_
  rintro e w1 ⟨rfl, hx1⟩
  go_wp2_with fail
  refine (V2.out w1).mono ?_
  rintro e w2 ⟨rfl, hx2⟩
  go_wp2_with fail
  refine (R1.out w2).mono ?_
  rintro e w3 ⟨v3, rfl, hv3, hx3⟩
  obtain ⟨b3, A3, n3, c3, b3', A3', n3', c3', rfl, _, _⟩ := hv3.parts
  go_wp2_with fail
  refine (R2.out w3).mono ?_
  rintro e w4 ⟨v4, rfl, hv4, hx4⟩
  obtain ⟨b4, A4, n4, c4, b4', A4', n4', c4', rfl, _, _⟩ := hv4.parts
  go_wp2_with fail
  refine (OP.out _ _ w4 (hv3.ext hx4) hv4).mono ?_
  rintro e w5 ⟨v5, rfl, hv5, hx5⟩
  obtain ⟨b5, A5, n5, c5, b5', A5', n5', c5', rfl, _, _⟩ := hv5.parts
  go_wp2_with fail
  refine (rfsign_any _ (p - q) w5 hv5).mono ?_
  rintro e w6 ⟨rfl, hx6⟩
  go_wp2
  go_ret
  exact ⟨rfl, hx1.trans (hx2.trans (hx3.trans (hx4.trans (hx5.trans hx6))))⟩
end Go.Proofs.YtkhmfgkbobblmaaGreatDoor
