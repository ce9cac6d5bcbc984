/- Values of attributes: the reference's Value, and the values that are made. -/
import Derived.Test.YthalpbjkkfkheaaGreatDoorVal
namespace Go.Proofs.YthalpbjkkfkheaaGreatDoor
open Go.RowKit Go.Lib

set_option maxRecDepth 100000 in
set_option maxHeartbeats 1000000 in
/-- joinlearnref05.Value at values -/
theorem rval_any (nm v : List UInt8) (kind : Int) (w : World) (hk : 1 ≤ kind ∧ kind ≤ 3) (h : ValT kind v) :
    Calls Tryz.prog 38 #[.agg #[.string ⟨nm.toArray⟩, .int .i64 kind], .string ⟨v.toArray⟩] w fun e w' => e = .returned (.bool true) ∧ Ext w w' := by
  rcases h with rfl | ⟨rfl, hw⟩ | h
  · go_enter Tryz.func38, Tryz.ntmps38
    go_upto_region 1 with fail
    refine box1 (P := fun W => Code.wp _ _ _ _ W) fun W HX BX => ?_
    obtain ⟨s0, s1⟩ := BX.out.two
    go_wp2
    go_ret
    exact ⟨rfl, HX.out⟩
  · have WA := Lib.hid (fun w' => rword_any v w' hw)
    have hne : (v == []) = false := by
      rw [beq_eq_false_iff_ne]
      intro h
      have := hw.1
      rw [h] at this
      cases this
    clear hw hk
    go_enter Tryz.func38, Tryz.ntmps38
    go_upto_region 1 with fail
    refine box1 (P := fun W => Code.wp _ _ _ _ W) fun W HX BX => ?_
    obtain ⟨s0, s1⟩ := BX.out.two
    go_wp2_with fail
    refine (WA.out W).mono ?_
    rintro e w1 ⟨rfl, hx1⟩
    go_wp2
    go_ret
    exact ⟨rfl, HX.out.trans hx1⟩
  · obtain ⟨q, rfl, hq, hkk⟩ : ∃ q : Rat, v = ratText q ∧ SmQ q ∧ (kind = 1 ∧ q.den = 1 ∨ kind = 2) := by
      rcases h with ⟨rfl, z, rfl, hz⟩ | ⟨rfl, q, rfl, hq⟩
      · exact ⟨(z : Rat), (ratText_int (q := (z : Rat)) rfl).symm, ⟨hz, by show 1 ≤ 12; decide⟩, .inl ⟨rfl, rfl⟩⟩
      · exact ⟨q, rfl, hq, .inr rfl⟩
    have PA := Lib.hid (fun w' => rparts_any q w' hq.fit)
    have BA := Lib.hid (fun w' => r1small_any q.num w' hq.1)
    have SA := Lib.hid (fun w' => r1small_any q.den w' hq.den)
    have hne : (ratText q == []) = false := by rw [beq_eq_false_iff_ne]; exact ratText_ne q
    rw [← decZ_nat] at PA
    have hd12 := hq.2
    have hn1 := hq.1.1
    have hn2 := hq.1.2
    have d2 : decide ((q.den : Int) ≤ 12) = true := decide_eq_true (by omega)
    have d3 : decide (q.num ≥ -1000000000) = true := decide_eq_true hn1
    have d4 : decide (q.num ≤ 1000000000) = true := decide_eq_true hn2
    have ht : kind = 1 → decZ q.den = [49] := by
      intro h
      rcases hkk with ⟨_, h2⟩ | h2
      · rw [h2]; exact one_text
      · omega
    have hk12 : kind = 1 ∨ kind = 2 := by
      rcases hkk with ⟨h1, _⟩ | h2
      · exact .inl h1
      · exact .inr h2
    generalize ratText q = v at *
    generalize decZ q.num = tn at *
    generalize decZ q.den = td at *
    generalize q.den = dn at *
    generalize q.num = nn at *
    clear hq hkk hk h hn1 hn2
    rcases hk12 with rfl | rfl
    · obtain rfl := ht rfl
      clear ht
      go_enter Tryz.func38, Tryz.ntmps38
      go_upto_region 1 with fail
      refine box1 (P := fun W => Code.wp _ _ _ _ W) fun W HX BX => ?_
      obtain ⟨s0, s1⟩ := BX.out.two
      have BXH := BX
      go_wp2_with fail
      refine (PA.out W).mono ?_
      rintro e w1 ⟨rfl, hx1⟩
      obtain ⟨t0, t1⟩ := (BX.out.ext hx1).two
      go_wp2_with fail
      refine (BA.out w1).mono ?_
      rintro e w2 ⟨rfl, hx2⟩
      go_wp2_with fail
      refine (SA.out w2).mono ?_
      rintro e w3 ⟨rfl, hx3⟩
      go_wp2
      go_ret
      exact ⟨rfl, HX.out.trans (hx1.trans (hx2.trans hx3))⟩
    · clear ht
      go_enter Tryz.func38, Tryz.ntmps38
      go_upto_region 1 with fail
      refine box1 (P := fun W => Code.wp _ _ _ _ W) fun W HX BX => ?_
      obtain ⟨s0, s1⟩ := BX.out.two
      go_wp2_with fail
      refine (PA.out W).mono ?_
      rintro e w1 ⟨rfl, hx1⟩
      obtain ⟨t0, t1⟩ := (BX.out.ext hx1).two
      go_wp2_with fail
      refine (BA.out w1).mono ?_
      rintro e w2 ⟨rfl, hx2⟩
      go_wp2_with fail
      refine (SA.out w2).mono ?_
      rintro e w3 ⟨rfl, hx3⟩
      go_wp2
      go_ret
      exact ⟨rfl, HX.out.trans (hx1.trans (hx2.trans hx3))⟩
end Go.Proofs.YthalpbjkkfkheaaGreatDoor
