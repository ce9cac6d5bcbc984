/- Values of attributes: integer.Small, rational.Parts, schema.Value; the reference's Small and Value. -/
import Derived.Test.YthalpbjkkfkheaaGreatDoorRatX
import Derived.Test.YthalpbjkkfkheaaGreatDoorWordR
import Derived.Test.YthalpbjkkfkheaaGreatDoorSchk
import Derived.BigQuiet
namespace Go.Proofs.YthalpbjkkfkheaaGreatDoor
open Go.RowKit Go.Lib

/-- a small integer -/
def SmZ (z : Int) : Prop := -1000000000 ≤ z ∧ z ≤ 1000000000
theorem SmZ.lt {z : Int} (h : SmZ z) : z.natAbs < 10 ^ 10 := by unfold SmZ at h; omega
theorem SmZ.dig {z : Int} (h : SmZ z) : nDigits z.natAbs ≤ 400 := Nat.le_trans (nDigits_le (e := 9) h.lt) (by decide)
theorem SmZ.fitz {z : Int} (h : SmZ z) : FitZ z := ⟨10, by decide, h.lt⟩
theorem SmZ.two {z : Int} (h : SmZ z) : (toL z.natAbs).length ≤ 2 := by
  have := toL_length_le h.lt
  omega
set_option maxRecDepth 100000 in
set_option maxHeartbeats 2000000 in
theorem nsmall_any (v : Value) (z : Int) (w : World) (h : Num w v z) (hz : SmZ z) :
    Calls Tryz.prog 82 #[v] w fun e w' => e = .returned (.tuple #[.int .i64 z, .bool true]) ∧ Ext w w' := by
  obtain ⟨s, rfl, A, c, rfl, hc, hs⟩ := h
  have h2 := hz.two
  have hv := val_toL z.natAbs
  have hd := (toL_canon z.natAbs).1
  have hlim : limb (toL z.natAbs) 2 = 0 := limb_beyond h2
  have hn : z.natAbs ≤ 1000000000 := by unfold SmZ at hz; omega
  have AT := Lib.hid (fun w' (hx : Ext w w') => at_any A c (toL z.natAbs) 2 w' (by omega) (by decide) (hs.ext hx))
  have SMA := Lib.hid (fun w' (hx : Ext w w') => small_any A c (toL z.natAbs) w' h2 hd (hs.ext hx))
  rw [hlim] at AT
  rw [hv] at SMA
  have HS := Lib.hid hs
  clear hv hd hlim hz hs
  generalize (toL z.natAbs).length = n at *
  have hzz : z = if decide (z < 0) then -(z.natAbs : Int) else (z.natAbs : Int) := by
    by_cases h : z < 0
    · rw [decide_eq_true h]; simp; omega
    · rw [decide_eq_false h]; simp; omega
  have HZZ := Lib.hid hzz
  clear hzz
  generalize decide (z < 0) = neg at *
  generalize z.natAbs = m at *
  have d3 : decide ((n : Int) > 3) = false := decide_eq_false (by omega)
  have d62 : decide ((m : Int) > 4611686018427387904) = false := decide_eq_false (by omega)
  have hw1 : IntKind.i64.wrap (m : Int) = (m : Int) := by rw [IntKind.wrap_i64]; omega
  have hw2 : IntKind.i64.wrap (-(m : Int)) = -(m : Int) := by rw [IntKind.wrap_i64]; omega
  have hw3 : IntKind.u64.wrap (m : Int) = (m : Int) := by rw [IntKind.wrap_u64]; omega
  go_enter Tryz.func82, Tryz.ntmps82
  go_upto_region 1 with fail
  refine box1 (P := fun W => Code.wp _ _ _ _ W) fun W HX BX => ?_
  obtain ⟨s0, s1⟩ := BX.out.two
  go_wp2_with fail
  refine (AT.out _ HX.out).mono ?_
  rintro e w1 ⟨rfl, rfl⟩
  go_upto_region 3 with fail
  go_quiet (first | (go_at_call 95; exact quiet0 (AT.out _ (HX.out.drewN _))) | (go_at_call 96; exact quiet0 (SMA.out _ (HX.out.drewN _))))
  cases neg with
  | true =>
    have hz : z = -(m : Int) := by simpa using HZZ.out
    subst hz
    go_wp2
    go_ret2
    exact ⟨rfl, HX.out.drewN _⟩
  | false =>
    have hz : z = (m : Int) := by simpa using HZZ.out
    subst hz
    go_wp2
    go_ret2
    exact ⟨rfl, HX.out.drewN _⟩
set_option maxRecDepth 100000 in
theorem isml_any (z : Int) (w : World) (hz : SmZ z) :
    Calls Tryz.prog 69 #[.string ⟨(decZ z).toArray⟩] w fun e w' => e = .returned (.tuple #[.int .i64 z, .bool true]) ∧ Ext w w' := by
  have V := Lib.hid (fun w' => valid_any z w' hz.dig)
  have R := Lib.hid (fun w' => iread_any z w' hz.fitz.wide)
  have SM := Lib.hid (fun v w' (h : Num w' v z) => nsmall_any v z w' h hz)
  generalize decZ z = t at *
  clear hz
  go_enter Tryz.func69, Tryz.ntmps69
  go_wp2_with fail
  refine (V.out w).mono ?_
  rintro e w1 ⟨rfl, hx1⟩
  go_wp2_with fail
  refine (R.out w1).mono ?_
  rintro e w2 ⟨v, rfl, hv, hx2⟩
  go_wp2_with fail
  refine (SM.out v w2 hv).mono ?_
  rintro e w3 ⟨rfl, hx3⟩
  go_wp2
  go_ret2
  exact ⟨rfl, hx1.trans (hx2.trans hx3)⟩
set_option maxRecDepth 100000 in
theorem ivalid_nil (w : World) : Calls Tryz.prog 80 #[.string ⟨#[]⟩] w fun e w' => e = .returned (.bool false) ∧ Ext w w' := by
  have HT : Hid (trimPrefix [] [45] = []) := rfl
  go_enter Tryz.func80, Tryz.ntmps80
  go_wp2_with fail
  refine (Tryz.strings_TrimPrefix _ _ w).mono ?_
  rintro e w1 ⟨rfl, rfl⟩
  simp only [HT.out]
  go_wp2
  go_ret
  exact ⟨rfl, Ext.refl _⟩
set_option maxRecDepth 100000 in
theorem isml_nil (w : World) : Calls Tryz.prog 69 #[.string ⟨#[]⟩] w fun e w' => e = .returned (.tuple #[.int .i64 0, .bool false]) ∧ Ext w w' := by
  go_enter Tryz.func69, Tryz.ntmps69
  go_wp2_with fail
  refine (ivalid_nil w).mono ?_
  rintro e w1 ⟨rfl, hx1⟩
  go_wp2
  go_ret2
  exact ⟨rfl, hx1⟩
set_option maxRecDepth 100000 in
theorem bnd_any (z : Int) (w : World) (hz : SmZ z) :
    Calls Tryz.prog 67 #[.string ⟨(decZ z).toArray⟩] w fun e w' => e = .returned (.bool true) ∧ Ext w w' := by
  have S := Lib.hid (fun w' => isml_any z w' hz)
  have d1 : decide (z ≥ -1000000000) = true := decide_eq_true hz.1
  have d2 : decide (z ≤ 1000000000) = true := decide_eq_true hz.2
  generalize decZ z = t at *
  clear hz
  go_enter Tryz.func67, Tryz.ntmps67
  go_wp2_with fail
  refine (S.out w).mono ?_
  rintro e w1 ⟨rfl, hx1⟩
  go_wp2
  go_ret
  exact ⟨rfl, hx1⟩
set_option maxRecDepth 100000 in
theorem rvalid_nil (w : World) : Calls Tryz.prog 78 #[.string ⟨#[]⟩] w fun e w' => e = .returned (.bool false) ∧ Ext w w' := by
  go_enter Tryz.func78, Tryz.ntmps78
  go_wp2_with fail
  refine (cut_none [] w (by decide) (by simp)).mono ?_
  rintro e w1 ⟨rfl, hx1⟩
  go_wp2_with fail
  refine (ivalid_nil w1).mono ?_
  rintro e w2 ⟨rfl, hx2⟩
  go_wp2
  go_ret
  exact ⟨rfl, hx1.trans hx2⟩
set_option maxRecDepth 100000 in
theorem parts_nil (w : World) : Calls Tryz.prog 68 #[.string ⟨#[]⟩] w fun e w' => e = .returned (.tuple #[.string ⟨#[]⟩, .string ⟨#[]⟩, .bool false]) ∧ Ext w w' := by
  go_enter Tryz.func68, Tryz.ntmps68
  go_wp2_with fail
  refine (rvalid_nil w).mono ?_
  rintro e w1 ⟨rfl, hx1⟩
  go_wp2
  go_ret3
  exact ⟨rfl, hx1⟩
set_option maxRecDepth 100000 in
theorem parts_any (q : Rat) (w : World) (hf : FitQ 400 q) :
    Calls Tryz.prog 68 #[.string ⟨(ratText q).toArray⟩] w fun e w' => e = .returned (.tuple #[.string ⟨(decZ q.num).toArray⟩, .string ⟨(decZ q.den).toArray⟩, .bool true]) ∧ Ext w w' := by
  have V := Lib.hid (fun w' => rvalid_any q w' hf)
  have hn2 := decZ_length q.num
  have hn3 := hf.dn
  have hd3 := hf.dd
  by_cases h1 : q.den = 1
  · have HT := Lib.hid (ratText_int h1)
    have hd1 : decZ q.den = [49] := by rw [h1]; exact one_text
    rw [HT.out] at V ⊢
    rw [hd1]
    have hsl := decZ_slash q.num
    generalize decZ q.num = a at *
    have HC := Lib.hid (fun w => cut_none a w (by omega) hsl)
    clear hn2 hn3 hd3 h1 hf HT hsl hd1
    go_enter Tryz.func68, Tryz.ntmps68
    go_wp2_with fail
    refine (V.out w).mono ?_
    rintro e w1 ⟨rfl, hx1⟩
    go_wp2_with fail
    refine (HC.out w1).mono ?_
    rintro e w2 ⟨rfl, hx2⟩
    go_wp2
    go_ret3
    exact ⟨rfl, hx1.trans hx2⟩
  · have HT := Lib.hid (ratText_frac h1)
    have hdn : decDigits q.den = decZ q.den := (decZ_nat _).symm
    have hsl := decZ_slash q.num
    have hne := dec_ne_nil q.den
    have hll : (decZ q.num).length + (decDigits q.den).length ≤ 10000000 := by rw [decDigits_length]; omega
    rw [HT.out] at V ⊢
    rw [hdn] at hne hll V ⊢
    generalize decZ q.num = a at *
    generalize decZ q.den = b at *
    have HC := Lib.hid (fun w => cut_some a b w hll hne hsl)
    generalize a ++ 47 :: b = ab at *
    clear hn2 hn3 hd3 h1 hf HT hsl hdn hne hll
    go_enter Tryz.func68, Tryz.ntmps68
    go_wp2_with fail
    refine (V.out w).mono ?_
    rintro e w1 ⟨rfl, hx1⟩
    go_wp2_with fail
    refine (HC.out w1).mono ?_
    rintro e w2 ⟨rfl, hx2⟩
    go_wp2
    go_ret3
    exact ⟨rfl, hx1.trans hx2⟩
/-- a small fraction, as a number in a table is -/
def SmQ (q : Rat) : Prop := SmZ q.num ∧ q.den ≤ 12
theorem SmQ.fit {q : Rat} (h : SmQ q) : FitQ 400 q := FitQ.mono (e := 10) ⟨h.1.lt, by have := h.2; omega⟩ (by decide)
theorem SmQ.den {q : Rat} (h : SmQ q) : SmZ (q.den : Int) := by
  have := h.2
  unfold SmZ
  omega
/-- a value of an attribute of a kind -/
def ValT (kind : Int) (v : List UInt8) : Prop := v = [] ∨ (kind = 3 ∧ WordT v) ∨ (kind = 1 ∧ ∃ z : Int, v = decZ z ∧ SmZ z) ∨ (kind = 2 ∧ ∃ q : Rat, v = ratText q ∧ SmQ q)
theorem decZ_ne (z : Int) : decZ z ≠ [] := by
  intro h
  have h2 := (trim_decZ z).1
  rw [h] at h2
  exact dec_ne_nil z.natAbs (h2.symm.trans rfl)
theorem ratText_ne (q : Rat) : ratText q ≠ [] := by
  by_cases h : q.den = 1
  · rw [ratText_int h]; exact decZ_ne _
  · rw [ratText_frac h]; simp
set_option maxRecDepth 100000 in
set_option maxHeartbeats 1000000 in
/-- schema.Value at values -/
theorem sval_any (nm v : List UInt8) (kind : Int) (w : World) (hk : 1 ≤ kind ∧ kind ≤ 3) (h : ValT kind v) :
    Calls Tryz.prog 53 #[.agg #[.string ⟨nm.toArray⟩, .int .i64 kind], .string ⟨v.toArray⟩] w fun e w' => e = .returned (.bool true) ∧ Ext w w' := by
  have hk3 : kind = 1 ∨ kind = 2 ∨ kind = 3 := by omega
  clear hk
  rcases h with rfl | ⟨rfl, hw⟩ | ⟨rfl, z, rfl, hz⟩ | ⟨rfl, q, rfl, hq⟩
  · rcases hk3 with rfl | rfl | rfl
    · go_enter Tryz.func53, Tryz.ntmps53
      go_upto_region 1 with fail
      refine box1 (P := fun W => Code.wp _ _ _ _ W) fun W HX BX => ?_
      obtain ⟨s0, s1⟩ := BX.out.two
      go_wp2
      go_ret
      exact ⟨rfl, HX.out⟩
    · go_enter Tryz.func53, Tryz.ntmps53
      go_upto_region 1 with fail
      refine box1 (P := fun W => Code.wp _ _ _ _ W) fun W HX BX => ?_
      obtain ⟨s0, s1⟩ := BX.out.two
      go_wp2_with fail
      refine (parts_nil W).mono ?_
      rintro e w1 ⟨rfl, hx1⟩
      go_wp2_with fail
      refine (isml_nil w1).mono ?_
      rintro e w2 ⟨rfl, hx2⟩
      go_wp2
      go_ret
      exact ⟨rfl, HX.out.trans (hx1.trans hx2)⟩
    · go_enter Tryz.func53, Tryz.ntmps53
      go_upto_region 1 with fail
      refine box1 (P := fun W => Code.wp _ _ _ _ W) fun W HX BX => ?_
      obtain ⟨s0, s1⟩ := BX.out.two
      go_wp2
      go_ret
      exact ⟨rfl, HX.out⟩
  · have WA := Lib.hid (fun w' => word_any v w' hw)
    have hne : (v == []) = false := by
      rw [beq_eq_false_iff_ne]
      intro h
      have := hw.1
      rw [h] at this
      cases this
    clear hw hk3
    go_enter Tryz.func53, Tryz.ntmps53
    go_upto_region 1 with fail
    refine box1 (P := fun W => Code.wp _ _ _ _ W) fun W HX BX => ?_
    obtain ⟨s0, s1⟩ := BX.out.two
    go_wp2_with fail
    refine (WA.out W).mono ?_
    rintro e w1 ⟨rfl, hx1⟩
    go_wp2
    go_ret
    exact ⟨rfl, HX.out.trans hx1⟩
  · have BA := Lib.hid (fun w' => bnd_any z w' hz)
    have hne : (decZ z == []) = false := by rw [beq_eq_false_iff_ne]; exact decZ_ne z
    generalize decZ z = v at *
    clear hz hk3
    go_enter Tryz.func53, Tryz.ntmps53
    go_upto_region 1 with fail
    refine box1 (P := fun W => Code.wp _ _ _ _ W) fun W HX BX => ?_
    obtain ⟨s0, s1⟩ := BX.out.two
    go_wp2_with fail
    refine (BA.out W).mono ?_
    rintro e w1 ⟨rfl, hx1⟩
    go_wp2
    go_ret
    exact ⟨rfl, HX.out.trans hx1⟩
  · have PA := Lib.hid (fun w' => parts_any q w' hq.fit)
    have BA := Lib.hid (fun w' => bnd_any q.num w' hq.1)
    have SA := Lib.hid (fun w' => isml_any q.den w' hq.den)
    have hne : (ratText q == []) = false := by rw [beq_eq_false_iff_ne]; exact ratText_ne q
    have hd0 := q.den_pos
    have hd12 := hq.2
    have d1 : decide ((q.den : Int) ≥ 1) = true := decide_eq_true (by omega)
    have d2 : decide ((q.den : Int) ≤ 12) = true := decide_eq_true (by omega)
    generalize ratText q = v at *
    generalize decZ q.num = tn at *
    generalize decZ q.den = td at *
    generalize q.den = dn at *
    clear hq hk3
    go_enter Tryz.func53, Tryz.ntmps53
    go_upto_region 1 with fail
    refine box1 (P := fun W => Code.wp _ _ _ _ W) fun W HX BX => ?_
    obtain ⟨s0, s1⟩ := BX.out.two
    go_wp2_with fail
    refine (PA.out W).mono ?_
    rintro e w1 ⟨rfl, hx1⟩
    go_wp2_with fail
    refine (SA.out w1).mono ?_
    rintro e w2 ⟨rfl, hx2⟩
    go_wp2_with fail
    refine (BA.out w2).mono ?_
    rintro e w3 ⟨rfl, hx3⟩
    go_wp2
    go_ret
    exact ⟨rfl, HX.out.trans (hx1.trans (hx2.trans hx3))⟩
theorem val_drop_le : ∀ (l : List Nat) (k : Nat), val (l.drop k) ≤ val l
  | [], k => by simp
  | x :: l, 0 => Nat.le_refl _
  | x :: l, k + 1 => by
    have h := val_drop_le l k
    have e : val (x :: l) = x + B9 * val l := rfl
    rw [List.drop_succ_cons, e]
    unfold B9
    omega
theorem val_drop_get {l : List Nat} {k : Nat} (h : k < l.length) : val (l.drop k) = val (l.drop (k + 1)) * 1000000000 + l[k] := by
  rw [List.drop_eq_getElem_cons h]
  have e : val (l[k] :: l.drop (k + 1)) = l[k] + B9 * val (l.drop (k + 1)) := rfl
  rw [e]
  unfold B9
  omega
set_option maxRecDepth 100000 in
set_option maxHeartbeats 1000000 in
theorem r1small_any (z : Int) (w : World) (hz : SmZ z) :
    Calls Tryz.prog 47 #[.string ⟨(decZ z).toArray⟩] w fun e w' => e = .returned (.tuple #[.int .i64 z, .bool true]) ∧ Ext w w' := by
  have V := Lib.hid (fun w' => r1valid_any z w' hz.dig)
  have RD := Lib.hid (fun w' => rread_any z w' hz.fitz.wide)
  generalize decZ z = t at *
  go_enter Tryz.func47, Tryz.ntmps47
  go_wp2_with fail
  refine (V.out w).mono ?_
  rintro e w1 ⟨rfl, rfl⟩
  go_wp2_with fail
  refine (RD.out w).mono ?_
  rintro e w2 ⟨v, rfl, hv, hx2⟩
  obtain ⟨A, c, rfl, hc, hs⟩ := hv
  go_upto_region 4 with fail
  refine box1 (P := fun W => Code.wp _ _ _ _ W) fun W HX BX => ?_
  go_wp2_with fail
  refine (rof_any 4611686018427387904 W (by decide) (by decide)).mono ?_
  rintro e w3 ⟨v', rfl, hv', hx3⟩
  obtain ⟨A', c', rfl, hc', hs'⟩ := hv'
  have HX3 := Lib.hid (hx2.trans (HX.out.trans hx3))
  have BX3 := Lib.hid (BX.out.ext hx3)
  have HS3 := Lib.hid (hs.ext (HX.out.trans hx3))
  have hl2 := hz.two
  have hm62 : (4611686018427387904 : Int).natAbs = 4611686018427387904 := rfl
  have hs'' : (toL (4611686018427387904 : Int).natAbs).length ≤ 1000 := by
    have := toL_length_le (n := (4611686018427387904 : Int).natAbs) (e := 19) (by decide)
    omega
  have hcm : cmpN (val (toL z.natAbs)) (val (toL (4611686018427387904 : Int).natAbs)) = -1 := by
    rw [val_toL, val_toL, hm62]
    exact cmpN_lt (by unfold SmZ at hz; omega)
  have RS := Lib.hid (fun w' (hx : Ext w3 w') => rsize_any A A' c c' (toL z.natAbs) (toL (4611686018427387904 : Int).natAbs) w' (by omega) (by omega) (toL_canon _) (toL_canon _) (hs.ext (HX.out.trans (hx3.trans hx))) (hs'.ext hx))
  rw [hcm] at RS
  have hvz : val (toL z.natAbs) = z.natAbs := val_toL _
  have hn9 : z.natAbs ≤ 1000000000 := by unfold SmZ at hz; omega
  have HVZ := Lib.hid hvz
  have hzz : z = if decide (z < 0) then -(z.natAbs : Int) else (z.natAbs : Int) := by
    by_cases h : z < 0
    · rw [decide_eq_true h]; simp; omega
    · rw [decide_eq_false h]; simp; omega
  have HZZ := Lib.hid hzz
  clear hzz hvz hcm hm62 hs'' hs' hc' hs hc hz hx2 hx3 HX BX
  generalize toL (4611686018427387904 : Int).natAbs = l2 at *
  generalize toL z.natAbs = l at *
  generalize decide (z < 0) = neg at *
  generalize z.natAbs = m at *
  go_upto_region 5 with fail
  refine box1 (P := fun W => Code.wp _ _ _ _ W) fun W4 HX4 BY => ?_
  have BX4 := Lib.hid (BX3.out.ext HX4.out)
  obtain ⟨s0, s1⟩ := BX4.out.two
  obtain ⟨t0, t1⟩ := BY.out.two
  have HX5 := Lib.hid (HX3.out.trans HX4.out)
  have LS := Lib.hid (HS3.out.ext HX4.out)
  have RS4 := Lib.hid (RS.out W4 HX4.out)
  have HL2 := Lib.hid hl2
  have HN9 := Lib.hid hn9
  clear BX3 HS3 RS HX3 hl2 hn9 HX4
  go_wp2_with fail
  refine RS4.out.mono ?_
  rintro e w5 ⟨rfl, nn, rfl⟩
  clear RS4
  have HX6 := Lib.hid (HX5.out.drewN nn)
  have LS6 := Lib.hid (LS.out.ext ((Ext.refl _).drewN nn))
  have BX6 := Lib.hid (BX4.out.drewN nn)
  generalize W4.drewN nn = W5 at *
  clear LS HX5 BX4 s0 s1 t0 t1 BY
  obtain ⟨s0, s1⟩ := BX6.out.two
  generalize w2.heap.size = gx at *
  clear BX6
  have hl2 := HL2.out
  go_wp2
  go_loopw [6, 7] (fun a i wr => ∃ k : Nat, k ≤ l.length ∧ i = .int .i64 ((k : Int) - 1) ∧ a = .int .i64 (val (l.drop k) : Nat) ∧ ∃ q, wr = W5.drewN q) (fun _ i _ => (Lib.intOf i + 1).toNat)
  case atStart => exact ⟨l.length, Nat.le_refl _, rfl, by rw [List.drop_of_length_le (Nat.le_refl _)]; rfl, 0, rfl⟩
  case round =>
    obtain ⟨k, hk, rfl, rfl, q, rfl⟩ := hrel
    cases k with
    | succ k =>
      have hk' : k < l.length := by omega
      obtain ⟨g, o, rfl, _, hcell⟩ := LS6.out.at_ (i64s_get hk')
      have hvk := val_drop_get hk'
      have hle := val_drop_le l k
      rw [HVZ.out] at hle
      have h9 := HN9.out
      have HVK := Lib.hid hvk
      have hb1 : val (l.drop (k + 1)) ≤ 1 := by omega
      have hb2 : l[k] ≤ 1000000000 := by omega
      clear hvk hle h9
      generalize val (l.drop (k + 1)) = u at *
      generalize l[k] = y at *
      go_wp2
      go_roundw
      case rel => exact ⟨k, by omega, by go_num, by rw [HVK.out]; go_num, _, rfl⟩
      case measure => simp [Lib.intOf]
    | zero =>
      have hvk : val (l.drop 0) = m := HVZ.out
      rw [hvk]
      have h9 := HN9.out
      cases neg with
      | true =>
        have hz : z = -(m : Int) := by simpa using HZZ.out
        subst hz
        go_wp2
        go_ret2
        exact ⟨rfl, HX6.out.drewN _⟩
      | false =>
        have hz : z = (m : Int) := by simpa using HZZ.out
        subst hz
        go_wp2
        go_ret2
        exact ⟨rfl, HX6.out.drewN _⟩
end Go.Proofs.YthalpbjkkfkheaaGreatDoor
