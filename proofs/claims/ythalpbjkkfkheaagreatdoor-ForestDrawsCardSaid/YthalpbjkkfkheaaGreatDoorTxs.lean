/- joinlearnref05: Texts, Uses. -/
import Derived.Test.YthalpbjkkfkheaaGreatDoorTbl
import Derived.Test.YthalpbjkkfkheaaGreatDoorChkR
namespace Go.Proofs.YthalpbjkkfkheaaGreatDoor
open Go.RowKit Go.Lib

theorem take_snoc_eq {a b : List Txt} {i : Nat} (ha : i < a.length) (hb : i < b.length) (h : a.take i = b.take i) (he : a[i] = b[i]) : a.take (i + 1) = b.take (i + 1) := by
  rw [List.take_add_one, List.take_add_one, h, List.getElem?_eq_getElem ha, List.getElem?_eq_getElem hb, he]
set_option maxRecDepth 100000 in
set_option maxHeartbeats 1000000 in
theorem rtexts_any (A1 A2 : Option Addr) (n1 c1 n2 c2 : Nat) (a b : List Txt) (w : World) (h1 : TL w (.slice A1 n1 c1) a) (h2 : TL w (.slice A2 n2 c2) b) :
    Calls Tryz.prog 13 #[.slice A1 n1 c1, .slice A2 n2 c2] w fun e w' => e = .returned (.bool (a == b)) ∧ ∃ n, w' = w.drewN n := by
  obtain ⟨e1, hc1, hm1⟩ := cap_le h1
  obtain ⟨e2, hc2, hm2⟩ := cap_le h2
  subst e1 e2
  have HA := Lib.hid h1
  have HB := Lib.hid h2
  clear h1 h2
  by_cases hl : a.length = b.length
  · have HL := Lib.hid hl
    have hne : ((a.length : Int) != (b.length : Int)) = false := by simp [hl]
    have hl1 : a.length ≤ b.length := by omega
    have hl2 : b.length ≤ a.length := by omega
    clear hl
    go_enter Tryz.func13, Tryz.ntmps13
    go_wp2
    go_loopw [13] (fun v wr => ∃ i : Nat, i ≤ a.length ∧ v = .int .i64 i ∧ Hid (a.take i = b.take i) ∧ ∃ q, wr = w.drewN q) (fun v _ => a.length - (RowKit.intOf v).toNat)
    case atStart => exact ⟨0, Nat.zero_le _, rfl, rfl, 0, rfl⟩
    case round =>
      obtain ⟨i, hi1, rfl, HT, q, rfl⟩ := hrel
      by_cases ha : i < a.length
      · have hb : i < b.length := by omega
        obtain ⟨g, o, rfl, _, hcell⟩ := TL.get HA.out ha
        obtain ⟨g', o', rfl, _, hcell'⟩ := TL.get HB.out hb
        have HTS := Lib.hid (fun h => take_snoc_eq ha hb HT.out h)
        have HNE : Hid (a[i] ≠ b[i] → (a == b) = false) := fun h => by
          rw [beq_eq_false_iff_ne]
          intro e
          subst e
          exact h rfl
        generalize a[i] = x at *
        generalize b[i] = y at *
        by_cases hxy : (x == y) = true
        · have HTN := Lib.hid (HTS.out (beq_iff_eq.1 hxy))
          clear HTS HNE HT
          go_wp2
          go_quiet (fail)
          go_wp2
          go_roundw
          case rel => exact ⟨i + 1, by omega, by go_num, HTN, _, rfl⟩
          case measure => simp [RowKit.intOf]; omega
        · have hxy' : (x == y) = false := by simpa using hxy
          have HV := Lib.hid (HNE.out (by simpa using hxy))
          clear hxy HTS HNE HT
          go_wp2
          go_quiet (fail)
          go_wp2
          go_ret
          exact ⟨by rw [HV.out]; rfl, drew2 _ _ _⟩
      · obtain rfl : i = a.length := by omega
        have HV : Hid ((a == b) = true) := by
          have h := HT.out
          rw [List.take_length, HL.out, List.take_length] at h
          exact beq_iff_eq.2 h
        have d1 : decide (a.length < a.length) = false := by simp
        go_wp2
        go_ret
        exact ⟨by rw [HV.out]; rfl, _, rfl⟩
  · have hne : ((a.length : Int) != (b.length : Int)) = true := by simp; omega
    have HV : Hid ((a == b) = false) := by
      rw [Hid, beq_eq_false_iff_ne]
      intro e
      exact hl (by rw [e])
    clear hl
    go_enter Tryz.func13, Tryz.ntmps13
    go_wp2
    go_ret
    exact ⟨by rw [HV.out]; rfl, 0, rfl⟩
set_option maxRecDepth 100000 in
theorem rinB_any (A : Option Addr) (n c : Nat) (l : List Int) (z : Int) (w : World) (h : IL w (.slice A n c) l) :
    Calls Tryz.prog 27 #[.slice A n c, .int .i64 z] w fun e w' => e = .returned (.bool (l.contains z)) ∧ ∃ n, w' = w.drewN n := by
  obtain ⟨hn, hnc, hcm⟩ := cap_le h
  subst hn
  have HL := Lib.hid h
  have HT0 : Hid (z ∉ l.take 0) := by simp [Hid]
  clear h
  go_enter Tryz.func27, Tryz.ntmps27
  go_wp2_with fail
  go_loopw [6, 9] (fun _ v9 wr => ∃ i : Nat, i ≤ l.length ∧ v9 = .int .i64 i ∧ Hid (z ∉ l.take i) ∧ ∃ q, wr = w.drewN q) (fun _ v9 _ => l.length - (RowKit.intOf v9).toNat)
  case atStart => exact ⟨0, Nat.zero_le _, rfl, HT0, 0, rfl⟩
  case round =>
    obtain ⟨i, hi, rfl, HT, q, rfl⟩ := hrel
    by_cases hil : i < l.length
    · obtain ⟨g, o, rfl, _, hc⟩ := IL.get HL.out hil
      have HN : Hid (l[i] ≠ z → z ∉ l.take (i + 1)) := fun hne hm => by
        rw [List.take_succ_eq_append_getElem hil] at hm
        rcases List.mem_append.1 hm with hm | hm
        · exact HT.out hm
        · exact hne (List.mem_singleton.1 hm).symm
      have HY : Hid (l[i] = z → l.contains z = true) := fun h => by rw [List.contains_iff_mem, ← h]; exact List.getElem_mem hil
      generalize l[i] = y at *
      by_cases hy : y = z
      · have HV := Lib.hid (HY.out hy)
        subst hy
        clear HY HN HT
        go_wp2
        go_ret
        exact ⟨by rw [HV.out]; rfl, _, rfl⟩
      · have hb : (y == z) = false := by rw [beq_eq_false_iff_ne]; exact hy
        have HN1 := Lib.hid (HN.out hy)
        clear HY
        go_wp2
        go_roundw
        case rel => exact ⟨i + 1, by omega, by go_num, HN1, _, rfl⟩
        case measure => simp [RowKit.intOf]; omega
    · obtain rfl : i = l.length := by omega
      have HV : Hid (l.contains z = false) := by
        have h := HT.out
        rw [List.take_length] at h
        rw [Hid, ← Bool.not_eq_true, List.contains_iff_mem]
        exact h
      have d1 : decide (l.length < l.length) = false := by simp
      go_wp2
      go_ret
      exact ⟨by rw [HV.out]; rfl, _, rfl⟩
/-- the relations that have an attribute -/
def usesN (rels : List Rl) (a : Int) (i : Nat) : List Int := (upto i).filter fun k => match rels[k.toNat]? with
  | some r => r.2.contains a
  | none => false
theorem usesN_succ {rels : List Rl} {a : Int} {i : Nat} (h : i < rels.length) : usesN rels a (i + 1) = if rels[i].2.contains a = true then usesN rels a i ++ [(i : Int)] else usesN rels a i := by
  unfold usesN
  rw [upto_succ, List.filter_append]
  simp only [List.filter_cons, Int.toNat_natCast, List.getElem?_eq_getElem h, List.filter_nil]
  split <;> simp
theorem usesN_le (rels : List Rl) (a : Int) (i : Nat) : (usesN rels a i).length ≤ i := by
  have := List.length_filter_le (fun k : Int => match rels[k.toNat]? with
    | some r => r.2.contains a
    | none => false) (upto i)
  rw [upto_length] at this
  exact this
set_option maxRecDepth 100000 in
set_option maxHeartbeats 2000000 in
theorem ruses_any (v : Value) (x : Sch) (a : Int) (w : World) (h : SchV w v x) (ok : SchOk x) :
    Calls Tryz.prog 19 #[v, .int .i64 a] w fun e w' => ∃ A c, e = .returned (.slice A (usesN x.rels a x.rels.length).length c) ∧ IL w' (.slice A (usesN x.rels a x.rels.length).length c) (usesN x.rels a x.rels.length) ∧ Ext w w' := by
  have CH := Lib.hid (fun w' (hx : Ext w w') => rcheck_any v x w' (h.ext hx) ok)
  obtain ⟨A, c, B, d, D, e, rfl, ha, hr, hf⟩ := h
  obtain ⟨-, hd1, hd2⟩ := cap_le hr
  have HR := Lib.hid hr
  have r6 := ok.r6
  obtain ⟨RN, hRN⟩ : ∃ RN, x.rels.length = RN := ⟨_, rfl⟩
  have HRN := Lib.hid hRN
  rw [hRN] at hd1 HR CH r6 ⊢
  clear hRN ha hr hf ok
  go_enter Tryz.func19, Tryz.ntmps19
  go_upto_region 1 with fail
  refine box1 (P := fun W => Code.wp _ _ _ _ W) fun W HX BX => ?_
  have CH1 := Lib.hid (CH.out W HX.out)
  obtain ⟨s0, s1, s2, s3⟩ := BX.out.four
  go_wp2_with fail
  refine CH1.out.mono ?_
  rintro e1 w1 ⟨rfl, hx1⟩
  obtain ⟨t0, t1, t2, t3⟩ := (BX.out.ext hx1).four
  have HX1 := Lib.hid (HX.out.trans hx1)
  clear CH CH1 s0 s1 s2 s3 HX hx1
  go_upto_region 5 with fail
  clear t0 t1 t2 t3 BX
  have hsz := HX1.out.size
  go_loopw [5, 6, 7, 14] (fun v5 _ _ v14 wr => ∃ i : Nat, i ≤ RN ∧ v14 = .int .i64 i ∧ Hid (OwnL tInt 1 IntR w1.heap.size wr v5 (usesN x.rels a i)) ∧ Hid (Ext w1 wr)) (fun _ _ _ v14 _ => RN - (RowKit.intOf v14).toNat)
  case atStart => exact ⟨0, Nat.zero_le _, rfl, OwnL.nil, Ext.refl _⟩
  case round =>
    obtain ⟨i, hi, rfl, HO, HXr⟩ := hrel
    by_cases hiR : i < RN
    · have hil : i < x.rels.length := by rw [HRN.out]; exact hiR
      obtain ⟨g, o, Bi, mi, di, rfl, hg, hp1, hp2, hIL⟩ := RlL.get (Ls.ext RlR.stab HR.out (HX1.out.trans HXr.out)) hil
      have HSU := Lib.hid (usesN_succ (a := a) hil)
      have hUL := usesN_le x.rels a i
      have hIL := Lib.hid hIL
      generalize x.rels[i] = rel at *
      obtain ⟨rn, ra⟩ := rel
      simp only at hp1 hp2 hIL HSU
      generalize usesN x.rels a i = us at *
      go_upto_region 7 with fail
      refine box1 (P := fun W => Code.wp _ _ _ _ W) fun W2 HX2 BR => ?_
      have RI := Lib.hid (rinB_any Bi mi di ra a W2 (IL.ext hIL.out HX2.out))
      have HO2 := Lib.hid (HO.out.ext IntR.stab HX2.out)
      have HE2 := Lib.hid (HXr.out.trans HX2.out)
      obtain ⟨b0, b1⟩ := BR.out.two
      clear HO HXr HX2 BR hp1 hp2
      go_wp2_with fail
      refine RI.out.mono ?_
      rintro e2 w2 ⟨rfl, nn, rfl⟩
      have HO3 := Lib.hid (HO2.out.ext IntR.stab ((Ext.refl _).drewN nn))
      have HE3 := Lib.hid (HE2.out.drewN nn)
      generalize W2.drewN nn = W3 at *
      clear RI HO2 HE2 b0 b1
      cases hc : ra.contains a with
      | false =>
        rw [hc] at HSU
        have HU : Hid (usesN x.rels a (i + 1) = us) := HSU.out
        clear HSU hc
        go_wp2
        go_roundw
        case rel => exact ⟨i + 1, by omega, by go_num, by rw [HU.out]; exact HO3, HE3⟩
        case measure => simp [RowKit.intOf]; omega
      | true =>
        rw [hc] at HSU
        have HU : Hid (usesN x.rels a (i + 1) = us ++ [(i : Int)]) := HSU.out
        clear HSU hc
        obtain ⟨A', c', xs, rfl, _, hcm, HRw, HC⟩ := HO3.out.parts
        have hw := HE3.out.size
        have hbt : (us.length + 1) * 8 ≤ 140737488355328 := by omega
        go_wp2_with (at_builtin; refine wpList_app1 rfl _ _ 22 rfl w1.heap.size int_slice _ _ _ rfl HRw.out #[.int .i64 (i : Int)] 1 1 rfl rfl rfl hbt hw ?_)

        intro v' w3 ho3 hg3 _
        have O3 := Lib.hid (OwnL.snoc (R := IntR) (x := (i : Int)) IntR.stab (fun u hu => by cases hu) HRw.out HC.out rfl ho3 hg3)
        have E3 := Lib.hid (grown_below HE3.out HRw.out hg3 (Nat.le_refl _))
        clear ho3 hg3
        go_wp2
        go_roundw
        case rel => exact ⟨i + 1, by omega, by go_num, by rw [HU.out]; exact O3, E3⟩
        case measure => simp [RowKit.intOf]; omega
    · obtain rfl : i = RN := by omega
      obtain ⟨A', c', xs, rfl, _, hcm, HRw, HC⟩ := HO.out.parts
      have d1 : decide (i < i) = false := by simp
      go_wp2
      go_ret
      exact ⟨A', c', rfl, (OwnL.of HRw.out HC.out).ls, HX1.out.trans HXr.out⟩
end Go.Proofs.YthalpbjkkfkheaaGreatDoor
