/- schema.features at valid schemas; slices.Contains of bools, slices.ContainsFunc of features. -/
import Derived.Test.YthalpbjkkfkheaaGreatDoorSchk
namespace Go.Proofs.YthalpbjkkfkheaaGreatDoor
open Go.RowKit Go.Lib

theorem Ls.upto {α : Type} {t : TypeId} {k i : Nat} {R : World → List Value → α → Prop} (hk : ∀ w c x, R w c x → c.length = k) {w : World} {A : Option Addr} {n c : Nat} {l : List α} (h : Ls t R w (.slice A n c) l) (hi : i ≤ l.length) : Ls t R w (.slice A i c) (l.take i) := by
  obtain ⟨A', c', xs, e, h2, h3, h4, h5, h6⟩ := h
  injection e with e1 e2 e3
  subst e1 e3
  have hl : (l.take i).length = i := by rw [List.length_take]; omega
  exact ⟨A, c, xs.take (i * k), by rw [hl], by rw [hl]; omega, h3, h4, h5.take _, Ch.take (hk w) h6 i⟩
abbrev tBool : TypeId := 4
set_option maxRecDepth 100000 in
set_option maxHeartbeats 1000000 in
theorem index_true (g n c : Nat) (w : World) (h : Blk w g tBool (List.replicate n (.bool true))) (hn : n ≤ 1000) :
    Calls Tryz.prog 51 #[.slice (some ⟨g, 0, none⟩) n c, .bool false] w fun e w' => e = .returned (.int .i64 (-1)) ∧ Ext w w' := by
  have HB := Lib.hid h
  clear h
  go_enter Tryz.func51, Tryz.ntmps51
  go_wp2
  go_loopw [5, 8] (fun _ v8 wr => ∃ i : Nat, i ≤ n ∧ v8 = .int .i64 i ∧ Hid (Ext w wr)) (fun _ v8 _ => n - (RowKit.intOf v8).toNat)
  case atStart => exact ⟨0, Nat.zero_le _, rfl, Ext.refl _⟩
  case round =>
    obtain ⟨i, hi, rfl, HX⟩ := hrel
    by_cases hin : i < n
    · have hc := (HB.out.ext HX.out).cell (i := i) (u := .bool true) (by simp [hin])
      go_wp2
      go_roundw
      case rel => exact ⟨i + 1, by omega, by go_num, HX⟩
      case measure => simp [RowKit.intOf]; omega
    · obtain rfl : i = n := by omega
      go_wp2
      go_ret
      exact ⟨rfl, HX.out⟩
set_option maxRecDepth 100000 in
theorem contains_true (g n c : Nat) (w : World) (h : Blk w g tBool (List.replicate n (.bool true))) (hn : n ≤ 1000) :
    Calls Tryz.prog 41 #[.slice (some ⟨g, 0, none⟩) n c, .bool false] w fun e w' => e = .returned (.bool false) ∧ Ext w w' := by
  have HI := Lib.hid (index_true g n c w h hn)
  clear h
  go_enter Tryz.func41, Tryz.ntmps41
  go_wp2_with fail
  refine HI.out.mono ?_
  rintro e w1 ⟨rfl, hx⟩
  go_wp2
  go_ret
  exact ⟨rfl, hx⟩
set_option maxRecDepth 100000 in
theorem fclosure_any (a k m b : Int) (gf : Nat) (w : World) (hg : gf < w.heap.size) (h : w.cell? ⟨gf, 0, none⟩ = some (.int .i64 b)) :
    Calls Tryz.prog 43 #[.agg #[.int .i64 a, .int .i64 k, .int .i64 m], .pointer (some ⟨gf, 0, none⟩)] w fun e w' => e = .returned (.bool (a == b)) ∧ Ext w w' := by
  go_enter Tryz.func43, Tryz.ntmps43
  go_upto_region 1 with fail
  refine box1 (P := fun W => Code.wp _ _ _ _ W) fun W HX BX => ?_
  have h' := (HX.out.cell (p := ⟨gf, 0, none⟩) hg).trans h
  have hc := BX.out.cell (i := 0) rfl
  clear h
  go_wp2
  go_ret
  exact ⟨rfl, HX.out⟩
set_option maxRecDepth 100000 in
set_option maxHeartbeats 1000000 in
theorem findex_any (A : Option Addr) (c : Nat) (l : List Fe) (gf : Nat) (b : Int) (w : World) (h : FeL w (.slice A l.length c) l) (hg : gf < w.heap.size) (hc : w.cell? ⟨gf, 0, none⟩ = some (.int .i64 b)) (hb : ∀ f ∈ l, f.1 ≠ b) (hl : l.length ≤ 1000) :
    Calls Tryz.prog 52 #[.slice A l.length c, .func (.func 43) #[] #[.pointer (some ⟨gf, 0, none⟩)]] w fun e w' => e = .returned (.int .i64 (-1)) ∧ Ext w w' := by
  have HL := Lib.hid h
  have HB := Lib.hid hb
  have HCC : Hid (∀ w', Ext w w' → w'.cell? ⟨gf, 0, none⟩ = some (.int .i64 b)) := fun w' hx => (hx.cell (p := ⟨gf, 0, none⟩) hg).trans hc
  obtain ⟨-, -, hcm⟩ := cap_le h
  clear h hb hc
  obtain ⟨n, hn⟩ : ∃ n, l.length = n := ⟨_, rfl⟩
  have HN := Lib.hid hn
  rw [hn] at HL hl ⊢
  clear hn
  go_enter Tryz.func52, Tryz.ntmps52
  go_wp2_with fail
  go_loopw [5, 8] (fun _ v8 wr => ∃ i : Nat, i ≤ n ∧ v8 = .int .i64 i ∧ Hid (Ext w wr)) (fun _ v8 _ => n - (RowKit.intOf v8).toNat)
  case atStart => exact ⟨0, Nat.zero_le _, rfl, Ext.refl _⟩
  case round =>
    obtain ⟨i, hi, rfl, HX⟩ := hrel
    by_cases hin : i < n
    · have hil : i < l.length := by rw [HN.out]; exact hin
      obtain ⟨g, o, rfl, _, p0, p1, p2⟩ := FeL.get (Ls.ext FeR.stab HL.out HX.out) hil
      have hne := HB.out _ (List.getElem_mem hil)
      have CL := Lib.hid (fclosure_any l[i].1 l[i].2.1 l[i].2.2 b gf wr (Nat.lt_of_lt_of_le hg HX.out.size) (HCC.out wr HX.out))
      generalize l[i] = f at *
      clear hil
      obtain ⟨fa, fk, fm⟩ := f
      simp only at CL p0 p1 p2 hne
      have hnb : (fa == b) = false := by rw [beq_eq_false_iff_ne]; exact hne
      rw [hnb] at CL
      clear hne hnb
      go_wp2_with fail
      refine CL.out.mono ?_
      rintro e w1 ⟨rfl, hx⟩
      have HX1 := Lib.hid (HX.out.trans hx)
      clear p0 p1 p2 hx
      go_wp2_with fail
      go_roundw
      case rel => exact ⟨i + 1, by omega, by go_num, HX1⟩
      case measure => simp [RowKit.intOf]; omega
    · obtain rfl : i = n := by omega
      go_wp2
      go_ret
      exact ⟨rfl, HX.out⟩
set_option maxRecDepth 100000 in
theorem fcontains_any (A : Option Addr) (c : Nat) (l : List Fe) (gf : Nat) (b : Int) (w : World) (h : FeL w (.slice A l.length c) l) (hg : gf < w.heap.size) (hc : w.cell? ⟨gf, 0, none⟩ = some (.int .i64 b)) (hb : ∀ f ∈ l, f.1 ≠ b) (hl : l.length ≤ 1000) :
    Calls Tryz.prog 42 #[.slice A l.length c, .func (.func 43) #[] #[.pointer (some ⟨gf, 0, none⟩)]] w fun e w' => e = .returned (.bool false) ∧ Ext w w' := by
  have HI := Lib.hid (findex_any A c l gf b w h hg hc hb hl)
  clear h hb hc hg hl
  go_enter Tryz.func42, Tryz.ntmps42
  go_wp2_with fail
  refine HI.out.mono ?_
  rintro e w1 ⟨rfl, hx⟩
  go_wp2
  go_ret
  exact ⟨rfl, hx⟩
set_option maxRecDepth 100000 in
set_option maxHeartbeats 2000000 in
theorem features_any (v : Value) (x : Sch) (w : World) (h : SchV w v x) (ok : SchOk x) :
    Calls Tryz.prog 36 #[v] w fun e w' => e = .returned (.int .i64 0) ∧ Ext w w' := by
  obtain ⟨A, c, B, d, D, e, rfl, ha, _, hf⟩ := h
  have HA := Lib.hid ha
  have HF := Lib.hid hf
  have HOK := Lib.hid ok
  have hn12 := ok.a12
  have hf8 := ok.f8
  obtain ⟨-, -, hcm⟩ := cap_le ha
  obtain ⟨-, hec, hem⟩ := cap_le hf
  clear ha hf ok
  generalize x.rels.length = rl at *
  obtain ⟨lab, hlab⟩ : ∃ lab, x.label = lab := ⟨_, rfl⟩
  have HLAB := Lib.hid hlab
  rw [hlab]
  clear hlab
  obtain ⟨N, hN⟩ : ∃ N, x.atts.length = N := ⟨_, rfl⟩
  have HN := Lib.hid hN
  rw [hN] at HA hn12 ⊢
  clear hN
  obtain ⟨M, hM⟩ : ∃ M, x.feats.length = M := ⟨_, rfl⟩
  have HM := Lib.hid hM
  rw [hM] at HF hf8 hec ⊢
  clear hM
  go_enter Tryz.func36, Tryz.ntmps36
  go_upto_region 1 with fail
  refine box1 (P := fun W => Code.wp _ _ _ _ W) fun W HXW BX => ?_
  have hc0 := BX.out.cell (i := 2) rfl
  go_upto_region 2 with fail
  go_loopw [3, 4, 5, 6, 7, 11] (fun _ _ _ _ _ v11 wr => ∃ i : Nat, i ≤ M ∧ v11 = .int .i64 i ∧ Hid (Ext W wr)) (fun _ _ _ _ _ v11 _ => M - (RowKit.intOf v11).toNat)
  case atStart => exact ⟨0, Nat.zero_le _, rfl, Ext.refl _⟩
  case round =>
    clear hc0
    obtain ⟨i, hi, rfl, HXr⟩ := hrel
    by_cases hiM : i < M
    · have hil : i < x.feats.length := by rw [HM.out]; exact hiM
      obtain ⟨g, o, rfl, _, p0, p1, p2⟩ := FeL.get (Ls.ext FeR.stab HF.out (HXW.out.trans HXr.out)) hil
      have hmem := List.getElem_mem hil
      have hfl := HOK.out.fl _ hmem
      rw [HLAB.out] at hfl
      obtain ⟨h0, a, hq, hkd⟩ := HOK.out.fo _ hmem
      have HNE : Hid (∀ f ∈ x.feats.take i, f.1 ≠ x.feats[i].1) := fun f hfm => by
        obtain ⟨j, hj, rfl⟩ := List.getElem_of_mem hfm
        rw [List.length_take] at hj
        rw [List.getElem_take]
        exact List.pairwise_iff_getElem.1 HOK.out.fd j i (by omega) hil (by omega)
      clear hmem
      generalize x.feats[i] = f at *
      clear hil
      obtain ⟨fa, fk, fm⟩ := f
      simp only at p0 p1 p2 hfl h0 hq hkd HNE
      obtain ⟨q, rfl⟩ : ∃ q : Nat, fa = (q : Int) := ⟨fa.toNat, by omega⟩
      rw [Int.toNat_natCast] at hq
      obtain ⟨hqN, hqe⟩ := List.getElem?_eq_some_iff.1 hq
      have HCA : Hid (∃ ga oa, A = some ⟨ga, oa, none⟩ ∧ ∀ w', Ext w w' → w'.cell? ⟨ga, oa + q * 2 + 1, none⟩ = some (.int .i64 a.2)) := by
        obtain ⟨ga, oa, e, _, _, _⟩ := AL.get HA.out hqN
        refine ⟨ga, oa, e, fun w' hx => ?_⟩
        obtain ⟨g', o', e', _, _, h⟩ := AL.get (Ls.ext AttR.stab HA.out hx) hqN
        rw [e] at e'
        injection e' with e'
        injection e' with e1 e2
        subst e1 e2
        rw [hqe] at h
        exact h
      obtain ⟨ga, oa, rfl, hca⟩ := HCA.out
      have HCA' := Lib.hid hca
      have hqN' : q < N := by rw [← HN.out]; exact hqN
      have hqlab : ((q : Int) == lab) = false := by rw [beq_eq_false_iff_ne]; exact hfl
      have hq0 : decide ((q : Int) < 0) = false := decide_eq_false (by omega)
      have hqN'' : decide (N ≤ q) = false := decide_eq_false (by omega)
      clear hca HCA hq hqe hfl h0 hqN
      go_upto_region 4 with fail
      refine box1 (P := fun W => Code.wp _ _ _ _ W) fun W3 HX3 BF => ?_
      have HX3' := Lib.hid (HXr.out.trans HX3.out)
      have BX3 := Lib.hid (BX.out.ext HX3'.out)
      obtain ⟨s0, s1, s2, s3⟩ := BX3.out.four
      have b0 := BF.out.cell (i := 0) rfl
      have b1 := BF.out.cell (i := 1) rfl
      have b2 := BF.out.cell (i := 2) rfl
      have hak := HCA'.out W3 (HXW.out.trans HX3'.out)
      have HFT := Lib.hid (Ls.upto FeR.three (Ls.ext FeR.stab HF.out (HXW.out.trans HX3'.out)) (i := i) (by rw [HM.out]; omega))
      have hlt : (x.feats.take i).length = i := by rw [List.length_take, HM.out]; omega
      have FC : Hid (Calls Tryz.prog 42 #[.slice (some ⟨g, o, none⟩) i e, .func (.func 43) #[] #[.pointer (some ⟨wr.heap.size, 0, none⟩)]] W3 fun e w' => e = .returned (.bool false) ∧ Ext W3 w') := by
        have h := fcontains_any (some ⟨g, o, none⟩) e (x.feats.take i) wr.heap.size q W3 (by rw [hlt]; exact HFT.out) BF.out.lt b0 HNE.out (by omega)
        rw [hlt] at h
        exact h
      have hie : i ≤ e := by omega
      clear p0 p1 p2 HFT hlt HNE HCA'
      generalize a.2 = kd at *
      rcases hkd with ⟨rfl, rfl, rfl | rfl⟩ | ⟨rfl, rfl, rfl⟩
      · skip
        go_wp2_with fail
        refine FC.out.mono ?_
        rintro e w4 ⟨rfl, hx4⟩
        have HX4 := Lib.hid (HX3'.out.trans hx4)
        clear s0 s1 s2 s3 b0 b1 b2 hak hx4
        go_wp2_with fail
        go_roundw
        case rel => exact ⟨i + 1, by omega, by go_num, HX4⟩
        case measure => simp [RowKit.intOf]; omega
      · skip
        go_wp2_with fail
        refine FC.out.mono ?_
        rintro e w4 ⟨rfl, hx4⟩
        have HX4 := Lib.hid (HX3'.out.trans hx4)
        clear s0 s1 s2 s3 b0 b1 b2 hak hx4
        go_wp2_with fail
        go_roundw
        case rel => exact ⟨i + 1, by omega, by go_num, HX4⟩
        case measure => simp [RowKit.intOf]; omega
      · skip
        go_wp2_with fail
        refine FC.out.mono ?_
        rintro e w4 ⟨rfl, hx4⟩
        have HX4 := Lib.hid (HX3'.out.trans hx4)
        clear s0 s1 s2 s3 b0 b1 b2 hak hx4
        go_wp2_with fail
        go_roundw
        case rel => exact ⟨i + 1, by omega, by go_num, HX4⟩
        case measure => simp [RowKit.intOf]; omega
    · obtain rfl : i = M := by omega
      go_wp2
      go_ret
      exact ⟨rfl, HXW.out.trans HXr.out⟩
end Go.Proofs.YthalpbjkkfkheaaGreatDoor
