/- schema.Word, named, attributes, relations, features, Check at valid schemas. -/
import Derived.Test.YthalpbjkkfkheaaGreatDoorSch
import Derived.Test.YthalpbjkkfkheaaGreatDoorShelf
namespace Go.Proofs.YthalpbjkkfkheaaGreatDoor
open Go.RowKit Go.Lib

set_option maxRecDepth 100000 in
set_option maxHeartbeats 1000000 in
theorem word_any (s : List UInt8) (w : World) (h : WordT s) :
    Calls Tryz.prog 49 #[.string ⟨s.toArray⟩] w fun e w' => e = .returned (.bool true) ∧ Ext w w' := by
  obtain ⟨h1, h12, hf, ha⟩ := h
  have HF := Lib.hid hf
  have HA := Lib.hid ha
  clear hf ha
  obtain ⟨W, cap, hcv, HX, HSl⟩ := conv_bytes s w
  have HXW := Lib.hid HX
  have HS := Lib.hid HSl
  clear HX HSl
  go_enter Tryz.func49, Tryz.ntmps49
  go_wp2
  go_loopw [3, 4, 5, 9] (fun _ _ _ v9 wr => ∃ i : Nat, i ≤ s.length ∧ v9 = .int .i64 i ∧ Hid (Ext W wr)) (fun _ _ _ v9 _ => s.length - (RowKit.intOf v9).toNat)
  case atStart => exact ⟨0, Nat.zero_le _, rfl, Ext.refl _⟩
  case round =>
    obtain ⟨i, hi, rfl, HXr⟩ := hrel
    by_cases hil : i < s.length
    · obtain ⟨g, o, e, _, hcell⟩ := (HS.out.ext HXr.out).at_ (k := i) (u := .int .u8 s[i].toNat) (byteCells_get hil)
      injection e with e
      injection e with e1 e2
      subst e1 e2
      rw [Nat.zero_add] at hcell
      have hw := HA.out _ (List.getElem_mem hil)
      have h0 : i = 0 → letterB s[i] := fun e => by subst e; exact HF.out _ (List.getElem?_eq_getElem hil)
      generalize s[i] = c at *
      have hn : (97 ≤ c.toNat ∧ c.toNat ≤ 122) ∨ (¬ (97 ≤ c.toNat ∧ c.toNat ≤ 122) ∧ i ≠ 0 ∧ (c.toNat = 45 ∨ (48 ≤ c.toNat ∧ c.toNat ≤ 57))) := by
        by_cases hl : 97 ≤ c.toNat ∧ c.toNat ≤ 122
        · exact .inl hl
        · refine .inr ⟨hl, fun e => hl ?_, ?_⟩
          · have := h0 e
            exact ⟨UInt8.le_iff_toNat_le.1 this.1, UInt8.le_iff_toNat_le.1 this.2⟩
          · rcases hw with hw | hw | hw
            · exact absurd ⟨UInt8.le_iff_toNat_le.1 hw.1, UInt8.le_iff_toNat_le.1 hw.2⟩ hl
            · exact .inr ⟨UInt8.le_iff_toNat_le.1 hw.1, UInt8.le_iff_toNat_le.1 hw.2⟩
            · exact .inl (by rw [hw]; rfl)
      clear hw h0
      generalize c.toNat = n at *
      rcases hn with ⟨h2, h3⟩ | ⟨h2, h3, h4⟩
      · have d1 : decide ((n : Int) ≥ 97) = true := decide_eq_true (by omega)
        have d2 : decide ((n : Int) ≤ 122) = true := decide_eq_true (by omega)
        go_wp2
        go_roundw
        case rel => exact ⟨i + 1, by omega, by go_num, HXr⟩
        case measure => simp [RowKit.intOf]; omega
      · have hi0 : ((i : Int) == 0) = false := by rw [beq_eq_false_iff_ne]; omega
        by_cases d1' : 97 ≤ n
        · have d1 : decide ((n : Int) ≥ 97) = true := decide_eq_true (by omega)
          have d2 : decide ((n : Int) ≤ 122) = false := decide_eq_false (by omega)
          exfalso; omega
        · have d1 : decide ((n : Int) ≥ 97) = false := decide_eq_false (by omega)
          rcases h4 with rfl | ⟨h4, h5⟩
          · go_wp2
            go_roundw
            case rel => exact ⟨i + 1, by omega, by go_num, HXr⟩
            case measure => simp [RowKit.intOf]; omega
          · have d3 : ((n : Int) != 45) = true := by rw [bne_iff_ne]; omega
            have d4 : decide ((n : Int) < 48) = false := decide_eq_false (by omega)
            have d5 : decide ((n : Int) > 57) = false := decide_eq_false (by omega)
            go_wp2
            go_roundw
            case rel => exact ⟨i + 1, by omega, by go_num, HXr⟩
            case measure => simp [RowKit.intOf]; omega
    · obtain rfl : i = s.length := by omega
      have d1 : decide (s.length ≤ 12) = true := decide_eq_true h12
      have d2 : decide (s.length ≥ 1) = true := decide_eq_true h1
      have d3 : decide ((s.length : Int) ≤ 12) = true := decide_eq_true (by omega)
      have d4 : decide ((s.length : Int) ≥ 1) = true := decide_eq_true (by omega)
      go_wp2
      go_ret
      exact ⟨rfl, HXW.out.trans HXr.out⟩
/-- texts -/
def TxR (_ : World) (c : List Value) (x : List UInt8) : Prop := c = [.string ⟨x.toArray⟩]
theorem TxR.stab : Stab [] TxR := fun _ _ _ _ _ h => h
theorem TxR.one (w : World) (c : List Value) (x : List UInt8) (h : TxR w c x) : c.length = 1 := by rw [h]; rfl
abbrev TxL := Ls tStr TxR
theorem TxL.get {w : World} {A : Option Addr} {n c : Nat} {l : List (List UInt8)} (h : TxL w (.slice A n c) l) {i : Nat} (hi : i < l.length) :
    ∃ g o, A = some ⟨g, o, none⟩ ∧ g < w.heap.size ∧ w.cell? ⟨g, o + i, none⟩ = some (.string ⟨l[i].toArray⟩) := by
  obtain ⟨g, o, d, h1, h2, h3, h4⟩ := Ls.get TxR.one (by decide) h hi
  rw [show d = _ from h3] at h4
  have := h4 0 _ rfl
  rw [Nat.mul_one, Nat.add_zero] at this
  exact ⟨g, o, h1, h2, this⟩
theorem str_inj {a b : List UInt8} (h : (⟨a.toArray⟩ : ByteArray) = ⟨b.toArray⟩) : a = b := by
  injection h with h
  exact List.toArray_inj h
theorem str_slice : SliceTy Tryz.prog 42 tStr 1 16 := .mk' (z := .string ⟨#[]⟩) (by kernel_rfl) (by kernel_rfl) rfl (by decide) (by decide)
set_option maxRecDepth 100000 in
set_option maxHeartbeats 1000000 in
theorem named_any (A : Option Addr) (c : Nat) (l : List (List UInt8)) (i : Nat) (w : World) (h : TxL w (.slice A l.length c) l) (hi : i < l.length) (hw : WordT l[i]) (hn : l[i] ∉ l.take i) (_hl : l.length ≤ 1000) :
    Calls Tryz.prog 40 #[.slice A l.length c, .int .i64 i] w fun e w' => e = .returned (.int .i64 0) ∧ Ext w w' := by
  obtain ⟨-, hlc, hcm⟩ := cap_le h
  obtain ⟨g, o, rfl, hg, hcell⟩ := TxL.get h hi
  have HL := Lib.hid h
  have HW := Lib.hid hw
  have CO : Hid (∀ w', Ext w w' → Calls Tryz.prog 50 #[.slice (some ⟨g, o, none⟩) i c, .string ⟨l[i].toArray⟩] w' fun e w'' => e = .returned (.bool false) ∧ Ext w' w'') := fun w' hx => by
    refine (Tryz.slices_Contains_string g o i c (l.map fun t => ⟨t.toArray⟩) ⟨l[i].toArray⟩ w' (by rw [List.length_map]; omega) (by omega) (fun j hj => ?_)).mono fun e w'' h => ?_
    · rw [List.length_map] at hj
      obtain ⟨g', o', e, _, hc⟩ := TxL.get (Ls.ext TxR.stab HL.out hx) hj
      injection e with e
      injection e with e1 e2
      subst e1 e2
      rw [hc, List.getD_eq_getElem?_getD, List.getElem?_map, List.getElem?_eq_getElem hj]
      rfl
    · obtain ⟨h1, h2⟩ := h
      rw [h2, h1]
      refine ⟨?_, Ext.refl _⟩
      congr 2
      rw [Bool.eq_false_iff]
      intro hc
      rw [Lib.containsS_iff, ← List.map_take, List.mem_map] at hc
      obtain ⟨t, ht, e⟩ := hc
      rw [← str_inj e] at hn
      exact hn ht
  have WD : Hid (∀ w', Calls Tryz.prog 49 #[.string ⟨l[i].toArray⟩] w' fun e w'' => e = .returned (.bool true) ∧ Ext w' w'') := fun w' => word_any _ w' HW.out
  clear hw hn h
  generalize l[i] = t at *
  generalize l.length = n at *
  have hic : i ≤ c := by omega
  have hcl : Hid (w.cell? ⟨g, o + i, none⟩ = some (.string ⟨t.toArray⟩)) := hcell
  go_enter Tryz.func40, Tryz.ntmps40
  go_wp2_with fail
  refine (WD.out w).mono ?_
  rintro e w1 ⟨rfl, hx1⟩
  go_upto_region 3 with fail
  have HSI : Hid (∀ w', Ext w1 w' → w'.cell? ⟨g, o + i, none⟩ = some (.string ⟨t.toArray⟩)) := fun w' hx => ((hx1.trans hx).cell (p := ⟨g, o + i, none⟩) hg).trans hcl.out
  have HS0 : Hid (Ext w1 w1.drew) := (Ext.refl w1).drew
  refine AnyT.start (S := fun w' => Ext w1 w') (T := fun _ => false) (by kernel_rfl) ?_
  refine AnyT.ld 0 13 ?_ _ rfl rfl (by kernel_rfl) (fun _ _ _ h => h) HS0.out rfl ?_ ?_
  rotate_left
  focus (intro w' hSw; have hs := HSI.out w' hSw; go_split_ands; go_simp; try (first | exact rfl | omega | go_num | (intro hbd; exfalso; omega)))
  simp only [Act.put, List.setIfInBounds_toArray, List.set_cons_zero, List.set_cons_succ]
  refine AnyT.ld 1 14 ?_ _ rfl rfl (by kernel_rfl) (fun _ _ _ h => h) HS0.out rfl ?_ ?_
  rotate_left
  focus (intro w' hSw; have hs := HSI.out w' hSw; go_split_ands; go_simp; try (first | exact rfl | omega | go_num | (intro hbd; exfalso; omega)))
  simp only [Act.put, List.setIfInBounds_toArray, List.set_cons_zero, List.set_cons_succ]
  refine AnyT.ld 2 15 (.slice (some ⟨g, o, none⟩) i c) _ rfl rfl (by kernel_rfl) (fun _ _ _ h => h) HS0.out rfl ?_ ?_
  focus (intro w' hSw; have hs := HSI.out w' hSw; go_split_ands; go_simp; try (first | exact rfl | omega | go_num | (intro hbd; exfalso; omega)))
  simp only [Act.put, List.setIfInBounds_toArray, List.set_cons_zero, List.set_cons_succ]
  refine AnyT.ld 3 16 ?_ _ rfl rfl (by kernel_rfl) (fun _ _ _ h => h) HS0.out rfl ?_ ?_
  rotate_left
  focus (intro w' hSw; have hs := HSI.out w' hSw; go_split_ands; go_simp; try (first | exact rfl | omega | go_num | (intro hbd; exfalso; omega)))
  simp only [Act.put, List.setIfInBounds_toArray, List.set_cons_zero, List.set_cons_succ]
  refine AnyT.ld 4 17 ?_ _ rfl rfl (by kernel_rfl) (fun _ _ _ h => h) HS0.out rfl ?_ ?_
  rotate_left
  focus (intro w' hSw; have hs := HSI.out w' hSw; go_split_ands; go_simp; try (first | exact rfl | omega | go_num | (intro hbd; exfalso; omega)))
  simp only [Act.put, List.setIfInBounds_toArray, List.set_cons_zero, List.set_cons_succ]
  refine AnyT.ld 5 18 ?_ _ rfl rfl (by kernel_rfl) (fun _ _ _ h => h) HS0.out rfl ?_ ?_
  rotate_left
  focus (intro w' hSw; have hs := HSI.out w' hSw; go_split_ands; go_simp; try (first | exact rfl | omega | go_num | (intro hbd; exfalso; omega)))
  simp only [Act.put, List.setIfInBounds_toArray, List.set_cons_zero, List.set_cons_succ]
  refine AnyT.ld 6 19 ?_ _ rfl rfl (by kernel_rfl) (fun _ _ _ h => h) HS0.out rfl ?_ ?_
  rotate_left
  focus (intro w' hSw; have hs := HSI.out w' hSw; go_split_ands; go_simp; try (first | exact rfl | omega | go_num | (intro hbd; exfalso; omega)))
  simp only [Act.put, List.setIfInBounds_toArray, List.set_cons_zero, List.set_cons_succ]
  refine AnyT.step 7 (by kernel_rfl) ?_
  intro o ho K hK
  simp only [List.getElem?_toArray, List.getElem?_cons_succ, List.getElem?_cons_zero, Option.some.injEq] at ho
  subst ho
  go_simp
  refine (CO.out _ (hx1.trans HS0.out)).mono ?_
  rintro e w2 ⟨rfl, hx2⟩
  have hy2 := HS0.out.trans hx2
  refine hK.out _ _ (fun _ => hy2) ?_
  clear HS0
  have HS0 := Lib.hid hy2
  refine AnyT.ld 8 12 ?_ _ rfl rfl (by kernel_rfl) (fun _ _ _ h => h) HS0.out rfl ?_ ?_
  rotate_left
  focus (intro w' hSw; have hs := HSI.out w' hSw; go_split_ands; go_simp; try (first | exact rfl | omega | go_num | (intro hbd; exfalso; omega)))
  simp only [Act.put, List.setIfInBounds_toArray, List.set_cons_zero, List.set_cons_succ]
  refine AnyT.done (by kernel_rfl) ?_
  go_wp2
  go_ret
  exact ⟨rfl, hx1.trans hy2⟩
theorem ne_take {ns : List (List UInt8)} (h : ns.Pairwise fun a b => a ≠ b) {i : Nat} (hi : i < ns.length) : ns[i] ∉ ns.take i := by
  intro hm
  obtain ⟨j, hj, e⟩ := List.getElem_of_mem hm
  rw [List.length_take] at hj
  rw [List.getElem_take] at e
  exact List.pairwise_iff_getElem.1 h j i (by omega) hi (by omega) e
/-- the names up to number i -/
theorem named_take (A : Option Addr) (c : Nat) (ns : List (List UInt8)) (i : Nat) (w : World) (h : TxL w (.slice A (i + 1) c) (ns.take (i + 1))) (hi : i < ns.length) (hw : ∀ t ∈ ns, WordT t) (hn : ns.Pairwise fun a b => a ≠ b) (hl : ns.length ≤ 1000) :
    Calls Tryz.prog 40 #[.slice A (i + 1) c, .int .i64 i] w fun e w' => e = .returned (.int .i64 0) ∧ Ext w w' := by
  have e : (ns.take (i + 1)).length = i + 1 := by rw [List.length_take]; omega
  have e2 : (ns.take (i + 1))[i]'(by omega) = ns[i] := List.getElem_take
  have hx := named_any A c (ns.take (i + 1)) i w (by rw [e]; exact h) (by omega) (by rw [e2]; exact hw _ (List.getElem_mem hi)) (by rw [e2, List.take_take, Nat.min_eq_left (by omega)]; exact ne_take hn hi) (by omega)
  rw [e] at hx
  exact hx
theorem take_snoc {α : Type} {l : List α} {i : Nat} (h : i < l.length) : l.take (i + 1) = l.take i ++ [l[i]] := List.take_succ_eq_append_getElem h
/-- a block beside a row that grows -/
theorem blkO {w w' : World} {g : Nat} {t : TypeId} {l : List Value} {v : Value} (hB : Blk w g t l) (hg : w.grownBy w' v.ownBlock) (hne : v.ownBlock ≠ some g) : Blk w' g t l :=
  (hg.block g hB.lt (fun h => hne h.symm)).trans hB
set_option maxRecDepth 100000 in
set_option maxHeartbeats 1000000 in
theorem attributes_any (v : Value) (x : Sch) (w : World) (h : SchV w v x) (ok : SchOk x) :
    Calls Tryz.prog 34 #[v] w fun e w' => e = .returned (.int .i64 0) ∧ Ext w w' := by
  obtain ⟨A, c, B, d, D, e, rfl, ha, _, _⟩ := h
  have HA := Lib.hid ha
  have HOK := Lib.hid ok
  have hn12 := ok.a12
  obtain ⟨-, -, hcm⟩ := cap_le ha
  obtain ⟨ns, hns⟩ : ∃ ns, x.atts.map (·.1) = ns := ⟨_, rfl⟩
  have HNL : Hid (ns.length = x.atts.length) := by rw [Hid, ← hns, List.length_map]
  have HNG : Hid (∀ i (h : i < x.atts.length), ns[i]? = some x.atts[i].1) := fun i h => by rw [← hns, List.getElem?_map, List.getElem?_eq_getElem h]; rfl
  have HNW : Hid (∀ t ∈ ns, WordT t) := fun t ht => by
    rw [← hns] at ht
    obtain ⟨y, hy, rfl⟩ := List.mem_map.1 ht
    exact ok.aw y hy
  have HND : Hid (ns.Pairwise fun a b => a ≠ b) := by
    rw [Hid, ← hns, List.pairwise_map]
    exact ok.ad
  clear ha ok hns
  generalize x.rels.length = rl at *
  generalize x.feats.length = fl at *
  generalize x.label = lab at *
  obtain ⟨N, hN⟩ : ∃ N, x.atts.length = N := ⟨_, rfl⟩
  have HN := Lib.hid hN
  rw [hN] at HA hn12 HNL ⊢
  clear hN
  go_enter Tryz.func34, Tryz.ntmps34
  go_upto_region 2 with fail
  refine box1 (P := fun W => Code.wp _ _ _ _ W) fun W HXW BX => ?_
  have hc0 := BX.out.cell (i := 0) rfl
  go_upto_region 3 with fail
  go_loopw [3, 4, 5, 6, 10] (fun v3 _ _ _ v10 wr => ∃ i : Nat, i ≤ N ∧ v10 = .int .i64 i ∧ Hid (OwnL tStr 1 TxR W.heap.size wr v3 (ns.take i)) ∧ Hid (Ext W wr)) (fun _ _ _ _ v10 _ => N - (RowKit.intOf v10).toNat)
  case atStart => exact ⟨0, Nat.zero_le _, rfl, OwnL.nil, Ext.refl _⟩
  case round =>
    obtain ⟨i, hi, rfl, HO, HXr⟩ := hrel
    by_cases hiN : i < N
    · have hil : i < x.atts.length := by rw [HN.out]; exact hiN
      obtain ⟨g, o, rfl, _, hp1, hp2⟩ := AL.get (Ls.ext AttR.stab HA.out (HXW.out.trans HXr.out)) hil
      have hk := HOK.out.ak _ (List.getElem_mem hil)
      have hin : i < ns.length := by rw [HNL.out]; exact hiN
      have hng : ns[i] = x.atts[i].1 := by
        have h := HNG.out i hil
        rw [List.getElem?_eq_getElem hin] at h
        injection h
      have HTK := Lib.hid (take_snoc hin)
      rw [hng] at HTK
      have NM := Lib.hid (fun A c w' h => named_take A c ns i w' h hin HNW.out HND.out (by rw [HNL.out]; omega))
      clear hng
      generalize x.atts[i] = at_ at *
      clear hil hin
      obtain ⟨nm, kd⟩ := at_
      simp only at hp1 hp2 hk HTK
      have hlt : (ns.take i).length = i := by rw [List.length_take, HNL.out]; omega
      obtain ⟨A3, c3, xs, rfl, _, _, HR, HC⟩ := HO.out.parts
      rw [hlt] at HR ⊢
      clear hlt
      go_upto_region 5 with fail
      refine box1 (P := fun W => Code.wp _ _ _ _ W) fun W3 HX3 BA => ?_
      have HR3 := Lib.hid (own_ext HR.out HX3.out)
      have hne : (Value.slice A3 i c3).ownBlock ≠ some wr.heap.size := fun hh => by have := (HR.out.lt _ hh).2; omega
      have HX3' := Lib.hid (HXr.out.trans HX3.out)
      have hw3 : W.heap.size ≤ W3.heap.size := HX3'.out.size
      have hbt : (i + 1) * 16 ≤ 140737488355328 := by omega
      have hq0 := BA.out.cell (i := 0) rfl
      clear hp1 hp2 HR HX3
      go_wp2_with (at_builtin; refine wpList_app1 rfl _ _ 42 rfl W.heap.size str_slice _ _ _ rfl HR3.out #[.string ⟨nm.toArray⟩] 1 1 rfl rfl rfl hbt hw3 ?_)
      intro v' w4 ho4 hg4 _
      obtain ⟨A4, c4, rfl, _, _, _⟩ := own_parts ho4
      have BA4 := Lib.hid (blkO BA.out hg4 hne)
      have O4 : Hid (OwnL tStr 1 TxR W.heap.size w4 (.slice A4 (i + 1) c4) (ns.take (i + 1))) := by
        rw [HTK.out]
        exact OwnL.snoc (R := TxR) TxR.stab (fun u hu => by cases hu) (by rw [List.length_take, HNL.out, Nat.min_eq_left hi]; exact HR3.out) (HC.out.mono fun c x hc => TxR.stab _ _ _ _ (fun _ hu => by cases hu) hc) rfl (by rw [List.length_take, HNL.out, Nat.min_eq_left hi]; exact ho4) hg4
      have HX4 := Lib.hid (HX3'.out.grownO HR3.out hg4)
      have hls : TxL w4 (.slice A4 (i + 1) c4) (ns.take (i + 1)) := O4.out.ls
      have NM4 := Lib.hid (NM.out A4 c4 w4 hls)
      clear ho4 hg4 hls hq0 HR3 BA
      go_wp2_with fail
      refine NM4.out.mono ?_
      rintro e w5 ⟨rfl, hx5⟩
      have BA5 := Lib.hid (BA4.out.ext hx5)
      have hq1 := BA5.out.cell (i := 1) rfl
      have O5 := Lib.hid (O4.out.ext TxR.stab hx5)
      have HX5 := Lib.hid (HX4.out.trans hx5)
      have hk1 : decide (kd < 1) = false := decide_eq_false (by omega)
      have hk3 : decide (kd > 3) = false := decide_eq_false (by omega)
      clear hx5 O4 HX4
      go_wp2
      go_roundw
      case rel => exact ⟨i + 1, by omega, by go_num, O5, HX5⟩
      case measure => simp [RowKit.intOf]; omega
    · obtain rfl : i = N := by omega
      go_wp2
      go_ret
      exact ⟨rfl, HXW.out.trans HXr.out⟩
end Go.Proofs.YthalpbjkkfkheaaGreatDoor
