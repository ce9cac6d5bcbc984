/- schema.relations and schema.Check at valid schemas. -/
import Derived.Test.YthalpbjkkfkheaaGreatDoorSchf
namespace Go.Proofs.YthalpbjkkfkheaaGreatDoor
open Go.RowKit Go.Lib

theorem bool_info : (Tryz.prog.info? tBool).map (fun i => (i.zero, i.size, i.bytes)) = some (some (.bool false), 1, 1) := by kernel_rfl
theorem make_bools (n : Nat) (h : n ≤ 1000000) (w : World) :
    (Instr.makeSlice 71 (.int .i64 (n : Int)) (.int .i64 (n : Int))).run Tryz.prog w = .ok (.slice (some ⟨w.heap.size, 0, none⟩) n n) (w.alloc (.cells (List.replicate n (.bool false)).toArray tBool)) := by
  obtain ⟨i0, hi, hz0, hz1, hz2⟩ := info_parts bool_info
  have hr := run_make (P := Tryz.prog) w 71 tBool i0 (.bool false) Tryz.underlying71 hi hz0 .i64 .i64 (n : Int) (n : Int) (by omega) (Int.le_refl _) (by rw [hz2]; omega) (by omega)
  simp only [Int.toNat_natCast, hz1, Value.cells, Nat.mul_one] at hr
  rw [hr, ← madeCells_one]
/-- a row of bits -/
def bits_ (bs : List Bool) : List Value := bs.map Value.bool
theorem bits_set (bs : List Bool) (a : Nat) : (bits_ bs).set a (.bool true) = bits_ (bs.set a true) := by simp [bits_, List.map_set]
theorem bits_all {bs : List Bool} {n : Nat} (hn : bs.length = n) (h : ∀ a, a < n → bs[a]? = some true) : bits_ bs = List.replicate n (.bool true) := by
  have e : bs = List.replicate n true := by
    apply List.ext_getElem?
    intro i
    rcases Nat.lt_or_ge i n with hi | hi
    · rw [h i hi]
      simp [hi]
    · rw [List.getElem?_eq_none (by omega), List.getElem?_eq_none (by simp; omega)]
  rw [e, bits_, List.map_replicate]
/-- what is used so far -/
def Us (bs : List Bool) (n : Nat) (l : List Int) : Prop := bs.length = n ∧ ∀ a ∈ l, bs[a.toNat]? = some true
theorem Us.set {bs : List Bool} {n : Nat} {l : List Int} (h : Us bs n l) {q : Nat} (hq : q < n) : Us (bs.set q true) n (l ++ [(q : Int)]) := by
  refine ⟨by rw [List.length_set]; exact h.1, fun a ha => ?_⟩
  have h1 := h.1
  rcases List.mem_append.1 ha with ha | ha
  · have := h.2 a ha
    rw [List.getElem?_set]
    split
    · rw [if_pos (by omega)]
    · exact this
  · rw [List.mem_singleton.1 ha, Int.toNat_natCast, List.getElem?_set, if_pos rfl, if_pos (by omega)]
set_option maxRecDepth 100000 in
set_option maxHeartbeats 2000000 in
theorem relations_any (v : Value) (x : Sch) (w : World) (h : SchV w v x) (ok : SchOk x) :
    Calls Tryz.prog 35 #[v] w fun e w' => e = .returned (.int .i64 0) ∧ Ext w w' := by
  obtain ⟨A, c, B, d, D, e, rfl, _, hr, _⟩ := h
  have HR := Lib.hid hr
  have HOK := Lib.hid ok
  have hn12 := ok.a12
  have hr6 := ok.r6
  obtain ⟨-, hec, hem⟩ := cap_le hr
  obtain ⟨ns, hns⟩ : ∃ ns, x.rels.map (·.1) = ns := ⟨_, rfl⟩
  have HNL : Hid (ns.length = x.rels.length) := by rw [Hid, ← hns, List.length_map]
  have HNG : Hid (∀ i (h : i < x.rels.length), ns[i]? = some x.rels[i].1) := fun i h => by rw [← hns, List.getElem?_map, List.getElem?_eq_getElem h]; rfl
  have HNW : Hid (∀ t ∈ ns, WordT t) := fun t ht => by
    rw [← hns] at ht
    obtain ⟨y, hy, rfl⟩ := List.mem_map.1 ht
    exact ok.rw' y hy
  have HND : Hid (ns.Pairwise fun a b => a ≠ b) := by
    rw [Hid, ← hns, List.pairwise_map]
    exact ok.rd
  clear hr ok hns
  generalize x.feats.length = fl at *
  generalize x.label = lab at *
  obtain ⟨N, hN⟩ : ∃ N, x.atts.length = N := ⟨_, rfl⟩
  have HN := Lib.hid hN
  rw [hN] at hn12 ⊢
  clear hN
  obtain ⟨R, hRR⟩ : ∃ R, x.rels.length = R := ⟨_, rfl⟩
  have HRN := Lib.hid hRR
  rw [hRR] at HR HNL hr6 hec ⊢
  clear hRR
  go_enter Tryz.func35, Tryz.ntmps35
  go_upto_region 1 with fail
  refine box1 (P := fun W => Code.wp _ _ _ _ W) fun W HXW BX => ?_
  have hc0 := BX.out.cell (i := 0) rfl
  have hmk := make_bools N (by omega) W
  go_upto_region 3 with fail
  refine box1 (P := fun W => Code.wp _ _ _ _ W) fun W2 HX2 BU => ?_
  clear hmk hc0
  have BX2 := Lib.hid (BX.out.ext HX2.out)
  have hc1 := BX2.out.cell (i := 1) rfl
  have hgx : w.heap.size < W.heap.size := BX.out.lt
  have hgu : W.heap.size < W2.heap.size := BU.out.lt
  have HXX := Lib.hid (HXW.out.trans HX2.out)
  have HU0 : Hid (Us (List.replicate N false) N []) := ⟨by simp, fun a h => by cases h⟩
  have BU0 : Hid (Blk W2 W.heap.size tBool (bits_ (List.replicate N false))) := by rw [bits_, List.map_replicate]; exact BU.out
  clear BU BX HXW HX2
  go_upto_region 4 with fail
  go_loopw [3, 5, 6, 7, 9, 10, 18] (fun v3 _ _ _ _ _ v18 wr => ∃ (i : Nat) (bs : List Bool), i ≤ R ∧ v18 = .int .i64 i ∧ Hid (OwnL tStr 1 TxR W2.heap.size wr v3 (ns.take i)) ∧ Hid (Us bs N ((x.rels.take i).flatMap (·.2))) ∧ Hid (Blk wr W.heap.size tBool (bits_ bs)) ∧ Hid (Blk wr w.heap.size tSch [.slice A N c, .slice B R d, .slice D fl e, .int .i64 lab]) ∧ Hid (Ext w wr) ∧ W2.heap.size ≤ wr.heap.size) (fun _ _ _ _ _ _ v18 _ => R - (RowKit.intOf v18).toNat)
  case atStart => exact ⟨0, _, Nat.zero_le _, rfl, OwnL.nil, HU0, BU0, BX2, HXX, Nat.le_refl _⟩
  case round =>
    clear hc1 HU0 BU0 BX2 HXX
    obtain ⟨i, bs, hi, rfl, HO, HU, BU, BX, HXr, hwr⟩ := hrel
    by_cases hiR : i < R
    · have hil : i < x.rels.length := by rw [HRN.out]; exact hiR
      obtain ⟨g, o, Bi, mi, di, rfl, _, hp1, hp2, hIL⟩ := RlL.get (Ls.ext RlR.stab HR.out HXr.out) hil
      have hmem := List.getElem_mem hil
      have hne := HOK.out.rn _ hmem
      have HRI := Lib.hid (HOK.out.ri _ hmem)
      have HRA := Lib.hid (HOK.out.ra _ hmem)
      have hin : i < ns.length := by rw [HNL.out]; exact hiR
      have hng : ns[i] = x.rels[i].1 := by
        have h := HNG.out i hil
        rw [List.getElem?_eq_getElem hin] at h
        injection h
      have HTK := Lib.hid (take_snoc hin)
      rw [hng] at HTK
      have HFM : Hid ((x.rels.take (i + 1)).flatMap (·.2) = (x.rels.take i).flatMap (·.2) ++ x.rels[i].2) := by
        rw [Hid, take_snoc hil, List.flatMap_append, List.flatMap_singleton]
      have NM := Lib.hid (fun A c w' h => named_take A c ns i w' h hin HNW.out HND.out (by rw [HNL.out]; omega))
      rw [HN.out] at HRI
      clear hng hmem
      generalize x.rels[i] = rl_ at *
      clear hil hin
      obtain ⟨nm, ats⟩ := rl_
      simp only at hp1 hp2 hIL hne HRI HRA HTK HFM
      obtain ⟨hml, hmd, hdm⟩ := cap_le hIL
      have hm1 : 0 < mi := by
        rw [hml]
        rcases ats with _ | ⟨y, ats⟩
        · exact absurd rfl hne
        · simp
      have hmb : ((mi : Int) == 0) = false := by rw [beq_eq_false_iff_ne]; omega
      have HMI := Lib.hid hml
      clear hml hne
      have hlt : (ns.take i).length = i := by rw [List.length_take, HNL.out]; omega
      obtain ⟨A3, c3, xs, rfl, _, _, HRow, HC⟩ := HO.out.parts
      rw [hlt] at HRow ⊢
      clear hlt
      generalize wr = wo at *
      go_upto_region 6 with fail
      refine box1 (P := fun W => Code.wp _ _ _ _ W) fun W3 HX3 BA => ?_
      have HR3 := Lib.hid (own_ext HRow.out HX3.out)
      have hne : (Value.slice A3 i c3).ownBlock ≠ some wo.heap.size := fun hh => by have := (HRow.out.lt _ hh).2; omega
      have HX3' := Lib.hid (HXr.out.trans HX3.out)
      have hw3 : W2.heap.size ≤ W3.heap.size := Nat.le_trans hwr HX3.out.size
      have hbt : (i + 1) * 16 ≤ 140737488355328 := by omega
      have hq0 := BA.out.cell (i := 0) rfl
      have BU3 := Lib.hid (BU.out.ext HX3.out)
      have BX3 := Lib.hid (BX.out.ext HX3.out)
      have HI3 := Lib.hid (IL.ext hIL HX3.out)
      clear hp1 hp2 HRow HX3 BU BX hIL
      go_wp2_with (at_builtin; refine wpList_app1 rfl _ _ 42 rfl W2.heap.size str_slice _ _ _ rfl HR3.out #[.string ⟨nm.toArray⟩] 1 1 rfl rfl rfl hbt hw3 ?_)
      intro v' w4 ho4 hg4 _
      obtain ⟨A4, c4, rfl, _, _, _⟩ := own_parts ho4
      have BA4 := Lib.hid (blkO BA.out hg4 hne)
      have BU4 := Lib.hid (blkG BU3.out HR3.out hg4 hgu)
      have BX4 := Lib.hid (blkG BX3.out HR3.out hg4 (by omega))
      have HI4 : Hid (IL w4 (.slice Bi mi di) ats) := Ls.kept IntR.stab HI3.out (fun u hu => Kept.grown HR3.out hg4 hu) (by decide)
      have O4 : Hid (OwnL tStr 1 TxR W2.heap.size w4 (.slice A4 (i + 1) c4) (ns.take (i + 1))) := by
        rw [HTK.out]
        exact OwnL.snoc (R := TxR) TxR.stab (fun u hu => by cases hu) (by rw [List.length_take, HNL.out, Nat.min_eq_left hi]; exact HR3.out) (HC.out.mono fun c x hc => TxR.stab _ _ _ _ (fun _ hu => by cases hu) hc) rfl (by rw [List.length_take, HNL.out, Nat.min_eq_left hi]; exact ho4) hg4
      have HX4 : Hid (Ext w w4) := grown_below HX3'.out HR3.out hg4 (by omega)
      have hls : TxL w4 (.slice A4 (i + 1) c4) (ns.take (i + 1)) := O4.out.ls
      have NM4 := Lib.hid (NM.out A4 c4 w4 hls)
      have hw4 : W2.heap.size ≤ w4.heap.size := Nat.le_trans hw3 hg4.size
      clear ho4 hg4 hls hq0 HR3 BA BU3 BX3 HI3
      go_wp2_with fail
      refine NM4.out.mono ?_
      rintro e w5 ⟨rfl, hx5⟩
      have BA5 := Lib.hid (BA4.out.ext hx5)
      have hq1 := BA5.out.cell (i := 1) rfl
      have O5 := Lib.hid (O4.out.ext TxR.stab hx5)
      have HX5 := Lib.hid (HX4.out.trans hx5)
      have BU5 := Lib.hid (BU4.out.ext hx5)
      have BX5 := Lib.hid (BX4.out.ext hx5)
      have HI5 := Lib.hid (IL.ext HI4.out hx5)
      have hw5 : W2.heap.size ≤ w5.heap.size := Nat.le_trans hw4 hx5.size
      have hga : W.heap.size < wo.heap.size := by omega
      clear hx5 O4 HX4 BU4 BX4 HI4 BA4 hw4
      go_upto_region 13 with fail
      clear hq1
      generalize hFL : (x.rels.take i).flatMap (·.2) = lf at *
      clear hFL
      have HU5 : Hid (Us bs N (lf ++ ats.take 0)) := by rw [List.take_zero, List.append_nil]; exact HU
      have HST := Lib.hid (Nat.le_refl w5.heap.size)
      go_loopw [9, 41] (fun _ v41 wr => ∃ (j : Nat) (bs : List Bool), j ≤ mi ∧ v41 = .int .i64 j ∧ Hid (Us bs N (lf ++ ats.take j)) ∧ Hid (Blk wr W.heap.size tBool (bits_ bs)) ∧ Hid (Only W.heap.size w5 wr) ∧ Hid (∀ u, tBool ≠ u → Kept u w5 wr)) (fun _ v41 _ => mi - (RowKit.intOf v41).toNat)
      case atStart => exact ⟨0, bs, Nat.zero_le _, rfl, HU5, BU5, Only.refl _ _, fun u _ => Kept.refl u _⟩
      case round =>
        clear HU5 BU5 HU bs
        obtain ⟨j, bs, hj, rfl, HU, BU, HOn, HKp⟩ := hrel
        by_cases hjm : j < mi
        · have hjl : j < ats.length := by rw [← HMI.out]; exact hjm
          have hIL : IL wr (.slice Bi mi di) ats := Ls.kept IntR.stab HI5.out HKp.out (by decide)
          obtain ⟨gi, oi, rfl, _, hci⟩ := IL.get hIL hjl
          have hra := HRI.out _ (List.getElem_mem hjl)
          have HTJ := Lib.hid (take_snoc hjl)
          clear hIL
          generalize ats[j] = y at *
          clear hjl
          obtain ⟨q, rfl⟩ : ∃ q : Nat, y = (q : Int) := ⟨y.toNat, by omega⟩
          have hqN : q < N := by omega
          have hq0 : decide ((q : Int) < 0) = false := decide_eq_false (by omega)
          have hqd : decide (N ≤ q) = false := decide_eq_false (by omega)
          have hfz := BU.out.frozen q
          have hcq : ∃ u, wr.cell? ⟨W.heap.size, q, none⟩ = some u := by
            have h1 := HU.out.1
            exact ⟨_, BU.out.cell (i := q) (by rw [bits_, List.getElem?_map, List.getElem?_eq_getElem (by omega)]; rfl)⟩
          obtain ⟨uq, hcq⟩ := hcq
          obtain ⟨W7, hW7, B7, K7, N7⟩ := put1 (i := q) BU.out (.bool true)
          rw [bits_set] at B7
          have HW7 := Lib.hid hW7
          have HUn := Lib.hid (HU.out.set hqN)
          rw [List.append_assoc, ← HTJ.out] at HUn
          have HOn7 := Lib.hid (HOn.out.trans N7.out)
          have HKp7 : Hid (∀ u, tBool ≠ u → Kept u w5 W7) := fun u hu => (HKp.out u hu).trans (K7.out u hu)
          clear hW7 hra
          go_upto_region 18 with fail
          rw [HW7.out]
          clear hcq hfz hci HW7 K7 N7
          go_wp2_with fail
          go_roundw
          case rel => exact ⟨j + 1, _, by omega, by go_num, HUn, B7, HOn7, HKp7⟩
          case measure => simp [RowKit.intOf]; omega
        · obtain rfl : j = mi := by omega
          rw [List.take_of_length_le (by rw [← HMI.out]; exact Nat.le_refl _)] at HU
          rw [← HFM.out] at HU
          have BA6 : Hid (Blk wr wo.heap.size tRel [.string ⟨nm.toArray⟩, .slice Bi j di]) := HKp.out tRel (by decide) _ _ _ BA5.out
          have BX6 : Hid (Blk wr w.heap.size tSch [.slice A N c, .slice (some ⟨g, o, none⟩) R d, .slice D fl e, .int .i64 lab]) := HKp.out tSch (by decide) _ _ _ BX5.out
          have HI6 : Hid (IL wr (.slice Bi j di) ats) := Ls.kept IntR.stab HI5.out HKp.out (by decide)
          have O6 := Lib.hid (O5.out.only TxR.stab HOn.out hgu (fun u hu => by cases hu))
          have HX6 := Lib.hid (HX5.out.only HOn.out (by omega))
          have hw6 : W2.heap.size ≤ wr.heap.size := Nat.le_trans hw5 HOn.out.size
          clear BA5 BX5 HI5 O5 HX5 HOn HKp hw5 hj
          generalize wr = w6 at *
          have hq1 := BA6.out.cell (i := 1) rfl
          go_upto_region 20 with fail
          clear hq1
          go_loopw [10] (fun v10 wr => ∃ k : Nat, 1 ≤ k ∧ k ≤ j ∧ v10 = .int .i64 k ∧ Hid (Ext w6 wr)) (fun v10 _ => j - (RowKit.intOf v10).toNat)
          case atStart => exact ⟨1, Nat.le_refl _, hm1, rfl, Ext.refl _⟩
          case round =>
            obtain ⟨k, hk1, hkj, rfl, HXk⟩ := hrel
            have BAk := Lib.hid (BA6.out.ext HXk.out)
            have hq1 := BAk.out.cell (i := 1) rfl
            by_cases hkm : k < j
            · obtain ⟨z, rfl⟩ : ∃ z, k = z + 1 := ⟨k - 1, by omega⟩
              have hz1 : z + 1 < ats.length := by rw [← HMI.out]; exact hkm
              have hz0 : z < ats.length := by omega
              have HC1 : Hid (∃ gi oi, Bi = some ⟨gi, oi, none⟩ ∧ ∀ w', Ext w6 w' → w'.cell? ⟨gi, oi + (z + 1), none⟩ = some (.int .i64 ats[z + 1]) ∧ w'.cell? ⟨gi, oi + z, none⟩ = some (.int .i64 ats[z])) := by
                obtain ⟨gi, oi, e, _, _⟩ := IL.get HI6.out hz1
                refine ⟨gi, oi, e, fun w' hx => ⟨?_, ?_⟩⟩
                · obtain ⟨g', o', e', _, h⟩ := IL.get (IL.ext HI6.out hx) hz1
                  rw [e] at e'
                  injection e' with e'
                  injection e' with e1 e2
                  subst e1 e2
                  exact h
                · obtain ⟨g', o', e', _, h⟩ := IL.get (IL.ext HI6.out hx) hz0
                  rw [e] at e'
                  injection e' with e'
                  injection e' with e1 e2
                  subst e1 e2
                  exact h
              obtain ⟨gi, oi, rfl, hcc⟩ := HC1.out
              have HCC := Lib.hid hcc
              have hlt : ats[z] < ats[z + 1] := List.pairwise_iff_getElem.1 HRA.out z (z + 1) hz0 hz1 (by omega)
              clear hcc HC1
              generalize ats[z + 1] = y1 at *
              generalize ats[z] = y0 at *
              clear hz0 hz1
              have hwz : IntKind.i64.wrap (z : Int) = (z : Int) := by rw [IntKind.wrap_i64]; omega
              have hzz : ((z + 1 : Nat) : Int) - 1 = (z : Int) := by omega
              have hzj : z < j := by omega
              go_upto_region 22 with fail
              clear hq1
              have HSI : Hid (∀ w', Ext wr w' → w'.cell? ⟨wo.heap.size, 1, none⟩ = some (.slice (some ⟨gi, oi, none⟩) j di) ∧ w'.cell? ⟨gi, oi + (z + 1), none⟩ = some (.int .i64 y1) ∧ w'.cell? ⟨gi, oi + z, none⟩ = some (.int .i64 y0)) := fun w' hx => ⟨(BAk.out.ext hx).cell (i := 1) rfl, (HCC.out w' (HXk.out.trans hx)).1, (HCC.out w' (HXk.out.trans hx)).2⟩
              have HS0 : Hid (Ext wr wr.drew) := (Ext.refl wr).drew
              refine AnyT.start (S := fun w' => Ext wr w') (T := fun _ => false) (by kernel_rfl) ?_
              refine AnyT.ld 0 64 ?_ _ rfl rfl (by kernel_rfl) (fun _ _ _ h => h) HS0.out rfl ?_ ?_
              rotate_left
              focus (intro w' hSw; have hs := HSI.out w' hSw; go_split_ands; go_simp; try (first | exact rfl | omega | go_num | (intro hbd; exfalso; omega)))
              simp only [Act.put, List.setIfInBounds_toArray, List.set_cons_zero, List.set_cons_succ]
              refine AnyT.ld 1 65 ?_ _ rfl rfl (by kernel_rfl) (fun _ _ _ h => h) HS0.out rfl ?_ ?_
              rotate_left
              focus (intro w' hSw; have hs := HSI.out w' hSw; go_split_ands; go_simp; try (first | exact rfl | omega | go_num | (intro hbd; exfalso; omega)))
              simp only [Act.put, List.setIfInBounds_toArray, List.set_cons_zero, List.set_cons_succ]
              refine AnyT.ld 2 66 ?_ _ rfl rfl (by kernel_rfl) (fun _ _ _ h => h) HS0.out rfl ?_ ?_
              rotate_left
              focus (intro w' hSw; have hs := HSI.out w' hSw; go_split_ands; go_simp; try (first | exact rfl | omega | go_num | (intro hbd; exfalso; omega)))
              simp only [Act.put, List.setIfInBounds_toArray, List.set_cons_zero, List.set_cons_succ]
              refine AnyT.ld 3 67 ?_ _ rfl rfl (by kernel_rfl) (fun _ _ _ h => h) HS0.out rfl ?_ ?_
              rotate_left
              focus (intro w' hSw; have hs := HSI.out w' hSw; go_split_ands; go_simp; try (first | exact rfl | omega | go_num | (intro hbd; exfalso; omega)))
              simp only [Act.put, List.setIfInBounds_toArray, List.set_cons_zero, List.set_cons_succ]
              refine AnyT.ld 4 68 ?_ _ rfl rfl (by kernel_rfl) (fun _ _ _ h => h) HS0.out rfl ?_ ?_
              rotate_left
              focus (intro w' hSw; have hs := HSI.out w' hSw; go_split_ands; go_simp; try (first | exact rfl | omega | go_num | (intro hbd; exfalso; omega)))
              simp only [Act.put, List.setIfInBounds_toArray, List.set_cons_zero, List.set_cons_succ]
              refine AnyT.ld 5 69 ?_ _ rfl rfl (by kernel_rfl) (fun _ _ _ h => h) HS0.out rfl ?_ ?_
              rotate_left
              focus (intro w' hSw; have hs := HSI.out w' hSw; go_split_ands; go_simp; try (first | exact rfl | omega | go_num | (intro hbd; exfalso; omega)))
              simp only [Act.put, List.setIfInBounds_toArray, List.set_cons_zero, List.set_cons_succ]
              refine AnyT.ld 6 70 ?_ _ rfl rfl (by kernel_rfl) (fun _ _ _ h => h) HS0.out rfl ?_ ?_
              rotate_left
              focus (intro w' hSw; have hs := HSI.out w' hSw; go_split_ands; go_simp; try (first | exact rfl | omega | go_num | (intro hbd; exfalso; omega)))
              simp only [Act.put, List.setIfInBounds_toArray, List.set_cons_zero, List.set_cons_succ]
              refine AnyT.ld 7 71 ?_ _ rfl rfl (by kernel_rfl) (fun _ _ _ h => h) HS0.out rfl ?_ ?_
              rotate_left
              focus (intro w' hSw; have hs := HSI.out w' hSw; go_split_ands; go_simp; try (first | exact rfl | omega | go_num | (intro hbd; exfalso; omega)))
              simp only [Act.put, List.setIfInBounds_toArray, List.set_cons_zero, List.set_cons_succ]
              refine AnyT.ld 8 72 (.int .i64 z) _ rfl rfl (by kernel_rfl) (fun _ _ _ h => h) HS0.out rfl ?_ ?_
              focus (intro w' hSw; have hs := HSI.out w' hSw; go_split_ands; go_simp; try (first | exact rfl | omega | go_num | (intro hbd; exfalso; omega)))
              simp only [Act.put, List.setIfInBounds_toArray, List.set_cons_zero, List.set_cons_succ]
              refine AnyT.ld 9 73 ?_ _ rfl rfl (by kernel_rfl) (fun _ _ _ h => h) HS0.out rfl ?_ ?_
              rotate_left
              focus (intro w' hSw; have hs := HSI.out w' hSw; go_split_ands; go_simp; try (first | exact rfl | omega | go_num | (intro hbd; exfalso; omega)))
              simp only [Act.put, List.setIfInBounds_toArray, List.set_cons_zero, List.set_cons_succ]
              refine AnyT.ld 10 74 ?_ _ rfl rfl (by kernel_rfl) (fun _ _ _ h => h) HS0.out rfl ?_ ?_
              rotate_left
              focus (intro w' hSw; have hs := HSI.out w' hSw; go_split_ands; go_simp; try (first | exact rfl | omega | go_num | (intro hbd; exfalso; omega)))
              simp only [Act.put, List.setIfInBounds_toArray, List.set_cons_zero, List.set_cons_succ]
              refine AnyT.ld 11 75 (.bool false) _ rfl rfl (by kernel_rfl) (fun _ _ _ h => h) HS0.out rfl ?_ ?_
              focus (intro w' hSw; have hs := HSI.out w' hSw; go_split_ands; go_simp; try (first | exact rfl | omega | go_num | (intro hbd; exfalso; omega)))
              simp only [Act.put, List.setIfInBounds_toArray, List.set_cons_zero, List.set_cons_succ]
              refine AnyT.done (by kernel_rfl) ?_
              have HXn := Lib.hid (HXk.out.trans HS0.out)
              clear HSI HS0 HCC
              go_wp2_with fail
              go_roundw
              case rel => exact ⟨z + 1 + 1, by omega, by omega, by go_num, HXn⟩
              case measure => simp [RowKit.intOf]; omega
            · have hkd : decide (k < j) = false := decide_eq_false hkm
              have hwk : w6.heap.size ≤ wr.heap.size := HXk.out.size
              have O7 := Lib.hid (O6.out.ext TxR.stab HXk.out)
              have BU7 := Lib.hid (BU.out.ext HXk.out)
              have BX7 := Lib.hid (BX6.out.ext HXk.out)
              have HX7 := Lib.hid (HX6.out.trans HXk.out)
              go_wp2_with fail
              go_roundw
              case rel => exact ⟨i + 1, bs, by omega, by go_num, O7, HU, BU7, BX7, HX7, by omega⟩
              case measure => simp [RowKit.intOf]; omega
    · obtain rfl : i = R := by omega
      rw [List.take_of_length_le (by rw [HRN.out]; exact Nat.le_refl _)] at HU
      have hall : ∀ a, a < N → bs[a]? = some true := fun a ha => by
        obtain ⟨r, hr, hm⟩ := HOK.out.used a (by rw [HN.out]; exact ha)
        have h := HU.out.2 (a : Int) (List.mem_flatMap.2 ⟨r, hr, hm⟩)
        rw [Int.toNat_natCast] at h
        exact h
      rw [bits_all HU.out.1 hall] at BU
      go_wp2_with fail
      refine (contains_true _ N N wr BU.out (by omega)).mono ?_
      rintro e w7 ⟨rfl, hx7⟩
      go_wp2
      go_ret
      exact ⟨rfl, HXr.out.trans hx7⟩
set_option maxRecDepth 100000 in
set_option maxHeartbeats 2000000 in
theorem check_any (v : Value) (x : Sch) (w : World) (h : SchV w v x) (ok : SchOk x) :
    Calls Tryz.prog 29 #[v] w fun e w' => e = .returned (.int .i64 0) ∧ Ext w w' := by
  have C1 := Lib.hid (fun w' hx => attributes_any v x w' (h.ext hx) ok)
  have C2 := Lib.hid (fun w' hx => relations_any v x w' (h.ext hx) ok)
  have C3 := Lib.hid (fun w' hx => features_any v x w' (h.ext hx) ok)
  obtain ⟨A, c, B, d, D, e, rfl, ha, _, _⟩ := h
  have HA := Lib.hid ha
  have a1 := ok.a1
  have a12 := ok.a12
  have r1 := ok.r1
  have r6 := ok.r6
  have f8 := ok.f8
  have lb := ok.lb
  have HLK := Lib.hid ok.lk
  clear ha ok
  obtain ⟨lab, hlab⟩ : ∃ lab, x.label = lab := ⟨_, rfl⟩
  rw [hlab] at lb HLK C1 C2 C3 ⊢
  clear hlab
  obtain ⟨N, hN⟩ : ∃ N, x.atts.length = N := ⟨_, rfl⟩
  have HN := Lib.hid hN
  rw [hN] at HA a1 a12 lb C1 C2 C3 ⊢
  clear hN
  generalize x.rels.length = R at *
  generalize x.feats.length = M at *
  have d1 : decide (N > 12) = false := decide_eq_false (by omega)
  have d2 : decide (R > 6) = false := decide_eq_false (by omega)
  have d3 : decide (M > 8) = false := decide_eq_false (by omega)
  have b1 : ((N : Int) == 0) = false := by rw [beq_eq_false_iff_ne]; omega
  have b2 : ((R : Int) == 0) = false := by rw [beq_eq_false_iff_ne]; omega
  have l1 : decide (lab < -1) = false := decide_eq_false (by omega)
  have l2 : decide (lab ≥ (N : Int)) = false := decide_eq_false (by omega)
  have l2' : decide ((N : Int) ≤ lab) = false := decide_eq_false (by omega)
  go_enter Tryz.func29, Tryz.ntmps29
  go_upto_region 1 with fail
  refine box1 (P := fun W => Code.wp _ _ _ _ W) fun W HX BX => ?_
  obtain ⟨s0, s1, s2, s3⟩ := BX.out.four
  go_upto_region 4 with fail
  refine box1 (P := fun W => Code.wp _ _ _ _ W) fun W2 HX2 BF => ?_
  have BX2 := Lib.hid (BX.out.ext HX2.out)
  have HXX := Lib.hid (HX.out.trans HX2.out)
  clear s0 s1 s2 s3 BX HX HX2
  go_loopw [4, 5, 36] (fun _ _ v36 wr => ∃ i : Nat, i ≤ 3 ∧ v36 = .int .i64 i ∧ Hid (Ext W2 wr)) (fun _ _ v36 _ => 3 - (RowKit.intOf v36).toNat)
  case atStart => exact ⟨0, by omega, rfl, Ext.refl _⟩
  case round =>
    obtain ⟨i, hi, rfl, HXr⟩ := hrel
    have BXr := Lib.hid (BX2.out.ext HXr.out)
    have BFr := Lib.hid (BF.out.ext HXr.out)
    obtain ⟨s0, s1, s2, s3⟩ := BXr.out.four
    rcases i with _ | _ | _ | _ | i
    · have hc := BFr.out.cell (i := 0) rfl
      go_wp2_with fail
      refine (C1.out _ (HXX.out.trans HXr.out)).mono ?_
      rintro e w3 ⟨rfl, hx3⟩
      have HX3 := Lib.hid (HXr.out.trans hx3)
      clear s0 s1 s2 s3 hc hx3
      go_wp2_with fail
      go_roundw
      case rel => exact ⟨1, by omega, by go_num, HX3⟩
      case measure => simp [RowKit.intOf]
    · have hc := BFr.out.cell (i := 1) rfl
      go_wp2_with fail
      refine (C2.out _ (HXX.out.trans HXr.out)).mono ?_
      rintro e w3 ⟨rfl, hx3⟩
      have HX3 := Lib.hid (HXr.out.trans hx3)
      clear s0 s1 s2 s3 hc hx3
      go_wp2_with fail
      go_roundw
      case rel => exact ⟨2, by omega, by go_num, HX3⟩
      case measure => simp [RowKit.intOf]
    · have hc := BFr.out.cell (i := 2) rfl
      go_wp2_with fail
      refine (C3.out _ (HXX.out.trans HXr.out)).mono ?_
      rintro e w3 ⟨rfl, hx3⟩
      have HX3 := Lib.hid (HXr.out.trans hx3)
      clear s0 s1 s2 s3 hc hx3
      go_wp2_with fail
      go_roundw
      case rel => exact ⟨3, by omega, by go_num, HX3⟩
      case measure => simp [RowKit.intOf]
    · by_cases hl0 : 0 ≤ lab
      · obtain ⟨a, ha, hk⟩ := HLK.out hl0
        obtain ⟨q, rfl⟩ : ∃ q : Nat, lab = (q : Int) := ⟨lab.toNat, by omega⟩
        rw [Int.toNat_natCast] at ha
        obtain ⟨hqN, hqe⟩ := List.getElem?_eq_some_iff.1 ha
        obtain ⟨g, o, rfl, -, -, hp⟩ := AL.get (Ls.ext AttR.stab HA.out (HXX.out.trans HXr.out)) hqN
        rw [hqe, hk] at hp
        have hqN' : q < N := by rw [← HN.out]; exact hqN
        have l3 : decide ((q : Int) ≥ 0) = true := decide_eq_true (by omega)
        have l4 : decide (N ≤ q) = false := decide_eq_false (by omega)
        clear ha hqe hl0 HLK
        go_wp2
        go_ret
        exact ⟨rfl, HXX.out.trans HXr.out⟩
      · have l3 : decide (lab ≥ 0) = false := decide_eq_false (by omega)
        have l3' : decide (0 ≤ lab) = false := decide_eq_false (by omega)
        go_wp2
        go_ret
        exact ⟨rfl, HXX.out.trans HXr.out⟩
    · omega
end Go.Proofs.YthalpbjkkfkheaaGreatDoor
