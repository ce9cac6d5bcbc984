/- forest.Pick walked: the features in order, the first ones of them, ascending. -/
import Derived.Test.YthalpbjkkfkheaaDoorSort
namespace Go.Proofs.YthalpbjkkfkheaaDoor
open Go.RowKit Go.Lib

theorem put_cells (l zs : List Int) (hk : zs.length ≤ l.length) : Sort.putCells (Value.int .i64) 0 zs.toArray (zcells l).toArray = (zcells (zs ++ l.drop zs.length)).toArray := by
  apply Array.ext_getElem?
  intro i
  unfold Sort.putCells zcells
  simp only [List.getElem?_toArray, List.map_append, Array.getElem?_mapIdx, List.getElem?_map, List.size_toArray, Nat.zero_le, true_and, Nat.zero_add, Nat.sub_zero]
  rcases Nat.lt_or_ge i zs.length with h | h
  · rw [List.getElem?_append_left (by simpa using h), List.getElem?_eq_getElem (l := l) (i := i) (by omega)]
    simp [h]
  · rw [List.getElem?_append_right (by simpa using h)]
    simp only [List.length_map, List.getElem?_map, List.getElem?_drop]
    rw [show zs.length + (i - zs.length) = i by omega]
    cases l[i]? with
    | none => rfl
    | some x => simp [Nat.not_lt.2 h]
theorem sorted_after {a w : World} {g : Nat} {l : List Int} (hB : Blk w g tInt (zcells l)) (he : Ext a w) (hg : a.heap.size ≤ g) (zs : List Int) (hk : zs.length ≤ l.length) (n : Nat) (os : Array Obj) :
    Ext a (Sort.grow (Sort.putRow (Value.int .i64) (Sort.ahead w n) g 0 zs.toArray) os) ∧ Blk (Sort.grow (Sort.putRow (Value.int .i64) (Sort.ahead w n) g 0 zs.toArray) os) g tInt (zcells (zs ++ l.drop zs.length)) := by
  have hs : (Sort.putRow (Value.int .i64) (Sort.ahead w n) g 0 zs.toArray).heap.size = w.heap.size := by
    unfold Sort.putRow Sort.mapBlock Sort.ahead
    simp
  have hgl := hB.lt
  refine ⟨⟨he.os, he.tape, he.output, ?_, fun i hi => ?_⟩, ?_⟩
  · have := he.size
    rw [Sort.size_grow, hs]
    omega
  · have hi' : i < w.heap.size := Nat.lt_of_lt_of_le hi he.size
    rw [Sort.heap_grow_old _ _ (by rw [hs]; exact hi'), ← he.block i hi]
    unfold Sort.putRow Sort.mapBlock Sort.ahead
    simp only [Array.getElem?_modify]
    rw [if_neg (by omega)]
  · unfold Blk
    rw [Sort.heap_grow_old _ _ (by rw [hs]; exact hgl)]
    unfold Blk at hB
    unfold Sort.putRow Sort.mapBlock Sort.ahead
    simp only [Array.getElem?_modify, if_true, hB, Option.map_some, Sort.onCells, put_cells l zs hk]
set_option maxRecDepth 100000 in
set_option maxHeartbeats 1000000 in
theorem stab_any (seed tree : Int) (gs gt g n c : Nat) (l0 : List Int) (w : World) (hs : Blk w gs tInt [.int .i64 seed]) (ht : Blk w gt tInt [.int .i64 tree]) (h1 : I64 seed) (h2 : I64 tree) (htb : Tab w)
    (wr0 : World) (hX : Ext w wr0) (hg : w.heap.size ≤ g) (hB : Blk wr0 g tInt (zcells l0)) (hl0 : l0.length = n) (hn : n < 20) (hr : ∀ x ∈ l0, I64 x) :
    Calls Tryd.prog 32 #[.slice (some ⟨g, 0, none⟩) n c, .int .i64 n, .func (.func 21) #[] #[.pointer (some ⟨gs, 0, none⟩), .pointer (some ⟨gt, 0, none⟩)]] wr0 fun e w' => e = .returned (.tuple #[]) ∧ Ext w w' ∧ Blk w' g tInt (zcells (ordI (ltF seed tree) l0)) := by
  have SI := Lib.hid (inss_any seed tree gs gt g n c l0 w hs ht h1 h2 htb wr0 hX hg hB hl0 (by omega) hr)
  clear hs ht h1 h2 htb hX hB hl0 hr
  go_enter Tryd.func32, Tryd.ntmps32
  have d0 : decide ((20 : Int) ≤ (n : Int)) = false := decide_eq_false (by omega)
  have d1 : decide ((20 : Int) < (n : Int)) = false := decide_eq_false (by omega)
  go_wp2_with fail
  go_loopw [7, 8] (fun v7 v8 wr => v7 = .int .i64 0 ∧ v8 = .int .i64 20 ∧ wr = wr0) (fun _ _ _ => 0)
  case atStart => exact ⟨rfl, rfl, rfl⟩
  case round =>
    obtain ⟨rfl, rfl, rfl⟩ := hrel
    go_wp2_with fail
    refine SI.out.mono ?_
    rintro e w1 ⟨rfl, hx, hb⟩
    have HX := Lib.hid hx
    have HB := Lib.hid hb
    clear hx hb SI
    go_wp2_with fail
    go_loopw [6, 7, 8, 9] (fun v6 _ _ _ wr => v6 = .int .i64 20 ∧ wr = w1) (fun _ _ _ _ _ => 0)
    case atStart => exact ⟨rfl, rfl⟩
    case round =>
      obtain ⟨rfl, rfl⟩ := hrel
      go_wp2
      refine bodyPost_end (results_none rfl _ _ _) rfl ?_
      exact ⟨rfl, HX.out, HB.out⟩
set_option maxRecDepth 100000 in
theorem sortst_any (seed tree : Int) (gs gt g n c : Nat) (l0 : List Int) (w : World) (hs : Blk w gs tInt [.int .i64 seed]) (ht : Blk w gt tInt [.int .i64 tree]) (h1 : I64 seed) (h2 : I64 tree) (htb : Tab w)
    (wr0 : World) (hX : Ext w wr0) (hg : w.heap.size ≤ g) (hB : Blk wr0 g tInt (zcells l0)) (hl0 : l0.length = n) (hn : n < 20) (hr : ∀ x ∈ l0, I64 x) :
    Calls Tryd.prog 20 #[.slice (some ⟨g, 0, none⟩) n c, .func (.func 21) #[] #[.pointer (some ⟨gs, 0, none⟩), .pointer (some ⟨gt, 0, none⟩)]] wr0 fun e w' => e = .returned (.tuple #[]) ∧ Ext w w' ∧ Blk w' g tInt (zcells (ordI (ltF seed tree) l0)) := by
  have SI := Lib.hid (stab_any seed tree gs gt g n c l0 w hs ht h1 h2 htb wr0 hX hg hB hl0 hn hr)
  clear hs ht h1 h2 htb hX hB hl0 hr
  go_enter Tryd.func20, Tryd.ntmps20
  go_wp2_with fail
  refine SI.out.mono ?_
  rintro e w1 ⟨rfl, hx, hb⟩
  go_wp2
  refine bodyPost_end (results_none rfl _ _ _) rfl ?_
  exact ⟨rfl, hx, hb⟩
theorem outI_length {lt : Int → Int → Bool} : ∀ (k i : Nat) (l : List Int), (∀ j l, (insI lt j l).length = l.length) → (outI lt k i l).length = l.length
  | 0, _, _, _ => rfl
  | k + 1, i, l, h => by rw [outI, outI_length k (i + 1) _ h, h]
theorem insI_perm {lt : Int → Int → Bool} : ∀ (j : Nat) (l : List Int), j < l.length → (insI lt j l).Perm l
  | 0, l, _ => List.Perm.refl l
  | j + 1, l, h => by
    cases hlt : lt l[j + 1] l[j] with
    | false => rw [insI_stop h hlt]
    | true =>
      rw [insI_go h hlt]
      exact (insI_perm j _ (by simp; omega)).trans (List.set_set_perm h (Nat.lt_of_succ_lt h))
theorem outI_perm {lt : Int → Int → Bool} : ∀ (k i : Nat) (l : List Int), i + k ≤ l.length → (outI lt k i l).Perm l
  | 0, _, l, _ => List.Perm.refl l
  | k + 1, i, l, h => by
    have h1 := insI_perm (lt := lt) i l (by omega)
    exact (outI_perm k (i + 1) _ (by rw [h1.length_eq]; omega)).trans h1
theorem ordI_perm (lt : Int → Int → Bool) (l : List Int) : (ordI lt l).Perm l := by
  unfold ordI
  rcases l with _ | ⟨x, l⟩
  · exact List.Perm.refl _
  · exact outI_perm _ _ _ (by simp; omega)
/-- the features in order -/
def ordF (seed tree : Int) (n : Nat) : List Int := ordI (ltF seed tree) (upto n)
theorem ordF_perm (seed tree : Int) (n : Nat) : (ordF seed tree n).Perm (upto n) := ordI_perm _ _
theorem upto_mem {n : Nat} {x : Int} : x ∈ upto n ↔ 0 ≤ x ∧ x < n := by
  unfold upto
  rw [List.mem_map]
  constructor
  · rintro ⟨k, hk, rfl⟩
    have := List.mem_range.1 hk
    exact ⟨Int.natCast_nonneg k, Int.ofNat_lt.2 this⟩
  · rintro ⟨h0, h1⟩
    exact ⟨x.toNat, List.mem_range.2 (by omega), by simp; omega⟩
/-- what is picked -/
def pickF (seed tree : Int) (n many : Nat) : List Int := ((ordF seed tree n).take many).mergeSort (fun a b => decide (a ≤ b))
theorem pickF_length (seed tree : Int) (n many : Nat) : (pickF seed tree n many).length = min many n := by
  unfold pickF
  rw [List.length_mergeSort, List.length_take, (ordF_perm seed tree n).length_eq, upto_length]
theorem set_fill (n i : Nat) (h : i < n) : (zcells (upto i ++ List.replicate (n - i) 0)).set i (.int .i64 (i : Int)) = zcells (upto (i + 1) ++ List.replicate (n - (i + 1)) 0) := by
  rw [← zcells_set, List.set_append_right _ _ (by rw [upto_length]; exact Nat.le_refl i), upto_length, Nat.sub_self, upto_succ, List.append_assoc]
  congr 2
  rw [show n - i = (n - (i + 1)) + 1 by omega, List.replicate_succ]
  rfl
theorem holds_blk {w : World} {g q : Nat} {l : List Int} (hB : Blk w g tInt (zcells l)) : Sort.Holds (Value.int .i64) w g 0 (l.take q).toArray := by
  intro j hj
  have hj' : j < (l.take q).length := by simpa using hj
  have hj2 : j < l.length := by rw [List.length_take] at hj'; omega
  refine ⟨?_, hB.frozen _⟩
  rw [Nat.zero_add, hB.cell (zcells_get hj2), getElem!_pos _ j hj]
  simp
/-- the library's sort of the first q numbers of a row -/
theorem sort_any {a w : World} {g q c : Nat} {l : List Int} (hB : Blk w g tInt (zcells l)) (he : Ext a w) (hg : a.heap.size ≤ g) (hq : q ≤ l.length) (hl : l.length ≤ 100) :
    Calls Tryd.prog 24 #[.slice (some ⟨g, 0, none⟩) q c] w fun e w' => e = .returned (.tuple #[]) ∧ Ext a w' ∧ Blk w' g tInt (zcells ((l.take q).mergeSort (fun a b => decide (a ≤ b)) ++ l.drop q)) := by
  rcases q with _ | q
  · refine (Tryd.slices_Sort_int_none (some ⟨g, 0, none⟩) c w).mono ?_
    rintro e w' ⟨rfl, rfl⟩
    exact ⟨rfl, he, by simpa using hB⟩
  · have hlen : (l.take (q + 1)).length = q + 1 := by rw [List.length_take]; omega
    have h := Tryd.slices_Sort_int g 0 c (l.take (q + 1)) w (holds_blk hB) hB.lt (by rw [hlen]; omega)
    rw [hlen] at h
    refine h.mono ?_
    rintro e w' ⟨rfl, n, os, rfl⟩
    have hm : ((l.take (q + 1)).mergeSort (fun a b => decide (a ≤ b))).length = q + 1 := by rw [List.length_mergeSort, hlen]
    have h2 := sorted_after hB he hg ((l.take (q + 1)).mergeSort (fun a b => decide (a ≤ b))) (by rw [hm]; exact hq) n os
    rw [hm] at h2
    exact ⟨rfl, h2⟩
set_option maxRecDepth 100000 in
set_option maxHeartbeats 2000000 in
theorem pick_any (v : Value) (x : Sch) (seed tree : Int) (many : Nat) (w : World) (h : SchV w v x) (ok : SchOk x) (h1 : I64 seed) (h2 : I64 tree) (hm : many ≤ 1000) (htb : Tab w) :
    Calls Tryd.prog 9 #[v, .int .i64 seed, .int .i64 tree, .int .i64 many] w fun e w' => ∃ A c, e = .returned (.slice A (min many x.feats.length) c) ∧ IL w' (.slice A (min many x.feats.length) c) (pickF seed tree x.feats.length many) ∧ Ext w w' := by
  have CK := Lib.hid (fun w' hx => check_any v x w' (h.ext hx) ok)
  have HTB := Lib.hid htb
  have f8 := ok.f8
  obtain ⟨A, c, B, d, D, e, rfl, -, -, hfe⟩ := h
  obtain ⟨-, -, hecm⟩ := cap_le hfe
  clear hfe
  clear ok htb
  generalize x.atts.length = N at *
  generalize x.rels.length = R at *
  generalize x.feats.length = n at *
  generalize x.label = lab at *
  have HQL := Lib.hid (pickF_length seed tree n many)
  have HQD : Hid (pickF seed tree n many = ((ordF seed tree n).take (min many n)).mergeSort (fun a b => decide (a ≤ b))) := by
    rw [Hid, pickF]
    congr 1
    rcases Nat.le_total many n with hle | hle
    · rw [Nat.min_eq_left hle]
    · rw [Nat.min_eq_right hle, List.take_of_length_le (by rw [(ordF_perm seed tree n).length_eq, upto_length]; exact hle), List.take_of_length_le (by rw [(ordF_perm seed tree n).length_eq, upto_length]; exact Nat.le_refl _)]
  have HOL : Hid ((ordF seed tree n).length = n) := by rw [Hid, (ordF_perm seed tree n).length_eq, upto_length]
  obtain ⟨q, hq⟩ : ∃ q, min many n = q := ⟨_, rfl⟩
  have hqi : q ≤ n := by omega
  have hmin : min (many : Int) (n : Int) = (q : Int) := by omega
  rw [hq] at HQL HQD ⊢
  clear hq
  generalize pickF seed tree n many = R at *
  have HOE : Hid (ordI (ltF seed tree) (upto n) = ordF seed tree n) := rfl
  generalize ordF seed tree n = O at *
  go_enter Tryd.func9, Tryd.ntmps9
  go_upto_region 1 with fail
  refine box3 (P := fun W => Code.wp _ _ _ _ W) fun W HX BA BB BC => ?_
  obtain ⟨s0, s1, s2, s3⟩ := BA.out.four
  have hneg : decide ((many : Int) < 0) = false := decide_eq_false (by omega)
  go_wp2_with fail
  refine (CK.out _ HX.out).mono ?_
  rintro e' w1 ⟨rfl, hx1⟩
  have BA1 := Lib.hid (BA.out.ext hx1)
  have BB1 := Lib.hid (BB.out.ext hx1)
  have BC1 := Lib.hid (BC.out.ext hx1)
  have HX1 := Lib.hid (HX.out.trans hx1)
  clear s0 s1 s2 s3 BA BB BC HX hx1 CK
  obtain ⟨s0, s1, s2, s3⟩ := BA1.out.four
  have hmk := make_int1 n (by omega) w1
  rw [show i64s (List.replicate n 0) = zcells (upto 0 ++ List.replicate (n - 0) 0) by simp [i64s, zcells, upto]] at hmk
  have hgA : w.heap.size < w1.heap.size := BA1.out.lt
  go_upto_region 4 with fail
  refine box1 (P := fun W => Code.wp _ _ _ _ W) fun W2 HX2 BU => ?_
  clear hmk s0 s1 s2 s3
  go_upto_region 5 with fail
  go_loopw [10, 24] (fun _ v24 wr => ∃ i : Nat, i ≤ n ∧ v24 = .int .i64 i ∧ Hid (Blk wr w1.heap.size tInt (zcells (upto i ++ List.replicate (n - i) 0))) ∧ Hid (Ext w1 wr)) (fun _ v24 _ => n - (RowKit.intOf v24).toNat)
  case atStart => exact ⟨0, by omega, rfl, BU, HX2⟩
  case round =>
    clear BU HX2
    obtain ⟨i, hi, rfl, HB, HXr⟩ := hrel
    by_cases hin : i < n
    · have hk : (zcells (upto i ++ List.replicate (n - i) 0))[i]? = some (.int .i64 0) := by
        unfold zcells
        rw [List.getElem?_map, List.getElem?_append_right (by rw [upto_length]; exact Nat.le_refl i), upto_length, Nat.sub_self, List.getElem?_replicate, if_pos (by omega)]
        rfl
      have hc := HB.out.cell hk
      have hf := HB.out.frozen i
      obtain ⟨W', hW', O4, -, E4, -⟩ := storeG HB.out HXr.out (Nat.le_refl _) (.int .i64 i)
      have O5 : Hid (Blk W' w1.heap.size tInt (zcells (upto (i + 1) ++ List.replicate (n - (i + 1)) 0))) := by
        rw [Hid, ← set_fill n i hin]
        exact O4.out
      clear O4 hk
      go_wp2_with fail
      go_roundw
      case rel => exact ⟨i + 1, by omega, by go_num, O5, E4⟩
      case measure => simp [RowKit.intOf]; omega
    · obtain rfl : i = n := by omega
      generalize wr = w2 at *
      have HB0 : Hid (Blk w2 w1.heap.size tInt (zcells (upto i))) := by
        have := HB.out
        rw [Nat.sub_self, List.replicate_zero, List.append_nil] at this
        exact this
      have SS := Lib.hid (sortst_any seed tree (w.heap.size + 1) (w.heap.size + 2) w1.heap.size i i (upto i) w1 BB1.out BC1.out h1 h2 (HTB.out.ext HX1.out) w2 HXr.out (Nat.le_refl _) HB0.out (upto_length i) (by omega) (fun x hx => by
        have := upto_mem.1 hx
        exact ⟨by omega, by omega⟩))
      rw [HOE.out] at SS
      clear HB HB0 HXr
      go_wp2_with fail
      refine SS.out.mono ?_
      rintro e'' w3 ⟨rfl, hx3, hb3⟩
      have HX3 := Lib.hid hx3
      have HB3 := Lib.hid hb3
      clear hx3 hb3 SS BB1 BC1
      have hgr : w1.heap.size < w3.heap.size := HB3.out.lt
      have ST := Lib.hid (sort_any (q := q) (c := i) HB3.out HX3.out (Nat.le_refl _) (by rw [HOL.out]; exact hqi) (by rw [HOL.out]; omega))
      rw [← HQD.out] at ST
      clear HQD HOE
      go_wp2_with fail
      refine ST.out.mono ?_
      rintro e'' w4 ⟨rfl, hx4, hb4⟩
      go_wp2
      go_ret
      refine ⟨_, _, rfl, ⟨some ⟨w1.heap.size, 0, none⟩, i, zcells R, by rw [HQL.out], by rw [HQL.out]; exact hqi, by unfold maxLen; omega, (fun h => by cases h), ?_, ints_ch _ _⟩, HX1.out.trans hx4⟩
      have h5 := (hb4.sl 0).take q
      rw [List.drop_zero] at h5
      have h6 : (zcells (R ++ O.drop q)).take q = zcells R := by
        unfold zcells
        rw [List.map_append, List.take_append_of_le_length (by rw [List.length_map, HQL.out]; exact Nat.le_refl _), List.take_of_length_le (by rw [List.length_map, HQL.out]; exact Nat.le_refl _)]
      rw [h6] at h5
      exact h5
end Go.Proofs.YthalpbjkkfkheaaDoor
