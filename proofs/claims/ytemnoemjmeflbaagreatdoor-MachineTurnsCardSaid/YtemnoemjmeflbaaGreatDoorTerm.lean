/- Products of features as values; machine.terms' closure, slices.IndexFunc and DeleteFunc at it. -/
import Derived.Test.YtemnoemjmeflbaaGreatDoorMach
import Derived.Laws.IdiomCopy
namespace Go.Proofs.YtemnoemjmeflbaaGreatDoor
open Go.RowKit Go.Lib

abbrev tTerm : TypeId := 92
/-- a product, as cells -/
def TmR (w : World) (c : List Value) (t : Tm) : Prop := ∃ p0 p1 p2 b A n d b' A' n' d', c = [.int .i64 p0, .int .i64 p1, .int .i64 p2, .bool b, .slice A n d, .bool b', .slice A' n' d'] ∧ t.1 = [p0, p1, p2] ∧ FracV w (.agg #[.bool b, .slice A n d, .bool b', .slice A' n' d']) t.2
theorem TmR.stab : Stab [tU64] TmR := fun _ _ _ _ hk ⟨p0, p1, p2, b, A, n, d, b', A', n', d', h1, h2, h3⟩ => ⟨p0, p1, p2, b, A, n, d, b', A', n', d', h1, h2, h3.keep (hk _ (by simp))⟩
theorem TmR.seven (w : World) (c : List Value) (x : Tm) (h : TmR w c x) : c.length = 7 := by obtain ⟨_, _, _, _, _, _, _, _, _, _, _, rfl, _⟩ := h; rfl
theorem TmR.one (w : World) (c : List Value) (x : Tm) (h : TmR w c x) : ∀ u ∈ c, u.oneCell' = true := by
  obtain ⟨_, _, _, _, _, _, _, _, _, _, _, rfl, _⟩ := h
  intro u hu
  simp only [List.mem_cons, List.not_mem_nil, or_false] at hu
  rcases hu with rfl | rfl | rfl | rfl | rfl | rfl | rfl <;> rfl
abbrev TL := Ls tTerm TmR
theorem TL.ext {w w' : World} {v : Value} {l : List Tm} (h : TL w v l) (hx : Ext w w') : TL w' v l := Ls.ext TmR.stab h hx
theorem term_slice : SliceTy Tryz.prog 87 tTerm 7 88 := .mk' (z := .agg #[.int .i64 0, .int .i64 0, .int .i64 0, .bool false, .slice none 0 0, .bool false, .slice none 0 0]) (by kernel_rfl) (by kernel_rfl) rfl (by decide) (by decide)
theorem TL.get {w : World} {A : Option Addr} {n c : Nat} {l : List Tm} (h : TL w (.slice A n c) l) {i : Nat} (hi : i < l.length) :
    ∃ g o p0 p1 p2 b A1 n1 c1 b' A2 n2 c2, A = some ⟨g, o, none⟩ ∧ g < w.heap.size ∧ l[i].1 = [p0, p1, p2] ∧ Hid (FracV w (.agg #[.bool b, .slice A1 n1 c1, .bool b', .slice A2 n2 c2]) l[i].2) ∧
    w.cell? ⟨g, o + i * 7, none⟩ = some (.int .i64 p0) ∧ w.cell? ⟨g, o + i * 7 + 1, none⟩ = some (.int .i64 p1) ∧ w.cell? ⟨g, o + i * 7 + 2, none⟩ = some (.int .i64 p2) ∧ w.cell? ⟨g, o + i * 7 + 3, none⟩ = some (.bool b) ∧ w.cell? ⟨g, o + i * 7 + 4, none⟩ = some (.slice A1 n1 c1) ∧ w.cell? ⟨g, o + i * 7 + 5, none⟩ = some (.bool b') ∧ w.cell? ⟨g, o + i * 7 + 6, none⟩ = some (.slice A2 n2 c2) := by
  obtain ⟨g, o, d, h1, h2, ⟨p0, p1, p2, b, A1, n1, c1, b', A2, n2, c2, rfl, h3, h4⟩, h5⟩ := Ls.get TmR.seven (by decide) h hi
  exact ⟨g, o, p0, p1, p2, b, A1, n1, c1, b', A2, n2, c2, h1, h2, h3, h4, h5 0 _ rfl, h5 1 _ rfl, h5 2 _ rfl, h5 3 _ rfl, h5 4 _ rfl, h5 5 _ rfl, h5 6 _ rfl⟩
theorem sign_zero {q : Rat} : (q.num.sign == 0) = decide (q = 0) := by
  rw [Bool.eq_iff_iff, beq_iff_eq, decide_eq_true_iff, Int.sign_eq_zero_iff_zero, Rat.num_eq_zero]
set_option maxRecDepth 100000 in
set_option maxHeartbeats 4000000 in
theorem tclos_any (p0 p1 p2 : Int) (b : Bool) (A : Option Addr) (n d : Nat) (b' : Bool) (A' : Option Addr) (n' d' : Nat) (q : Rat) (w : World) (h : FracV w (.agg #[.bool b, .slice A n d, .bool b', .slice A' n' d']) q) (hf : FitQ 1000 q) :
    Calls Tryz.prog 83 #[.agg #[.int .i64 p0, .int .i64 p1, .int .i64 p2, .bool b, .slice A n d, .bool b', .slice A' n' d']] w fun e w' => e = .returned (.bool (decide (q = 0))) ∧ Ext w w' := by
  have HV := Lib.hid h
  have SG := Lib.hid (fun w' h => fsign_any (.agg #[.bool b, .slice A n d, .bool b', .slice A' n' d']) q w' h hf (by decide))
  have HZ := Lib.hid (sign_zero (q := q))
  generalize q.num.sign = z at *
  clear h hf
  go_enter Tryz.func83, Tryz.ntmps83
  go_upto_region 1 with fail
  refine box1 (P := fun W => Code.wp _ _ _ _ W) fun W HX0 BX => ?_
  have k3 := BX.out.cell (i := 3) rfl
  have k4 := BX.out.cell (i := 4) rfl
  have k5 := BX.out.cell (i := 5) rfl
  have k6 := BX.out.cell (i := 6) rfl
  go_wp2_with fail
  refine (SG.out W (HV.out.ext HX0.out)).mono ?_
  rintro e w1 ⟨rfl, hx1⟩
  go_wp2
  go_ret
  exact ⟨ret_bool (by rw [← HZ.out]), HX0.out.trans hx1⟩
set_option maxRecDepth 100000 in
set_option maxHeartbeats 4000000 in
theorem tindex_any (v : Value) (l : List Tm) (w : World) (h : TL w v l) (hf : ∀ t ∈ l, FitQ 1000 t.2) :
    Calls Tryz.prog 103 #[v, .func (.func 83) #[] #[]] w fun e w' => ∃ z : Int, ((z = -1 ∧ ∀ t ∈ l, ¬ t.2 = 0) ∨ ∃ i, ∃ h : i < l.length, z = (i : Int) ∧ l[i].2 = 0 ∧ ∀ t ∈ l.take i, ¬ t.2 = 0) ∧ e = .returned (.int .i64 z) ∧ Ext w w' := by
  obtain ⟨A, ca, rfl, _, hca, HA⟩ := h.parts
  have hca : ca ≤ 9223372036854775807 := by unfold maxLen at hca; omega
  have HF := Lib.hid hf
  clear h hf
  go_enter Tryz.func103, Tryz.ntmps103
  go_wp2_with fail
  go_loopw [5, 8] (fun _ v8 wr => ∃ k : Nat, k ≤ l.length ∧ v8 = .int .i64 k ∧ Hid (∀ t ∈ l.take k, ¬ t.2 = 0) ∧ Hid (Ext w wr)) (fun _ v8 _ => l.length - (RowKit.intOf v8).toNat)
  case atStart => exact ⟨0, Nat.zero_le _, rfl, (fun t ht => by simp at ht), Ext.refl _⟩
  case round =>
    obtain ⟨k, hk, rfl, HN, HXr⟩ := hrel
    by_cases hkl : k < l.length
    · obtain ⟨g1, o1, q0, q1, q2, x0, X0, x1, x2, y0, Y0, y1, y2, rfl, _, _, V1, c0, c1, c2, c3, c4, c5, c6⟩ := TL.get (TL.ext HA.out HXr.out) hkl
      have CL1 := Lib.hid (tclos_any q0 q1 q2 _ _ _ _ _ _ _ _ l[k].2 wr V1.out (HF.out _ (List.getElem_mem hkl)))
      by_cases hz : l[k].2 = 0
      · have HE : Hid (∃ i, ∃ h : i < l.length, (k : Int) = (i : Int) ∧ l[i].2 = 0 ∧ ∀ t ∈ l.take i, ¬ t.2 = 0) := ⟨k, hkl, rfl, hz, HN.out⟩
        rw [decide_eq_true hz] at CL1
        clear hz
        go_wp2_with fail
        refine CL1.out.mono ?_
        rintro e w2 ⟨rfl, hx2⟩
        have HX2 := Lib.hid (HXr.out.trans hx2)
        clear hx2 c0 c1 c2 c3 c4 c5 c6
        go_wp2
        go_ret
        exact ⟨(k : Int), .inr HE.out, rfl, HX2.out⟩
      · have HN2 : Hid (∀ t ∈ l.take (k + 1), ¬ t.2 = 0) := by
          intro t ht
          rw [List.take_succ_eq_append_getElem hkl] at ht
          rcases List.mem_append.1 ht with h | h
          · exact HN.out t h
          · rw [List.mem_singleton.1 h]; exact hz
        rw [decide_eq_false hz] at CL1
        clear hz
        go_wp2_with fail
        refine CL1.out.mono ?_
        rintro e w2 ⟨rfl, hx2⟩
        have HX2 := Lib.hid (HXr.out.trans hx2)
        clear hx2 c0 c1 c2 c3 c4 c5 c6
        go_wp2
        go_roundw
        case rel => exact ⟨k + 1, by omega, by go_num, HN2, HX2⟩
        case measure => simp [RowKit.intOf]; omega
    · obtain rfl : k = l.length := by omega
      have HN2 := HN
      rw [List.take_of_length_le (Nat.le_refl _)] at HN2
      go_wp2
      go_ret
      exact ⟨-1, .inl ⟨rfl, HN2.out⟩, rfl, HXr.out⟩
theorem grown_trans {a b c : World} {row : Option Nat} (h : a.grownBy b row) (k : b.grownBy c row) : a.grownBy c row :=
  ⟨k.os.trans h.os, k.tape.trans h.tape, k.output.trans h.output, Nat.le_trans h.size k.size, fun j hj hne => (k.block j (Nat.lt_of_lt_of_le hj h.size) hne).trans (h.block j hj hne)⟩
theorem set7 {α : Type} (x2 : List α) (a0 a1 a2 a3 a4 a5 a6 u0 u1 u2 u3 u4 u5 u6 : α) : ∀ x1 : List α, (((((((x1 ++ ([a0, a1, a2, a3, a4, a5, a6] ++ x2)).set x1.length u0).set (x1.length + 1) u1).set (x1.length + 2) u2).set (x1.length + 3) u3).set (x1.length + 4) u4).set (x1.length + 5) u5).set (x1.length + 6) u6 = x1 ++ ([u0, u1, u2, u3, u4, u5, u6] ++ x2)
  | [] => rfl
  | y :: x1 => by
    have h := set7 x2 a0 a1 a2 a3 a4 a5 a6 u0 u1 u2 u3 u4 u5 u6 x1
    rw [List.cons_append, List.length_cons, List.set_cons_succ, Nat.add_right_comm, List.set_cons_succ, Nat.add_right_comm, List.set_cons_succ, Nat.add_right_comm, List.set_cons_succ, Nat.add_right_comm, List.set_cons_succ, Nat.add_right_comm, List.set_cons_succ, Nat.add_right_comm, List.set_cons_succ, h]
    rfl
/-- one element of an owned row of products is written -/
theorem own_put7 {w : World} {base g n c i : Nat} {xs : List Value} {L : List Tm} {x : Tm} {u0 u1 u2 u3 u4 u5 u6 : Value} (h : w.ownsRow base tTerm 7 (.slice (some ⟨g, 0, none⟩) n c) n xs) (hc : Ch (TmR w) xs L) (hi : i < L.length) (hx : TmR w [u0, u1, u2, u3, u4, u5, u6] x) :
    ∃ W', (((((((w.setCell ⟨g, i * 7, none⟩ u0).setCell ⟨g, i * 7 + 1, none⟩ u1).setCell ⟨g, i * 7 + 2, none⟩ u2).setCell ⟨g, i * 7 + 3, none⟩ u3).setCell ⟨g, i * 7 + 4, none⟩ u4).setCell ⟨g, i * 7 + 5, none⟩ u5).setCell ⟨g, i * 7 + 6, none⟩ u6) = W' ∧ Hid (∃ xs', W'.ownsRow base tTerm 7 (.slice (some ⟨g, 0, none⟩) n c) n xs' ∧ Ch (TmR W') xs' (L.set i x)) ∧ Hid (w.grownBy W' (some g)) := by
  obtain ⟨x1, d, x2, e, hl, h1, h2, h3⟩ := Ch.split (TmR.seven w) hc hi
  obtain ⟨a0, g0⟩ := h.stored (i * 7) u0
  obtain ⟨a1, g1⟩ := a0.stored (i * 7 + 1) u1
  obtain ⟨a2, g2⟩ := a1.stored (i * 7 + 2) u2
  obtain ⟨a3, g3⟩ := a2.stored (i * 7 + 3) u3
  obtain ⟨a4, g4⟩ := a3.stored (i * 7 + 4) u4
  obtain ⟨a5, g5⟩ := a4.stored (i * 7 + 5) u5
  obtain ⟨a6, g6⟩ := a5.stored (i * 7 + 6) u6
  have hg := grown_trans (grown_trans (grown_trans (grown_trans (grown_trans (grown_trans g0 g1) g2) g3) g4) g5) g6
  refine ⟨_, rfl, ?_⟩
  clear a0 a1 a2 a3 a4 a5 g0 g1 g2 g3 g4 g5 g6
  generalize (((((((w.setCell ⟨g, i * 7, none⟩ u0).setCell ⟨g, i * 7 + 1, none⟩ u1).setCell ⟨g, i * 7 + 2, none⟩ u2).setCell ⟨g, i * 7 + 3, none⟩ u3).setCell ⟨g, i * 7 + 4, none⟩ u4).setCell ⟨g, i * 7 + 5, none⟩ u5).setCell ⟨g, i * 7 + 6, none⟩ u6) = W' at *
  have hk : ∀ u ∈ [tU64], Kept u w W' := fun u hu => Kept.grown h hg (by simp only [List.mem_singleton] at hu; subst hu; decide)
  obtain ⟨_, _, _, _, _, _, _, _, _, _, _, rfl, _⟩ := h2
  rw [e, ← hl] at a6
  rw [set7] at a6
  have hset : L.set i x = L.take i ++ (x :: L.drop (i + 1)) := by
    rw [List.set_eq_take_append_cons_drop, if_pos hi]
  refine ⟨⟨_, a6, ?_⟩, hg⟩
  rw [hset]
  have hc2 : Ch (TmR W') ([u0, u1, u2, u3, u4, u5, u6] ++ x2) (x :: L.drop (i + 1)) := ⟨[u0, u1, u2, u3, u4, u5, u6], x2, rfl, TmR.stab _ _ _ _ hk hx, h3.mono fun c y hy => TmR.stab _ _ _ _ hk hy⟩
  exact Ch.append hc2 (h1.mono fun c y hy => TmR.stab _ _ _ _ hk hy)
/-- cells of an owned row, from one on, are written -/
theorem own_cells {base g n c : Nat} : ∀ (vs : List Value) {w : World} {o : Nat} {xs : List Value}, w.ownsRow base tTerm 7 (.slice (some ⟨g, 0, none⟩) n c) n xs → ∃ ys, (w.setCells g o vs).ownsRow base tTerm 7 (.slice (some ⟨g, 0, none⟩) n c) n ys ∧ (∀ j, j < o → ys[j]? = xs[j]?) ∧ w.grownBy (w.setCells g o vs) (some g)
  | [], w, o, xs, h => ⟨xs, h, fun _ _ => rfl, ⟨rfl, rfl, rfl, Nat.le_refl _, fun _ _ _ => rfl⟩⟩
  | v :: vs, w, o, xs, h => by
    obtain ⟨h1, h2⟩ := h.stored o v
    obtain ⟨ys, h3, h4, h5⟩ := own_cells vs (o := o + 1) h1
    exact ⟨ys, h3, fun j hj => by rw [h4 j (by omega), List.getElem?_set_ne (by omega)], grown_trans h2 h5⟩
def zterm : Array Value := #[.int .i64 0, .int .i64 0, .int .i64 0, .bool false, .slice none 0 0, .bool false, .slice none 0 0]
theorem run_clear_terms (g o m c : Nat) (ty : TypeId) (w : World) (hm : 0 < m) (hc : ∀ j, j < m * 7 → (w.cell? ⟨g, o + j, none⟩).isSome = true) (hf : ∀ j, j < m * 7 → w.frozen? ⟨g, o + j, none⟩ = false) :
    (Builtin.clear_ #[87] ty #[.slice (some ⟨g, o, none⟩) m c]).run Tryz.prog w = .ok (.tuple #[]) (w.setCells g o (Builtin.zeroCells zterm m).toList) := by
  have hlen : (Builtin.zeroCells zterm m).toList.length = m * 7 := by simp [Builtin.zeroCells, zterm]
  have hst := run_storeCells_cells (P := Tryz.prog) g o (Builtin.zeroCells zterm m).toList 0 w (by rw [hlen]; simpa using hc) (by rw [hlen]; simpa using hf) (by
    intro v hv
    simp only [Builtin.zeroCells, Array.toList_map, List.mem_map] at hv
    obtain ⟨i, _, rfl⟩ := hv
    have h7 : i % zterm.size < 7 := Nat.mod_lt _ (by decide)
    generalize i % zterm.size = k at *
    rcases k with _ | _ | _ | _ | _ | _ | _ | k
    · rfl
    · rfl
    · rfl
    · rfl
    · rfl
    · rfl
    · rfl
    · omega)
  simp only [Nat.add_zero] at hst
  obtain ⟨m, rfl⟩ : ∃ k, m = k + 1 := ⟨m - 1, by omega⟩
  unfold zterm at hst ⊢
  simp [Builtin.clear_, run_underlying term_slice.ht, Value.cells, hst]
theorem nz_take {l : List Tm} {i : Nat} (hi : i < l.length) (h0 : l[i].2 = 0) (hn : ∀ t ∈ l.take i, ¬ t.2 = 0) : l.take i = (l.take (i + 1)).filter fun t => decide (t.2 ≠ 0) := by
  rw [List.take_succ_eq_append_getElem hi, List.filter_append, List.filter_eq_self.2 (fun t ht => by simpa using hn t ht), List.filter_cons_of_neg (by simp [h0])]
  simp
theorem nz_next {l : List Tm} {j : Nat} (hj : j < l.length) (h0 : ¬ l[j].2 = 0) : (l.take (j + 1)).filter (fun t => decide (t.2 ≠ 0)) = (l.take j).filter (fun t => decide (t.2 ≠ 0)) ++ [l[j]] := by
  rw [List.take_succ_eq_append_getElem hj, List.filter_append, List.filter_cons_of_pos (by simp [h0])]
  simp
theorem nz_skip {l : List Tm} {j : Nat} (hj : j < l.length) (h0 : l[j].2 = 0) : (l.take (j + 1)).filter (fun t => decide (t.2 ≠ 0)) = (l.take j).filter (fun t => decide (t.2 ≠ 0)) := by
  rw [List.take_succ_eq_append_getElem hj, List.filter_append, List.filter_cons_of_neg (by simp [h0])]
  simp
theorem drop_get {α : Type} {L l : List α} {j : Nat} (h : L.drop j = l.drop j) (hL : j < L.length) (hl : j < l.length) : L[j] = l[j] := by
  have h1 : (L.drop j)[0]? = (l.drop j)[0]? := by rw [h]
  simpa [List.getElem?_drop, hL, hl] using h1
theorem drop_next {α : Type} {L l : List α} {j : Nat} (h : L.drop j = l.drop j) : L.drop (j + 1) = l.drop (j + 1) := by
  have h1 := congrArg (List.drop 1) h
  rwa [List.drop_drop, List.drop_drop] at h1
theorem set_take {α : Type} {L : List α} {i : Nat} {x : α} (h : i < L.length) : (L.set i x).take (i + 1) = L.take i ++ [x] := by
  rw [List.take_succ_eq_append_getElem (by rw [List.length_set]; exact h), List.take_set_of_le (Nat.le_refl _), List.getElem_set_self]
/-- the first k of an owned row, as a list -/
theorem own_prefix {w : World} {base g n c k : Nat} {xs ys : List Value} {L : List Tm} (h : w.ownsRow base tTerm 7 (.slice (some ⟨g, 0, none⟩) n c) n ys) (hc : Ch (TmR w) xs L) (hk : k ≤ L.length) (hL : L.length = n) (he : ∀ j, j < k * 7 → ys[j]? = xs[j]?) : TL w (.slice (some ⟨g, 0, none⟩) k c) (L.take k) := by
  obtain ⟨A, c', e, h1, h2, h3⟩ := own_parts h
  injection e with e1 _ e2
  subst e1 e2
  have hl : (L.take k).length = k := by rw [List.length_take, Nat.min_eq_left hk]
  refine ⟨some ⟨g, 0, none⟩, c, xs.take (k * 7), by rw [hl], by rw [hl]; omega, h2, (fun h => by cases h), ?_, Ch.take (TmR.seven w) hc k⟩
  intro j u hu
  rw [List.getElem?_take] at hu
  split at hu
  · rename_i hj
    rw [← he j hj] at hu
    exact h3 j u hu
  · cases hu
set_option maxRecDepth 100000 in
set_option maxHeartbeats 8000000 in
theorem tdelete_any (A : Option Addr) (c base : Nat) (l : List Tm) (a w : World) (h : OwnL tTerm 7 TmR base w (.slice A l.length c) l) (hf : ∀ t ∈ l, FitQ 1000 t.2) (he : Ext a w) (ha : a.heap.size ≤ base) :
    Calls Tryz.prog 82 #[.slice A l.length c, .func (.func 83) #[] #[]] w fun e w' => ∃ A' k c', e = .returned (.slice A' k c') ∧ TL w' (.slice A' k c') (l.filter fun t => decide (t.2 ≠ 0)) ∧ Ext a w' := by
  have HO := Lib.hid h
  have HF := Lib.hid hf
  have HE := Lib.hid he
  have IX := Lib.hid (tindex_any _ l w h.ls hf)
  obtain ⟨-, hcc, hcm⟩ := cap_le h.ls
  clear h hf he
  go_enter Tryz.func82, Tryz.ntmps82
  go_wp2_with fail
  refine IX.out.mono ?_
  rintro e w1 ⟨z, hz, rfl, hx1⟩
  have HO1 := Lib.hid (HO.out.ext TmR.stab hx1)
  have HE1 := Lib.hid (HE.out.trans hx1)
  clear hx1 IX
  rcases hz with ⟨rfl, hz⟩ | ⟨i, hi, rfl, hz, hzn⟩
  · have HL : Hid ((l.filter fun t => decide (t.2 ≠ 0)) = l) := List.filter_eq_self.2 (fun t ht => by simpa using hz t ht)
    clear hz
    go_wp2
    go_ret
    exact ⟨A, l.length, c, rfl, by rw [HL.out]; exact HO1.out.ls, HE1.out⟩
  · have HT1 := Lib.hid (nz_take hi hz hzn)
    have hd : ((i : Int) == -1) = false := by rw [beq_eq_false_iff_ne]; omega
    clear hz hzn
    obtain ⟨A', c', xs1, e, _, _, R1, C1⟩ := HO1.out.parts
    injection e with e1 _ e2
    subst e1 e2
    obtain ⟨g, rfl, hgb, hgw⟩ := own_some R1.out (by omega)
    clear R1 C1
    go_wp2_with fail
    clear hd
    go_loopw [5, 6, 7] (fun v5 v6 _ wr => ∃ (i j : Nat) (L : List Tm), i < j ∧ j ≤ l.length ∧ v5 = .int .i64 i ∧ v6 = .int .i64 j ∧ Hid (L.length = l.length) ∧ Hid (L.take i = (l.take j).filter fun t => decide (t.2 ≠ 0)) ∧ Hid (L.drop j = l.drop j) ∧ Hid (∃ xs, wr.ownsRow base tTerm 7 (.slice (some ⟨g, 0, none⟩) l.length c) l.length xs ∧ Ch (TmR wr) xs L) ∧ Hid (Ext a wr)) (fun _ v6 _ _ => l.length - (RowKit.intOf v6).toNat)
    case atStart =>
      obtain ⟨xs, h1, h2⟩ := HO1.out
      exact ⟨i, i + 1, l, by omega, by omega, rfl, by go_num, rfl, HT1, rfl, ⟨xs, h1, h2⟩, HE1⟩
    case round =>
      obtain ⟨i, j, L, hij, hjl, rfl, rfl, HLL, HTK, HDR, HOW, HXr⟩ := hrel
      by_cases hjn : j < l.length
      · have hjL : j < L.length := by rw [HLL.out]; exact hjn
        have hiL : i < L.length := by rw [HLL.out]; omega
        have HEQ := Lib.hid (drop_get HDR.out hjL hjn)
        have HTL : Hid (TL wr (.slice (some ⟨g, 0, none⟩) l.length c) L) := by
          obtain ⟨xs, R, C⟩ := HOW.out
          have h := (OwnL.of (l := L) (A := some ⟨g, 0, none⟩) (c := c) (by rw [HLL.out]; exact R) C).ls
          rw [HLL.out] at h
          exact h
        obtain ⟨g', o', q0, q1, q2, x0, X0, x1, x2, y0, Y0, y1, y2, e, _, HP, V1, c0, c1, c2, c3, c4, c5, c6⟩ := TL.get HTL.out hjL
        injection e with e
        injection e with e1 e2
        subst e1 e2
        rw [Nat.zero_add] at c0 c1 c2 c3 c4 c5 c6
        rw [HEQ.out] at V1 HP
        have HPP := Lib.hid HP
        have CL1 := Lib.hid (fun w' (hx : Ext wr w') => tclos_any q0 q1 q2 _ _ _ _ _ _ _ _ l[j].2 w' (V1.out.ext hx) (HF.out _ (List.getElem_mem hjn)))
        clear HP
        go_upto_region 8 with fail
        refine box1 (P := fun W => Code.wp _ _ _ _ W) fun W2 HX2 BX => ?_
        have k0 := BX.out.cell (i := 0) rfl
        have k1 := BX.out.cell (i := 1) rfl
        have k2 := BX.out.cell (i := 2) rfl
        have k3 := BX.out.cell (i := 3) rfl
        have k4 := BX.out.cell (i := 4) rfl
        have k5 := BX.out.cell (i := 5) rfl
        have k6 := BX.out.cell (i := 6) rfl
        clear c0 c1 c2 c3 c4 c5 c6
        by_cases hz : l[j].2 = 0
        · have HTK2 : Hid (L.take i = (l.take (j + 1)).filter fun t => decide (t.2 ≠ 0)) := by rw [Hid, nz_skip hjn hz]; exact HTK.out
          rw [decide_eq_true hz] at CL1
          clear hz
          go_wp2_with fail
          refine (CL1.out W2 HX2.out).mono ?_
          rintro e w3 ⟨rfl, hx3⟩
          have hy3 := HX2.out.trans hx3
          have HOW3 : Hid (∃ xs, w3.ownsRow base tTerm 7 (.slice (some ⟨g, 0, none⟩) l.length c) l.length xs ∧ Ch (TmR w3) xs L) := by
            obtain ⟨xs, R, C⟩ := HOW.out
            exact ⟨xs, own_extR R hy3, C.mono fun c x hc => TmR.stab _ _ _ _ (fun _ _ => .of_below hy3) hc⟩
          have HX3 := Lib.hid (HXr.out.trans hy3)
          have HDR2 := Lib.hid (drop_next HDR.out)
          clear k0 k1 k2 k3 k4 k5 k6 hx3 hy3
          go_wp2
          go_roundw
          case rel => exact ⟨i, j + 1, L, by omega, by omega, rfl, by go_num, HLL, HTK2, HDR2, HOW3, HX3⟩
          case measure => simp [RowKit.intOf]; omega
        · have HNX := Lib.hid (nz_next hjn hz)
          rw [decide_eq_false hz] at CL1
          clear hz
          go_wp2_with fail
          refine (CL1.out W2 HX2.out).mono ?_
          rintro e w3 ⟨rfl, hx3⟩
          have hy3 := HX2.out.trans hx3
          have BX3 := Lib.hid (BX.out.ext hx3)
          have V3 := Lib.hid (V1.out.ext hy3)
          have HX3 := Lib.hid (HXr.out.trans hy3)
          obtain ⟨xs, R, C⟩ := HOW.out
          have R3 := Lib.hid (own_extR R hy3)
          have C3 : Hid (Ch (TmR w3) xs L) := C.mono fun c x hc => TmR.stab _ _ _ _ (fun _ _ => .of_below hy3) hc
          have HTL3 := Lib.hid (TL.ext HTL.out hy3)
          obtain ⟨W4, hW4, HOW4, HG4⟩ := own_put7 R3.out C3.out hiL (x := l[j]) ⟨q0, q1, q2, _, _, _, _, _, _, _, _, rfl, HPP.out, V3.out⟩
          have HW := Lib.hid hW4
          have HX4 := Lib.hid (grown_below HX3.out R3.out HG4.out ha)
          clear k0 k1 k2 k3 k4 k5 k6 hx3 hy3 R C hW4
          have k0 := BX3.out.cell (i := 0) rfl
          have k1 := BX3.out.cell (i := 1) rfl
          have k2 := BX3.out.cell (i := 2) rfl
          have k3 := BX3.out.cell (i := 3) rfl
          have k4 := BX3.out.cell (i := 4) rfl
          have k5 := BX3.out.cell (i := 5) rfl
          have k6 := BX3.out.cell (i := 6) rfl
          obtain ⟨g', o', r0, r1, r2, s0, S0, s1, s2, t0, T0, t1, t2, e, _, _, _, d0, d1, d2, d3, d4, d5, d6⟩ := TL.get HTL3.out hiL
          injection e with e
          injection e with e1 e2
          subst e1 e2
          rw [Nat.zero_add] at d0 d1 d2 d3 d4 d5 d6
          have f0 := R3.out.frozenAt (i * 7)
          have f1 := R3.out.frozenAt (i * 7 + 1)
          have f2 := R3.out.frozenAt (i * 7 + 2)
          have f3 := R3.out.frozenAt (i * 7 + 3)
          have f4 := R3.out.frozenAt (i * 7 + 4)
          have f5 := R3.out.frozenAt (i * 7 + 5)
          have f6 := R3.out.frozenAt (i * 7 + 6)
          go_upto_region 10 with fail
          rw [HW.out]
          clear k0 k1 k2 k3 k4 k5 k6 d0 d1 d2 d3 d4 d5 d6 f0 f1 f2 f3 f4 f5 f6
          have HLS : Hid ((L.set i l[j]).length = l.length) := by rw [Hid, List.length_set]; exact HLL.out
          have HTS : Hid ((L.set i l[j]).take (i + 1) = (l.take (j + 1)).filter fun t => decide (t.2 ≠ 0)) := by rw [Hid, HNX.out, ← HTK.out]; exact set_take hiL
          have HDS : Hid ((L.set i l[j]).drop (j + 1) = l.drop (j + 1)) := by rw [Hid, List.drop_set_of_lt (by omega)]; exact drop_next HDR.out
          generalize L.set i l[j] = L2 at *
          go_wp2
          go_roundw
          case rel => exact ⟨i + 1, j + 1, L2, by omega, by omega, by go_num, by go_num, HLS, HTS, HDS, HOW4, HX4⟩
          case measure => simp [RowKit.intOf]; omega
      · obtain rfl : j = l.length := by omega
        rw [List.take_of_length_le (Nat.le_refl _)] at HTK
        obtain ⟨xs, R, C⟩ := HOW.out
        have hxl : xs.length = l.length * 7 := R.1
        have hcl := fun ty => run_clear_terms g (i * 7) (l.length - i) (c - i) ty wr (by omega) (fun j hj => by
          rw [R.cellAt (i * 7 + j) (by rw [Nat.sub_mul] at hj; omega), List.getElem?_eq_getElem (by rw [hxl]; rw [Nat.sub_mul] at hj; omega)]
          rfl) (fun j _ => R.frozenAt _)
        obtain ⟨ys, R2, hy, HG2⟩ := own_cells (Builtin.zeroCells zterm (l.length - i)).toList (o := i * 7) R
        have hk := fun u (hu : u ∈ [tU64]) => Kept.grown (t := u) R HG2 (by simp only [List.mem_singleton] at hu; subst hu; decide)
        have HTL2 := Lib.hid (own_prefix R2 (C.mono fun c x hc => TmR.stab _ _ _ _ hk hc) (show i ≤ L.length by rw [HLL.out]; omega) HLL.out hy)
        rw [HTK.out] at HTL2
        have HX2 := Lib.hid (grown_below HXr.out R HG2 ha)
        generalize wr.setCells g (i * 7) (Builtin.zeroCells zterm (l.length - i)).toList = W2 at *
        clear R2 hy HG2 hk hxl R C
        go_wp2
        go_ret
        exact ⟨_, i, c, rfl, HTL2.out, HX2.out⟩
end Go.Proofs.YtemnoemjmeflbaaGreatDoor
