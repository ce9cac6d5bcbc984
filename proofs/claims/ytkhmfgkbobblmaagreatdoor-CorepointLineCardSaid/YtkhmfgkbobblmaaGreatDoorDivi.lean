/- corepoint.line.divide. -/
import Derived.Test.YtkhmfgkbobblmaaGreatDoorPart
namespace Go.Proofs.YtkhmfgkbobblmaaGreatDoor
open Go.RowKit Go.Lib

abbrev tDivi : TypeId := 80
abbrev tDivis : TypeId := 81
/-- a division: its cost, where the second part begins -/
abbrev Dv := Rat × Nat
def DvR (w : World) (c : List Value) (x : Dv) : Prop := ∃ b A n c1 b' A' n' c2, c = [.bool b, .slice A n c1, .bool b', .slice A' n' c2, .int .i64 x.2] ∧ FracV w (.agg #[.bool b, .slice A n c1, .bool b', .slice A' n' c2]) x.1
theorem DvR.stab : Stab [tU64] DvR := fun _ _ _ _ hk ⟨b, A, n, c1, b', A', n', c2, e, h⟩ => ⟨b, A, n, c1, b', A', n', c2, e, h.keep (hk _ (by simp))⟩
theorem DvR.five (w : World) (c : List Value) (x : Dv) (h : DvR w c x) : c.length = 5 := by obtain ⟨_, _, _, _, _, _, _, _, rfl, _⟩ := h; rfl
abbrev DL := Ls tDivi DvR
abbrev DDL := Ls tDivis (OneR tDivi DvR)
theorem DDR.stab : Stab [tDivi, tU64] (OneR tDivi DvR) := OneR.stab DvR.stab
theorem DL.ext {w w' : World} {v : Value} {l : List Dv} (h : DL w v l) (hx : Ext w w') : DL w' v l := Ls.ext DvR.stab h hx
theorem DDL.ext {w w' : World} {v : Value} {l : List (List Dv)} (h : DDL w v l) (hx : Ext w w') : DDL w' v l := Ls.ext DDR.stab h hx
theorem DL.get {w : World} {A : Option Addr} {n c : Nat} {l : List Dv} (h : DL w (.slice A n c) l) {i : Nat} (hi : i < l.length) : ∃ g o b A1 n1 c1 b' A2 n2 c2, A = some ⟨g, o, none⟩ ∧ g < w.heap.size ∧ Hid (FracV w (.agg #[.bool b, .slice A1 n1 c1, .bool b', .slice A2 n2 c2]) l[i].1) ∧
    w.cell? ⟨g, o + i * 5, none⟩ = some (.bool b) ∧ w.cell? ⟨g, o + i * 5 + 1, none⟩ = some (.slice A1 n1 c1) ∧ w.cell? ⟨g, o + i * 5 + 2, none⟩ = some (.bool b') ∧ w.cell? ⟨g, o + i * 5 + 3, none⟩ = some (.slice A2 n2 c2) ∧ w.cell? ⟨g, o + i * 5 + 4, none⟩ = some (.int .i64 l[i].2) := by
  obtain ⟨g, o, d, h1, h2, ⟨b, A1, n1, c1, b', A2, n2, c2, rfl, h3⟩, h4⟩ := Ls.get DvR.five (by decide) h hi
  exact ⟨g, o, b, A1, n1, c1, b', A2, n2, c2, h1, h2, h3, h4 0 _ rfl, h4 1 _ rfl, h4 2 _ rfl, h4 3 _ rfl, h4 4 _ rfl⟩
theorem divis_slice : SliceTy Tryz.prog 71 tDivis 1 24 := .mk' (z := .slice none 0 0) (by kernel_rfl) (by kernel_rfl) rfl (by decide) (by decide)
theorem divi_slice : SliceTy Tryz.prog tDivis tDivi 5 72 := .mk' (z := .agg #[.bool false, .slice none 0 0, .bool false, .slice none 0 0, .int .i64 0]) (by kernel_rfl) (by kernel_rfl) rfl (by decide) (by decide)
/-- n divisions as make lays them -/
def zdiv : List Value := [.bool false, .slice none 0 0, .bool false, .slice none 0 0, .int .i64 0]
def zdivs (n : Nat) : List Value := (List.replicate n zdiv).flatten
theorem zdivs_length (n : Nat) : (zdivs n).length = n * 5 := by
  induction n with
  | zero => rfl
  | succ n ih => rw [zdivs, List.replicate_succ, List.flatten_cons, List.length_append, ← zdivs, ih, Nat.succ_mul]; simp [zdiv]; omega
theorem zdivs_get (n : Nat) : ∀ i, i < n * 5 → (zdivs n)[i]? = zdiv[i % 5]? := by
  induction n with
  | zero => intro i h; omega
  | succ n ih =>
    intro i h
    rw [zdivs, List.replicate_succ, List.flatten_cons, ← zdivs]
    rcases Nat.lt_or_ge i 5 with h4 | h4
    · rw [List.getElem?_append_left (by simpa [zdiv] using h4), Nat.mod_eq_of_lt h4]
    · rw [List.getElem?_append_right (by simpa [zdiv] using h4), show zdiv.length = 5 from rfl, ih (i - 5) (by omega), show i % 5 = (i - 5) % 5 by omega]
theorem made_five (n : Nat) : madeCells #[.bool false, .slice none 0 0, .bool false, .slice none 0 0, .int .i64 0] (n * 5) = (zdivs n).toArray := by
  apply Array.ext
  · simp [madeCells, zdivs_length]
  · intro i h1 h2
    have h3 : i < n * 5 := by simpa [zdivs_length] using h2
    have h := zdivs_get n i h3
    rw [List.getElem?_eq_getElem (by simpa using h2), List.getElem?_eq_getElem (by simp [zdiv]; omega)] at h
    injection h with h
    simp only [List.getElem_toArray]
    rw [h]
    have h5 : i % 5 < 5 := Nat.mod_lt _ (by decide)
    simp only [madeCells, Array.getElem_map, Array.getElem_range, List.size_toArray, List.length_cons, List.length_nil, zdiv]
    rw [getElem!_pos _ _ (by simpa using h5)]
    rfl
theorem divi_info : (Tryz.prog.info? tDivi).map (fun i => (i.zero, i.size, i.bytes)) = some (some (.agg #[.bool false, .slice none 0 0, .bool false, .slice none 0 0, .int .i64 0]), 5, 72) := by kernel_rfl
theorem make_divi (n : Nat) (h : n ≤ 1000000) (w : World) :
    (Instr.makeSlice tDivis (.int .i64 (n : Int)) (.int .i64 (n : Int))).run Tryz.prog w = .ok (.slice (some ⟨w.heap.size, 0, none⟩) n n) (w.alloc (.cells (zdivs n).toArray tDivi)) := by
  obtain ⟨i0, hi, hz0, hz1, hz2⟩ := info_parts divi_info
  have hr := run_make (P := Tryz.prog) w tDivis tDivi i0 (.agg #[.bool false, .slice none 0 0, .bool false, .slice none 0 0, .int .i64 0]) Tryz.underlying81 hi hz0 .i64 .i64 (n : Int) (n : Int) (by omega) (Int.le_refl _) (by rw [hz2]; omega) (by omega)
  simp only [Int.toNat_natCast, hz1, Value.cells] at hr
  rw [hr, ← made_five]
theorem zdivs_succ {n k : Nat} (h : k < n) : zdivs (n - k) = zdiv ++ zdivs (n - (k + 1)) := by
  rw [show n - k = (n - (k + 1)) + 1 by omega, zdivs, List.replicate_succ, List.flatten_cons, ← zdivs]
theorem row5_cells {w : World} {g k : Nat} {t : TypeId} {xs ys : List Value} {a b c d e : Value} (hB : Blk w g t (xs ++ ([a, b, c, d, e] ++ ys))) (hx : xs.length = k * 5) :
    w.cell? ⟨g, k * 5, none⟩ = some a ∧ w.cell? ⟨g, k * 5 + 1, none⟩ = some b ∧ w.cell? ⟨g, k * 5 + 2, none⟩ = some c ∧ w.cell? ⟨g, k * 5 + 3, none⟩ = some d ∧ w.cell? ⟨g, k * 5 + 4, none⟩ = some e := by
  refine ⟨hB.cell ?_, hB.cell ?_, hB.cell ?_, hB.cell ?_, hB.cell ?_⟩ <;> rw [List.getElem?_append_right (by omega), hx]
  · rw [Nat.sub_self]; rfl
  · rw [show k * 5 + 1 - k * 5 = 1 by omega]; rfl
  · rw [show k * 5 + 2 - k * 5 = 2 by omega]; rfl
  · rw [show k * 5 + 3 - k * 5 = 3 by omega]; rfl
  · rw [show k * 5 + 4 - k * 5 = 4 by omega]; rfl
/-- a store of a division into a row: the world behind it, named -/
theorem store5 {w : World} {g k : Nat} {xs ys : List Value} {o0 o1 o2 o3 o4 : Value} (hB : Blk w g tDivi (xs ++ ([o0, o1, o2, o3, o4] ++ ys))) (hx : xs.length = k * 5) (x0 x1 x2 x3 x4 : Value) :
    ∃ W', (((((w.setCell ⟨g, k * 5, none⟩ x0).setCell ⟨g, k * 5 + 1, none⟩ x1).setCell ⟨g, k * 5 + 2, none⟩ x2).setCell ⟨g, k * 5 + 3, none⟩ x3).setCell ⟨g, k * 5 + 4, none⟩ x4) = W' ∧ Hid (Blk W' g tDivi (xs ++ ([x0, x1, x2, x3, x4] ++ ys))) ∧ Hid (∀ u, tDivi ≠ u → Kept u w W') ∧ Hid (Only g w W') := by
  have b0 := hB.set_ (k * 5) x0
  have b1 := b0.set_ (k * 5 + 1) x1
  have b2 := b1.set_ (k * 5 + 2) x2
  have b3 := b2.set_ (k * 5 + 3) x3
  have b4 := b3.set_ (k * 5 + 4) x4
  refine ⟨_, rfl, ?_, fun u hu => ((((hB.kept_set hu _ _).trans (b0.kept_set hu _ _)).trans (b1.kept_set hu _ _)).trans (b2.kept_set hu _ _)).trans (b3.kept_set hu _ _), (((((Only.refl g w).set_ _ _).set_ _ _).set_ _ _).set_ _ _).set_ _ _⟩
  rw [List.set_append_right _ _ (by omega), List.set_append_right _ _ (by omega), List.set_append_right _ _ (by omega), List.set_append_right _ _ (by omega), List.set_append_right _ _ (by omega), hx, Nat.sub_self, show k * 5 + 1 - k * 5 = 1 by omega, show k * 5 + 2 - k * 5 = 2 by omega, show k * 5 + 3 - k * 5 = 3 by omega, show k * 5 + 4 - k * 5 = 4 by omega] at b4
  exact b4
/-- rows of divisions -/
def rowD (l : List Ms) (p k : Nat) : List Dv := (List.range k).map (dvr l p)
theorem rowD_length (l : List Ms) (p k : Nat) : (rowD l p k).length = k := by simp [rowD]
theorem rowD_next (l : List Ms) (p k : Nat) : rowD l p (k + 1) = rowD l p k ++ [dvr l p k] := by
  unfold rowD
  rw [List.range_succ, List.map_append]
  rfl
theorem rowD_get (l : List Ms) (p k : Nat) {i : Nat} (h : i < k) : (rowD l p k)[i]'(by rw [rowD_length]; exact h) = dvr l p i := by simp [rowD]
/-- the table of divisions into 1 to m parts -/
def tabD (l : List Ms) (m : Nat) : List (List Dv) := (List.range m).map fun p => rowD l p (l.length - p)
theorem tabD_length (l : List Ms) (m : Nat) : (tabD l m).length = m := by simp [tabD]
theorem tabD_next (l : List Ms) (m : Nat) : tabD l (m + 1) = tabD l m ++ [rowD l m (l.length - m)] := by
  unfold tabD
  rw [List.range_succ, List.map_append]
  rfl
theorem tabD_get (l : List Ms) (m : Nat) {p : Nat} (h : p < m) : (tabD l m)[p]'(by rw [tabD_length]; exact h) = rowD l p (l.length - p) := by simp [tabD]
end Go.Proofs.YtkhmfgkbobblmaaGreatDoor
