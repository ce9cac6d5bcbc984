/- machine.coordinates.terms. -/
import Derived.Test.YtemnoemjmeflbaaGreatDoorTerm
namespace Go.Proofs.YtemnoemjmeflbaaGreatDoor
open Go.RowKit Go.Lib

def tcells (p : List Int) (rest : List Value) : List Value := p.map (Value.int .i64) ++ rest
theorem tcells_get {p : List Int} {rest : List Value} {i : Nat} (h : i < p.length) : (tcells p rest)[i]? = some (.int .i64 p[i]) := by
  unfold tcells
  rw [List.getElem?_append_left (by simpa using h)]
  simp [h]
theorem tcells_set {p : List Int} {rest : List Value} {i : Nat} (h : i < p.length) (z : Int) : (tcells p rest).set i (.int .i64 z) = tcells (p.set i z) rest := by
  unfold tcells
  rw [List.set_append_left _ _ (by simpa using h), List.map_set]
theorem e1_length (i : Nat) : (e1 i).length = 3 := by simp [e1]
theorem e2_length (i j : Nat) : (e2 i j).length = 3 := by simp [e2, e1_length]
theorem three {p : List Int} (h : p.length = 3) : ∃ p0 p1 p2, p = [p0, p1, p2] := by
  match p, h with
  | [a, b, c], _ => exact ⟨a, b, c, rfl⟩
theorem termsF_next (c : Rat) (lin : List Rat) (fac : List (List Rat)) (i : Nat) : termsF c lin fac (i + 1) = termsF c lin fac i ++ row lin fac i lin.length := by
  unfold termsF
  rw [List.range_succ, List.flatMap_append, List.cons_append]
  simp
theorem row_first (lin : List Rat) (fac : List (List Rat)) (i : Nat) : row lin fac i (i + 1) = [(e1 i, lin.getD i 0)] := by simp [row]
theorem row_next (lin : List Rat) (fac : List (List Rat)) {i j : Nat} (h : i + 1 ≤ j) : row lin fac i (j + 1) = row lin fac i j ++ [(e2 i j, dot (fac.getD i []) (fac.getD j []))] := by
  unfold row
  rw [show j + 1 - (i + 1) = (j - (i + 1)) + 1 by omega, List.range_succ, List.map_append, List.cons_append]
  simp only [List.map_cons, List.map_nil]
  rw [show i + 1 + (j - (i + 1)) = j by omega]
theorem lit_own {P : World → Prop} {W : World} {t : TypeId} {k : Nat} (cs : List Value) (hl : cs.length = k) (h : ∀ W', Hid (Ext W W') → Hid (W'.ownsRow W.heap.size t k (.slice (some ⟨W.heap.size, 0, none⟩) 1 1) 1 cs) → P W') : P (W.alloc (.cells cs.toArray t)) :=
  h _ ((Ext.refl W).alloc _) (by
    have h1 := World.ownsRow_lit (base := W.heap.size) (e := t) (size := k) W cs.toArray 1 (Nat.le_refl _) (by unfold maxLen; omega) (by simp [hl])
    exact h1)
theorem dot_next {a b : List Rat} {k : Nat} (ha : k < a.length) (hb : k < b.length) : dot (a.take (k + 1)) (b.take (k + 1)) = dot (a.take k) (b.take k) + a[k] * b[k] := by
  unfold dot
  rw [List.take_succ_eq_append_getElem ha, List.take_succ_eq_append_getElem hb, List.zip_append (by simp; omega), List.foldl_append]
  rfl
theorem dot_fit {a b : List Rat} {r : Nat} (ha : a.length = r) (hb : b.length = r) (fa : ∀ q ∈ a, FitQ 2 q) (fb : ∀ q ∈ b, FitQ 2 q) : ∀ k, k ≤ r → FitQ (1 + k * 5) (dot (a.take k) (b.take k))
  | 0, _ => zero_fit (by omega)
  | k + 1, h => by
    rw [dot_next (by omega) (by omega)]
    exact ((dot_fit ha hb fa fb k (by omega)).add ((fa a[k] (by simp)).mul (fb b[k] (by simp)))).mono (by omega)
theorem getD_at {α : Type} {d : α} {l : List α} {i : Nat} (h : i < l.length) : l.getD i d = l[i] := by
  rw [List.getD_eq_getElem?_getD, List.getElem?_eq_getElem h]
  rfl
theorem terms_fit {n r : Nat} {c : Rat} {lin : List Rat} {fac : List (List Rat)} (hm : MOk n r c lin fac) : ∀ t ∈ termsF c lin fac n, FitQ 11 t.2 := by
  intro t ht
  unfold termsF at ht
  rcases List.mem_cons.1 ht with rfl | ht
  · exact hm.fc.mono (by decide)
  · obtain ⟨i, hi, ht⟩ := List.mem_flatMap.1 ht
    have hi : i < n := by simpa using hi
    unfold row at ht
    rcases List.mem_cons.1 ht with rfl | ht
    · show FitQ 11 (lin.getD i 0)
      rw [getD_at (by rw [hm.ll]; exact hi)]
      exact (hm.flin _ (List.getElem_mem _)).mono (by decide)
    · obtain ⟨k, hk, rfl⟩ := List.mem_map.1 ht
      have hk : k < lin.length - (i + 1) := by simpa using hk
      rw [hm.ll] at hk
      show FitQ 11 (dot (fac.getD i []) (fac.getD (i + 1 + k) []))
      have h1 : i < fac.length := by rw [hm.fl]; exact hi
      have h2 : i + 1 + k < fac.length := by rw [hm.fl]; omega
      rw [getD_at h1, getD_at h2]
      have h3 := dot_fit (hm.fr _ (List.getElem_mem h1)) (hm.fr _ (List.getElem_mem h2)) (hm.ffac _ (List.getElem_mem h1)) (hm.ffac _ (List.getElem_mem h2)) r (Nat.le_refl _)
      rw [List.take_of_length_le (by rw [hm.fr _ (List.getElem_mem h1)]; exact Nat.le_refl _), List.take_of_length_le (by rw [hm.fr _ (List.getElem_mem h2)]; exact Nat.le_refl _)] at h3
      have := hm.r2
      exact h3.mono (by omega)
theorem terms_length {n : Nat} {c : Rat} {lin : List Rat} {fac : List (List Rat)} (hl : lin.length = n) (hn : n ≤ 3) : ∀ i, i ≤ n → (termsF c lin fac i).length ≤ 1 + 3 * i
  | 0, _ => by simp [termsF]
  | i + 1, h => by
    have h1 := terms_length (c := c) (fac := fac) hl hn i (by omega)
    rw [termsF_next, List.length_append]
    have h2 : (row lin fac i lin.length).length ≤ 3 := by simp [row]; omega
    omega
end Go.Proofs.YtemnoemjmeflbaaGreatDoor
