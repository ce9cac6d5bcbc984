/- forest.Pick walked: the features in order, the first ones of them, ascending. -/
import Derived.Test.YthalpbjkkfkheaaGreatDoorSort
namespace Go.Proofs.YthalpbjkkfkheaaGreatDoor
open Go.RowKit Go.Lib

theorem put_cells (l zs : List Int) (hk : zs.length ≤ l.length) : Sort.putCells (Value.int .i64) 0 zs.toArray (zcells l).toArray = (zcells (zs ++ l.drop zs.length)).toArray := by
  apply Array.ext_getElem?
  intro i
  unfold Sort.putCells zcells
  simp only [List.getElem?_toArray, List.map_append, Array.getElem?_mapIdx, List.getElem?_map, List.size_toArray, Nat.zero_le, true_and, Nat.zero_add, Nat.sub_zero]
  rcases Nat.lt_or_ge i zs.length with h | h
  · rw [List.getElem?_append_left (by simpa using h), List.getElem?_eq_getElem (l := l) (i := i) (by omega)]
    simp [h]
  · rw [List.getElem?_append_right (by simpa using h)]
    simp only [List.length_map, List.getElem?_map, List.getElem?_drop]
    rw [show zs.length + (i - zs.length) = i by omega]
    cases l[i]? with
    | none => rfl
    | some x => simp [Nat.not_lt.2 h]
theorem sorted_after {a w : World} {g : Nat} {l : List Int} (hB : Blk w g tInt (zcells l)) (he : Ext a w) (hg : a.heap.size ≤ g) (zs : List Int) (hk : zs.length ≤ l.length) (n : Nat) (os : Array Obj) :
    Ext a (Sort.grow (Sort.putRow (Value.int .i64) (Sort.ahead w n) g 0 zs.toArray) os) ∧ Blk (Sort.grow (Sort.putRow (Value.int .i64) (Sort.ahead w n) g 0 zs.toArray) os) g tInt (zcells (zs ++ l.drop zs.length)) := by
  have hs : (Sort.putRow (Value.int .i64) (Sort.ahead w n) g 0 zs.toArray).heap.size = w.heap.size := by
    unfold Sort.putRow Sort.mapBlock Sort.ahead
    simp
  have hgl := hB.lt
  refine ⟨⟨he.os, he.tape, he.output, ?_, fun i hi => ?_⟩, ?_⟩
  · have := he.size
    rw [Sort.size_grow, hs]
    omega
  · have hi' : i < w.heap.size := Nat.lt_of_lt_of_le hi he.size
    rw [Sort.heap_grow_old _ _ (by rw [hs]; exact hi'), ← he.block i hi]
    unfold Sort.putRow Sort.mapBlock Sort.ahead
    simp only [Array.getElem?_modify]
    rw [if_neg (by omega)]
  · unfold Blk
    rw [Sort.heap_grow_old _ _ (by rw [hs]; exact hgl)]
    unfold Blk at hB
    unfold Sort.putRow Sort.mapBlock Sort.ahead
    simp only [Array.getElem?_modify, if_true, hB, Option.map_some, Sort.onCells, put_cells l zs hk]
theorem outI_length {lt : Int → Int → Bool} : ∀ (k i : Nat) (l : List Int), (∀ j l, (insI lt j l).length = l.length) → (outI lt k i l).length = l.length
  | 0, _, _, _ => rfl
  | k + 1, i, l, h => by rw [outI, outI_length k (i + 1) _ h, h]
theorem insI_perm {lt : Int → Int → Bool} : ∀ (j : Nat) (l : List Int), j < l.length → (insI lt j l).Perm l
  | 0, l, _ => List.Perm.refl l
  | j + 1, l, h => by
    cases hlt : lt l[j + 1] l[j] with
    | false => rw [insI_stop h hlt]
    | true =>
      rw [insI_go h hlt]
      exact (insI_perm j _ (by simp; omega)).trans (List.set_set_perm h (Nat.lt_of_succ_lt h))
theorem outI_perm {lt : Int → Int → Bool} : ∀ (k i : Nat) (l : List Int), i + k ≤ l.length → (outI lt k i l).Perm l
  | 0, _, l, _ => List.Perm.refl l
  | k + 1, i, l, h => by
    have h1 := insI_perm (lt := lt) i l (by omega)
    exact (outI_perm k (i + 1) _ (by rw [h1.length_eq]; omega)).trans h1
theorem ordI_perm (lt : Int → Int → Bool) (l : List Int) : (ordI lt l).Perm l := by
  unfold ordI
  rcases l with _ | ⟨x, l⟩
  · exact List.Perm.refl _
  · exact outI_perm _ _ _ (by simp; omega)
/-- the features in order -/
def ordF (seed tree : Int) (n : Nat) : List Int := ordI (ltF seed tree) (upto n)
theorem ordF_perm (seed tree : Int) (n : Nat) : (ordF seed tree n).Perm (upto n) := ordI_perm _ _
theorem upto_mem {n : Nat} {x : Int} : x ∈ upto n ↔ 0 ≤ x ∧ x < n := by
  unfold upto
  rw [List.mem_map]
  constructor
  · rintro ⟨k, hk, rfl⟩
    have := List.mem_range.1 hk
    exact ⟨Int.natCast_nonneg k, Int.ofNat_lt.2 this⟩
  · rintro ⟨h0, h1⟩
    exact ⟨x.toNat, List.mem_range.2 (by omega), by simp; omega⟩
/-- what is picked -/
def pickF (seed tree : Int) (n many : Nat) : List Int := ((ordF seed tree n).take many).mergeSort (fun a b => decide (a ≤ b))
theorem pickF_length (seed tree : Int) (n many : Nat) : (pickF seed tree n many).length = min many n := by
  unfold pickF
  rw [List.length_mergeSort, List.length_take, (ordF_perm seed tree n).length_eq, upto_length]
theorem set_fill (n i : Nat) (h : i < n) : (zcells (upto i ++ List.replicate (n - i) 0)).set i (.int .i64 (i : Int)) = zcells (upto (i + 1) ++ List.replicate (n - (i + 1)) 0) := by
  rw [← zcells_set, List.set_append_right _ _ (by rw [upto_length]; exact Nat.le_refl i), upto_length, Nat.sub_self, upto_succ, List.append_assoc]
  congr 2
  rw [show n - i = (n - (i + 1)) + 1 by omega, List.replicate_succ]
  rfl
theorem holds_blk {w : World} {g q : Nat} {l : List Int} (hB : Blk w g tInt (zcells l)) : Sort.Holds (Value.int .i64) w g 0 (l.take q).toArray := by
  intro j hj
  have hj' : j < (l.take q).length := by simpa using hj
  have hj2 : j < l.length := by rw [List.length_take] at hj'; omega
  refine ⟨?_, hB.frozen _⟩
  rw [Nat.zero_add, hB.cell (zcells_get hj2), getElem!_pos _ j hj]
  simp
end Go.Proofs.YthalpbjkkfkheaaGreatDoor
