/- Which tables are valid; made tables are. -/
import Derived.Test.YthalpbjkkfkheaaGreatDoorMkDb
namespace Go.Proofs.YthalpbjkkfkheaaGreatDoor
open Go.RowKit Go.Lib

abbrev ltR (a b : Rw) : Prop := ltT a.1 b.1 = true
/-- a valid table of a relation with these attributes -/
structure TabOk (x : Sch) (cs : List Int) (l : List Rw) : Prop where
  len : l.length ≤ 60
  val : ∀ y ∈ l, RowVal x cs y.1
  wt : ∀ y ∈ l, 1 ≤ y.2 ∧ y.2 ≤ 100
  ord : l.Pairwise ltR
def DbOk (x : Sch) (D : List (List Rw)) : Prop := D.length = x.rels.length ∧ ∀ (k : Nat) (t : List Rw) (r : Rl), D[k]? = some t → x.rels[k]? = some r → TabOk x r.2 t
theorem insR_val {x : Rw} {Q : List Txt → Prop} (hx : Q x.1) : ∀ {o : List Rw}, (∀ y ∈ o, Q y.1) → ∀ y ∈ insR x o, Q y.1
  | [], _, y, hy => by rw [List.mem_singleton.1 hy]; exact hx
  | z :: l, h, y, hy => by
    have hz := h z (by simp)
    have hl := insR_val (o := l) hx (fun y hy => h y (by simp [hy]))
    unfold insR at hy
    split at hy
    · rcases List.mem_cons.1 hy with rfl | hy
      · exact hz
      · exact hl y hy
    · split at hy
      · rcases List.mem_cons.1 hy with rfl | hy
        · exact hz
        · exact h y (by simp [hy])
      · rcases List.mem_cons.1 hy with rfl | hy
        · exact hx
        · exact h y hy
theorem insR_wt {x : Rw} {m k : Int} (hx : 1 ≤ x.2 ∧ x.2 ≤ k) (hm : 0 ≤ m) : ∀ {o : List Rw}, (∀ y ∈ o, 1 ≤ y.2 ∧ y.2 ≤ m) → ∀ y ∈ insR x o, 1 ≤ y.2 ∧ y.2 ≤ m + k
  | [], _, y, hy => by rw [List.mem_singleton.1 hy]; omega
  | z :: l, h, y, hy => by
    have hz := h z (by simp)
    have hl := insR_wt (o := l) hx hm (fun y hy => h y (by simp [hy]))
    unfold insR at hy
    split at hy
    · rcases List.mem_cons.1 hy with rfl | hy
      · omega
      · exact hl y hy
    · split at hy
      · rcases List.mem_cons.1 hy with rfl | hy
        · simp only; omega
        · have := h y (by simp [hy]); omega
      · rcases List.mem_cons.1 hy with rfl | hy
        · omega
        · have := h y hy; omega
theorem insR_ord {x : Rw} : ∀ {o : List Rw}, o.Pairwise ltR → (insR x o).Pairwise ltR
  | [], _ => by simp [insR]
  | z :: l, h => by
    obtain ⟨h1, h2⟩ := List.pairwise_cons.1 h
    unfold insR
    split
    · rename_i hz
      exact List.pairwise_cons.2 ⟨insR_val (Q := fun t => ltT z.1 t = true) hz h1, insR_ord h2⟩
    · rename_i hz
      split
      · exact List.pairwise_cons.2 ⟨h1, h2⟩
      · rename_i he
        have hlt : ltT x.1 z.1 = true := by
          cases hc : ltT x.1 z.1 with
          | true => rfl
          | false =>
            have e := ltT_lin.tot x.1 z.1 hc (by simpa using hz)
            rw [e] at he
            simp at he
        refine List.pairwise_cons.2 ⟨fun y hy => ?_, h⟩
        rcases List.mem_cons.1 hy with rfl | hy
        · exact hlt
        · exact ltT_lin.tr _ _ _ hlt (h1 y hy)
theorem foldR_ok {x : Sch} {cs : List Int} {m : Int} {l : List Rw} (hm : 0 ≤ m) (h : RawOk x cs m l) : ∀ i : Nat, i ≤ l.length → (foldR l i).length ≤ i ∧ (∀ y ∈ foldR l i, RowVal x cs y.1) ∧ (∀ y ∈ foldR l i, 1 ≤ y.2 ∧ y.2 ≤ (i : Int) * m) ∧ (foldR l i).Pairwise ltR
  | 0, _ => ⟨by simp [foldR], fun y hy => by simp [foldR] at hy, fun y hy => by simp [foldR] at hy, by simp [foldR]⟩
  | i + 1, hi => by
    obtain ⟨h1, h2, h3, h4⟩ := foldR_ok hm h i (by omega)
    have hy := h _ (List.getElem_mem (show i < l.length by omega))
    rw [foldR_succ (by omega)]
    refine ⟨Nat.le_trans (insR_len _ _) (by omega), insR_val (Q := fun t => RowVal x cs t) hy.1 h2, ?_, insR_ord h4⟩
    have e : ((i + 1 : Nat) : Int) * m = (i : Int) * m + m := by
      rw [Int.natCast_add, Int.add_mul]
      omega
    rw [e]
    exact insR_wt hy.2 (Int.mul_nonneg (by omega) hm) h3
theorem sortR_ok {x : Sch} {cs : List Int} {l : List Rw} (h : RawOk x cs 3 l) (hl : l.length ≤ 30) : TabOk x cs (sortR l) := by
  obtain ⟨h1, h2, h3, h4⟩ := foldR_ok (by decide) h l.length (Nat.le_refl _)
  have hsub : (sortR l).Sublist (foldR l l.length) := by
    unfold sortR keptR
    rw [List.take_length]
    exact List.filter_sublist
  exact ⟨Nat.le_trans hsub.length_le (by omega), fun y hy => h2 y (hsub.subset hy), fun y hy => by have := h3 y (hsub.subset hy); omega, h4.sublist hsub⟩
theorem MadeOk.db {x : Sch} {most : Nat} {D : List (List Rw)} (h : MadeOk x most 3 D x.rels.length) (hm : most ≤ 30) : DbOk x D := by
  refine ⟨h.1, fun k t r h1 h2 => ?_⟩
  obtain ⟨l, h3, h4, rfl⟩ := h.2 k t r h1 h2
  exact sortR_ok h4 (by omega)
end Go.Proofs.YthalpbjkkfkheaaGreatDoor
