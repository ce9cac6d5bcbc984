/- The order of lists of texts. -/
import Derived.Test.YthalpbjkkfkheaaGreatDoorValR
namespace Go.Proofs.YthalpbjkkfkheaaGreatDoor
open Go.RowKit Go.Lib

/-- a strict order in which two different ones are comparable -/
structure Lin {α : Type} (lt : α → α → Bool) : Prop where
  irr : ∀ a, lt a a = false
  tr : ∀ a b c, lt a b = true → lt b c = true → lt a c = true
  tot : ∀ a b, lt a b = false → lt b a = false → a = b
/-- the lexical order -/
def lexB {α : Type} [BEq α] (lt : α → α → Bool) : List α → List α → Bool
  | _, [] => false
  | [], _ :: _ => true
  | a :: x, b :: y => lt a b || (a == b && lexB lt x y)
theorem Lin.lex {α : Type} [BEq α] [LawfulBEq α] {lt : α → α → Bool} (h : Lin lt) : Lin (lexB lt) where
  irr := fun a => by
    induction a with
    | nil => rfl
    | cons x l ih => simp [lexB, h.irr, ih]
  tr := fun a => by
    induction a with
    | nil =>
      intro b c h1 h2
      cases c with
      | nil => simp [lexB] at h2
      | cons z m => rfl
    | cons x l ih =>
      intro b c h1 h2
      cases b with
      | nil => simp [lexB] at h1
      | cons y m =>
        cases c with
        | nil => simp [lexB] at h2
        | cons z n =>
          simp only [lexB, Bool.or_eq_true, Bool.and_eq_true, beq_iff_eq] at h1 h2 ⊢
          rcases h1 with h1 | ⟨rfl, h1⟩
          · rcases h2 with h2 | ⟨rfl, h2⟩
            · exact .inl (h.tr _ _ _ h1 h2)
            · exact .inl h1
          · rcases h2 with h2 | ⟨rfl, h2⟩
            · exact .inl h2
            · exact .inr ⟨rfl, ih _ _ h1 h2⟩
  tot := fun a => by
    induction a with
    | nil =>
      intro b h1 h2
      cases b with
      | nil => rfl
      | cons y m => simp [lexB] at h1
    | cons x l ih =>
      intro b h1 h2
      cases b with
      | nil => simp [lexB] at h2
      | cons y m =>
        simp only [lexB, Bool.or_eq_false_iff] at h1 h2
        have e := h.tot _ _ h1.1 h2.1
        subst e
        have h3 := h1.2
        have h4 := h2.2
        simp only [beq_self_eq_true, Bool.true_and] at h3 h4
        rw [ih _ h3 h4]
theorem Lin.asym {α : Type} {lt : α → α → Bool} (h : Lin lt) {a b : α} (h1 : lt a b = true) : lt b a = false := by
  cases h2 : lt b a with
  | false => rfl
  | true => rw [← h.irr a, h.tr _ _ _ h1 h2]
theorem bytes_lex : Op.bytesLess = lexB (fun a b : UInt8 => decide (a < b)) := by
  funext x
  induction x with
  | nil => funext y; cases y <;> rfl
  | cons a l ih => funext y; cases y with
    | nil => rfl
    | cons b m => simp [Op.bytesLess, lexB, ih]
theorem byte_lin : Lin (fun a b : UInt8 => decide (a < b)) where
  irr := fun a => by simp
  tr := fun a b c h1 h2 => by
    simp only [decide_eq_true_eq] at h1 h2 ⊢
    exact UInt8.lt_trans h1 h2
  tot := fun a b h1 h2 => by
    simp only [decide_eq_false_iff_not] at h1 h2
    exact UInt8.le_antisymm (UInt8.not_lt.1 h2) (UInt8.not_lt.1 h1)
/-- the order of lists of texts -/
def ltT : List (List UInt8) → List (List UInt8) → Bool := lexB Op.bytesLess
theorem text_lin : Lin Op.bytesLess := by rw [bytes_lex]; exact byte_lin.lex
theorem ltT_lin : Lin ltT := text_lin.lex
theorem ltT_drop : ∀ {a b : List (List UInt8)} {i : Nat}, a.take i = b.take i → ltT a b = ltT (a.drop i) (b.drop i)
  | a, b, 0, _ => rfl
  | [], b, i + 1, h => by
    cases b with
    | nil => rfl
    | cons y m => simp at h
  | x :: l, [], i + 1, h => by simp at h
  | x :: l, y :: m, i + 1, h => by
    simp only [List.take_succ_cons, List.cons.injEq] at h
    obtain ⟨rfl, h⟩ := h
    rw [List.drop_succ_cons, List.drop_succ_cons, ← ltT_drop h]
    show (Op.bytesLess x x || (x == x && ltT l m)) = _
    rw [text_lin.irr]
    simp
theorem ltT_at {a b : List (List UInt8)} {i : Nat} (ha : i < a.length) (hb : i < b.length) (h : a.take i = b.take i) (hne : (a[i] == b[i]) = false) : ltT a b = Op.bytesLess a[i] b[i] := by
  rw [ltT_drop h, List.drop_eq_getElem_cons ha, List.drop_eq_getElem_cons hb]
  show (Op.bytesLess a[i] b[i] || (a[i] == b[i] && _)) = _
  rw [hne]
  simp
theorem ltT_endA {a b : List (List UInt8)} (hb : a.length < b.length) (h : a.take a.length = b.take a.length) : ltT a b = true := by
  rw [ltT_drop h, List.drop_length, List.drop_eq_getElem_cons hb]
  rfl
theorem ltT_endB {a b : List (List UInt8)} (h : a.take b.length = b.take b.length) : ltT a b = false := by
  rw [ltT_drop h, List.drop_length]
  cases a.drop b.length <;> rfl
end Go.Proofs.YthalpbjkkfkheaaGreatDoor
