/- Lists in memory: rows of cells, so many to an element; what keeps them. -/
import Derived.Test.YthalpbjkkfkheaaGreatDoorOrd
namespace Go.Proofs.YthalpbjkkfkheaaGreatDoor
open Go.RowKit Go.Lib

abbrev tRat : TypeId := 84
abbrev tU64 : TypeId := 47
/-- xs is the elements of l one behind the other -/
def Ch {α : Type} (R : List Value → α → Prop) : List Value → List α → Prop
  | xs, [] => xs = []
  | xs, x :: l => ∃ c r, xs = c ++ r ∧ R c x ∧ Ch R r l
theorem Ch.mono {α : Type} {R S : List Value → α → Prop} (h : ∀ c x, R c x → S c x) : ∀ {xs : List Value} {l : List α}, Ch R xs l → Ch S xs l
  | _, [], hx => hx
  | _, _ :: _, ⟨c, r, e, h1, h2⟩ => ⟨c, r, e, h _ _ h1, Ch.mono h h2⟩
theorem Ch.length {α : Type} {R : List Value → α → Prop} {k : Nat} (hk : ∀ c x, R c x → c.length = k) : ∀ {xs : List Value} {l : List α}, Ch R xs l → xs.length = l.length * k
  | _, [], hx => by rw [show _ = [] from hx]; simp
  | _, x :: l, ⟨c, r, e, h1, h2⟩ => by rw [e, List.length_append, hk _ _ h1, Ch.length hk h2, List.length_cons, Nat.succ_mul]; omega
theorem Ch.get {α : Type} {R : List Value → α → Prop} {k : Nat} (hk : ∀ c x, R c x → c.length = k) : ∀ {xs : List Value} {l : List α} (_ : Ch R xs l) {i : Nat} (hi : i < l.length), ∃ c, R c l[i] ∧ ∀ j, j < k → xs[i * k + j]? = c[j]?
  | _, [], _, i, hi => by simp at hi
  | _, x :: l, ⟨c, r, e, h1, h2⟩, 0, hi => ⟨c, h1, fun j hj => by rw [e, Nat.zero_mul, Nat.zero_add, List.getElem?_append_left (by rw [hk _ _ h1]; exact hj)]⟩
  | _, x :: l, ⟨c, r, e, h1, h2⟩, i + 1, hi => by
    obtain ⟨d, hd, hj⟩ := Ch.get hk h2 (i := i) (by simpa using hi)
    refine ⟨d, hd, fun j hjk => ?_⟩
    rw [e, List.getElem?_append_right (by rw [hk _ _ h1, Nat.succ_mul]; omega), hk _ _ h1, ← hj j hjk]
    congr 1
    rw [Nat.succ_mul]
    omega
theorem Ch.snoc {α : Type} {R : List Value → α → Prop} {x : α} {c : List Value} (hx : R c x) : ∀ {xs : List Value} {l : List α}, Ch R xs l → Ch R (xs ++ c) (l ++ [x])
  | _, [], h => by rw [show _ = [] from h]; exact ⟨c, [], by simp, hx, rfl⟩
  | _, y :: l, ⟨d, r, e, h1, h2⟩ => ⟨d, r ++ c, by rw [e, List.append_assoc], h1, Ch.snoc hx h2⟩
theorem Ch.append {α : Type} {R : List Value → α → Prop} {ys : List Value} {m : List α} (hy : Ch R ys m) : ∀ {xs : List Value} {l : List α}, Ch R xs l → Ch R (xs ++ ys) (l ++ m)
  | _, [], h => by rw [show _ = [] from h]; exact hy
  | _, x :: l, ⟨d, r, e, h1, h2⟩ => ⟨d, r ++ ys, by rw [e, List.append_assoc], h1, Ch.append hy h2⟩
theorem Ch.take {α : Type} {R : List Value → α → Prop} {k : Nat} (hk : ∀ c x, R c x → c.length = k) : ∀ {xs : List Value} {l : List α} (_ : Ch R xs l) (n : Nat), Ch R (xs.take (n * k)) (l.take n)
  | _, [], h, n => by rw [show _ = [] from h]; simp [Ch]
  | _, x :: l, h, 0 => by simp [Ch]
  | _, x :: l, ⟨c, r, e, h1, h2⟩, n + 1 => by
    refine ⟨c, r.take (n * k), ?_, h1, h2.take hk n⟩
    have hl := hk _ _ h1
    rw [e, List.take_append, List.take_of_length_le (by rw [hl, Nat.succ_mul]; omega), hl]
    congr 2
    rw [Nat.succ_mul]
    omega

/-- v is the list l: its cells lie in a block of element type t -/
def Ls {α : Type} (t : TypeId) (R : World → List Value → α → Prop) (w : World) (v : Value) (l : List α) : Prop :=
  ∃ A c xs, v = .slice A l.length c ∧ l.length ≤ c ∧ c ≤ maxLen ∧ (A = none → c = 0) ∧ Sl w t A xs ∧ Ch (R w) xs l
/-- R is kept where the blocks of the types of T are -/
def Stab {α : Type} (T : List TypeId) (R : World → List Value → α → Prop) : Prop := ∀ w w' c x, (∀ t ∈ T, Kept t w w') → R w c x → R w' c x
theorem Ls.keep {α : Type} {t : TypeId} {T : List TypeId} {R : World → List Value → α → Prop} (hR : Stab T R) {w w' : World} {v : Value} {l : List α} (h : Ls t R w v l) (hk : ∀ u ∈ t :: T, Kept u w w') : Ls t R w' v l := by
  obtain ⟨A, c, xs, h1, h2, h3, h4, h5, h6⟩ := h
  exact ⟨A, c, xs, h1, h2, h3, h4, h5.keep (hk t (by simp)), h6.mono fun c x hc => hR _ _ _ _ (fun u hu => hk u (by simp [hu])) hc⟩
theorem Ls.ext {α : Type} {t : TypeId} {T : List TypeId} {R : World → List Value → α → Prop} (hR : Stab T R) {w w' : World} {v : Value} {l : List α} (h : Ls t R w v l) (hx : Ext w w') : Ls t R w' v l :=
  h.keep hR fun _ _ => .of_below hx
theorem Ls.parts {α : Type} {t : TypeId} {R : World → List Value → α → Prop} {w : World} {v : Value} {l : List α} (h : Ls t R w v l) : ∃ A c, v = .slice A l.length c ∧ l.length ≤ c ∧ c ≤ maxLen ∧ Hid (Ls t R w (.slice A l.length c) l) := by
  obtain ⟨A, c, xs, rfl, h2, h3, h4, h5, h6⟩ := h
  exact ⟨A, c, rfl, h2, h3, A, c, xs, rfl, h2, h3, h4, h5, h6⟩
theorem Ls.nil {α : Type} {t : TypeId} {R : World → List Value → α → Prop} {w : World} : Ls t R w (.slice none 0 0) ([] : List α) := ⟨none, 0, [], rfl, Nat.le_refl _, by unfold maxLen; omega, fun _ => rfl, .nil, rfl⟩
/-- an element's cells -/
theorem Ls.get {α : Type} {t : TypeId} {k : Nat} {R : World → List Value → α → Prop} (hk : ∀ w c x, R w c x → c.length = k) (h0 : 0 < k) {w : World} {A : Option Addr} {n c : Nat} {l : List α} (h : Ls t R w (.slice A n c) l) {i : Nat} (hi : i < l.length) :
    ∃ g o d, A = some ⟨g, o, none⟩ ∧ g < w.heap.size ∧ R w d l[i] ∧ ∀ j u, d[j]? = some u → w.cell? ⟨g, o + (i * k + j), none⟩ = some u := by
  obtain ⟨A', c', xs, e, h2, h3, h4, h5, h6⟩ := h
  injection e with e1 e2 e3
  subst e1
  obtain ⟨d, hd, hj⟩ := h6.get (hk w) hi
  have hl := hk _ _ _ hd
  obtain ⟨g, o, hA, hg, _⟩ := h5.at_ (k := i * k + 0) (u := d[0]) (by rw [hj 0 h0]; simp)
  refine ⟨g, o, d, hA, hg, hd, fun j u hu => ?_⟩
  have hjk : j < k := by
    rcases Nat.lt_or_ge j k with h | h
    · exact h
    · rw [List.getElem?_eq_none (by omega)] at hu; cases hu
  obtain ⟨g', o', hA', _, hc⟩ := h5.at_ (k := i * k + j) (u := u) (by rw [hj j hjk]; exact hu)
  rw [hA] at hA'
  injection hA' with hA'
  injection hA' with e1 e2
  subst e1 e2
  exact hc
/-- a row that is owned is a list -/
theorem Ls.of_own {α : Type} {t : TypeId} {k : Nat} {R : World → List Value → α → Prop} {w : World} {base : Nat} {v : Value} {l : List α} {xs : List Value} (h : w.ownsRow base t k v l.length xs) (hc : Ch (R w) xs l) : Ls t R w v l := by
  obtain ⟨A, c, rfl, h1, h2, h3⟩ := own_parts h
  refine ⟨A, c, xs, rfl, h1, h2, ?_, h3, hc⟩
  rintro rfl
  rcases h.2 with ⟨hv, _⟩ | ⟨g, cap, cur, hv, _⟩
  · injection hv
  · injection hv with hv; cases hv

/-- a text of a number -/
def RatR (_ : World) (c : List Value) (q : Rat) : Prop := c = [.string ⟨(ratText q).toArray⟩]
theorem RatR.stab : Stab [] RatR := fun _ _ _ _ _ h => h
theorem RatR.one (w : World) (c : List Value) (q : Rat) (h : RatR w c q) : c.length = 1 := by rw [h]; rfl
/-- a number -/
def FrR (w : World) (c : List Value) (q : Rat) : Prop := ∃ b A n c1 b' A' n' c2, c = [.bool b, .slice A n c1, .bool b', .slice A' n' c2] ∧ FracV w (.agg #[.bool b, .slice A n c1, .bool b', .slice A' n' c2]) q
theorem FrR.stab : Stab [tU64] FrR := fun w w' c x hk ⟨b, A, n, c1, b', A', n', c2, e, h⟩ => ⟨b, A, n, c1, b', A', n', c2, e, h.keep (hk _ (by simp))⟩
theorem FrR.four (w : World) (c : List Value) (q : Rat) (h : FrR w c q) : c.length = 4 := by obtain ⟨_, _, _, _, _, _, _, _, rfl, _⟩ := h; rfl
abbrev RL := Ls tRat RatR
theorem RL.stab : ∀ w w' v l, (∀ t ∈ [tRat], Kept t w w') → RL w v l → RL w' v l := fun _ _ _ _ hk h => h.keep RatR.stab hk
theorem RL.ext {w w' : World} {v : Value} {l : List Rat} (h : RL w v l) (hx : Ext w w') : RL w' v l := Ls.ext RatR.stab h hx
theorem RL.get {w : World} {A : Option Addr} {n c : Nat} {l : List Rat} (h : RL w (.slice A n c) l) {i : Nat} (hi : i < l.length) : ∃ g o, A = some ⟨g, o, none⟩ ∧ g < w.heap.size ∧ w.cell? ⟨g, o + i, none⟩ = some (.string ⟨(ratText l[i]).toArray⟩) := by
  obtain ⟨g, o, d, h1, h2, h3, h4⟩ := Ls.get RatR.one (by decide) h hi
  have h5 := h4 0 _ (by rw [show d = _ from h3]; rfl)
  rw [Nat.mul_one, Nat.add_zero] at h5
  exact ⟨g, o, h1, h2, h5⟩
end Go.Proofs.YthalpbjkkfkheaaGreatDoor
