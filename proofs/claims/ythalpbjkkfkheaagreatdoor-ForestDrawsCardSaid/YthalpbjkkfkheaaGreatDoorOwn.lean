/- Rows that a walk builds: owned lists of elements; lists of lists, points. -/
import Derived.Test.YthalpbjkkfkheaaGreatDoorLst
namespace Go.Proofs.YthalpbjkkfkheaaGreatDoor
open Go.RowKit Go.Lib

theorem own_grown {w w' : World} {base k n : Nat} {t : TypeId} {v : Value} {xs : List Value} {row : Option Nat} (h : w.ownsRow base t k v n xs) (hg : w.grownBy w' row) (hr : ∀ k, row = some k → v.ownBlock ≠ some k) : w'.ownsRow base t k v n xs := by
  refine World.ownsRow.kept h hg ?_
  cases row with
  | none => cases v.ownBlock <;> simp
  | some k => exact .inr (hr k rfl)
theorem grown_ext {w w' : World} (hx : Ext w w') : w.grownBy w' none := ⟨hx.os, hx.tape, hx.output, hx.size, fun k hk _ => hx.block k hk⟩
theorem ext_grown {w w' : World} (hx : w.grownBy w' none) : Ext w w' := ⟨hx.os, hx.tape, hx.output, hx.size, fun k hk => hx.block k hk (by simp)⟩
/-- an owned row of elements -/
def OwnL {α : Type} (t : TypeId) (k : Nat) (R : World → List Value → α → Prop) (base : Nat) (w : World) (v : Value) (l : List α) : Prop := ∃ xs, w.ownsRow base t k v l.length xs ∧ Ch (R w) xs l
section
variable {α : Type} {t : TypeId} {k base : Nat} {R : World → List Value → α → Prop} {T : List TypeId} {w w' : World} {v v' : Value} {l : List α}
theorem OwnL.nil : OwnL t k R base w (.slice none 0 0) ([] : List α) := ⟨[], World.ownsRow_nil _ _ _ _, rfl⟩
theorem OwnL.grown (hR : Stab T R) (h : OwnL t k R base w v l) {row : Option Nat} (hg : w.grownBy w' row) (hr : ∀ k, row = some k → v.ownBlock ≠ some k) (hk : ∀ u ∈ T, Kept u w w') : OwnL t k R base w' v l := by
  obtain ⟨xs, h1, h2⟩ := h
  exact ⟨xs, own_grown h1 hg hr, h2.mono fun c x hc => hR _ _ _ _ hk hc⟩
theorem OwnL.ext (hR : Stab T R) (h : OwnL t k R base w v l) (hx : Ext w w') : OwnL t k R base w' v l :=
  h.grown hR (grown_ext hx) (fun k hk => by cases hk) (fun _ _ => .of_below hx)
theorem OwnL.only (hR : Stab T R) (h : OwnL t k R base w v l) {g : Nat} (hg : Only g w w') (hl : g < base) (hk : ∀ u ∈ T, Kept u w w') : OwnL t k R base w' v l :=
  h.grown hR hg (fun k hk he => by
    injection hk with hk
    obtain ⟨xs, h1, _⟩ := h
    have := (h1.lt k he).1
    omega) hk
theorem OwnL.snoc (hR : Stab T R) (hT : ∀ u ∈ T, t ≠ u) {xs cs : List Value} {x : α} (hown : w.ownsRow base t k v l.length xs) (hc : Ch (R w) xs l) (hx : R w cs x)
    (ho : w'.ownsRow base t k v' (l.length + 1) (xs ++ cs)) (hg : w.grownBy w' v.ownBlock) : OwnL t k R base w' v' (l ++ [x]) := by
  have hk : ∀ u ∈ T, Kept u w w' := fun u hu => Kept.grown hown hg (hT u hu)
  refine ⟨xs ++ cs, by rw [List.length_append]; exact ho, ?_⟩
  exact Ch.snoc (hR _ _ _ _ hk hx) (hc.mono fun c x hc => hR _ _ _ _ hk hc)
theorem OwnL.ls (h : OwnL t k R base w v l) : Ls t R w v l := by
  obtain ⟨xs, h1, h2⟩ := h
  exact Ls.of_own h1 h2
theorem OwnL.parts (h : OwnL t k R base w v l) : ∃ A c xs, v = .slice A l.length c ∧ l.length ≤ c ∧ c ≤ maxLen ∧ Hid (w.ownsRow base t k (.slice A l.length c) l.length xs) ∧ Hid (Ch (R w) xs l) := by
  obtain ⟨xs, h1, h2⟩ := h
  obtain ⟨A, c, rfl, h3, h4, _⟩ := own_parts h1
  exact ⟨A, c, xs, rfl, h3, h4, h1, h2⟩
theorem OwnL.of {xs : List Value} {A : Option Addr} {c : Nat} (h1 : w.ownsRow base t k (.slice A l.length c) l.length xs) (h2 : Ch (R w) xs l) : OwnL t k R base w (.slice A l.length c) l := ⟨xs, h1, h2⟩
end
/-- what is new is owned -/
theorem Ext.grownO {a w w' : World} {t : TypeId} {k n : Nat} {v : Value} {xs : List Value} (h : Ext a w) (hown : w.ownsRow a.heap.size t k v n xs) (hg : w.grownBy w' v.ownBlock) : Ext a w' :=
  Below.grown h hg h.size (fun k hk => (hown.lt k hk).1)
/-- a row that is owned from base on grows: what lay below base stands -/
theorem grown_below {a w w' : World} {base : Nat} {t : TypeId} {k n : Nat} {v : Value} {xs : List Value} (h : Ext a w) (hown : w.ownsRow base t k v n xs) (hg : w.grownBy w' v.ownBlock) (hb : a.heap.size ≤ base) : Ext a w' :=
  Below.grown h hg h.size (fun k hk => by have := (hown.lt k hk).1; omega)
theorem Src.kept {w w' : World} {g : Nat} {t : TypeId} (hs : SrcAt w g) (ho : Only g w w') (ht : tSrc ≠ t) : Kept t w w' := by
  intro g' cur fr hc
  refine (ho.block g' (lt_of_some hc) ?_).trans hc
  intro he
  injection he with he
  subst he
  obtain ⟨t, A, zs, c, k, _, _, h3, _⟩ := hs
  unfold Blk at h3
  rw [h3] at hc
  injection hc with hc
  injection hc with _ h
  exact ht h
/-- a cell that is a list -/
def OneR {α : Type} (t : TypeId) (R : World → List Value → α → Prop) (w : World) (c : List Value) (l : List α) : Prop := ∃ A cp, c = [.slice A l.length cp] ∧ Ls t R w (.slice A l.length cp) l
theorem OneR.stab {α : Type} {t : TypeId} {T : List TypeId} {R : World → List Value → α → Prop} (hR : Stab T R) : Stab (t :: T) (OneR t R) := fun _ _ _ _ hk ⟨A, cp, h1, h2⟩ => ⟨A, cp, h1, h2.keep hR hk⟩
theorem OneR.one {α : Type} {t : TypeId} {R : World → List Value → α → Prop} (w : World) (c : List Value) (l : List α) (h : OneR t R w c l) : c.length = 1 := by obtain ⟨_, _, rfl, _⟩ := h; rfl
theorem OneR.get {α : Type} {t u : TypeId} {R : World → List Value → α → Prop} {w : World} {A : Option Addr} {n c : Nat} {l : List (List α)} (h : Ls u (OneR t R) w (.slice A n c) l) {i : Nat} (hi : i < l.length) :
    ∃ g o A1 c1, A = some ⟨g, o, none⟩ ∧ g < w.heap.size ∧ Hid (Ls t R w (.slice A1 l[i].length c1) l[i]) ∧ w.cell? ⟨g, o + i, none⟩ = some (.slice A1 l[i].length c1) := by
  obtain ⟨g, o, d, h1, h2, ⟨A1, c1, rfl, h3⟩, h4⟩ := Ls.get OneR.one (by decide) h hi
  have h5 := h4 0 _ rfl
  rw [Nat.mul_one, Nat.add_zero] at h5
  exact ⟨g, o, A1, c1, h1, h2, h3, h5⟩
abbrev PR := OneR tRat RatR
theorem PR.stab : Stab [tRat] PR := OneR.stab RatR.stab
section
variable {a b c : World} {g : Nat}
theorem Only.trans (h : Only g a b) (k : Only g b c) : Only g a c := ⟨k.os.trans h.os, k.tape.trans h.tape, k.output.trans h.output, Nat.le_trans h.size k.size, fun i hi hne => (k.block i (Nat.lt_of_lt_of_le hi h.size) hne).trans (h.block i hi hne)⟩
theorem Only.of_ext (h : Ext a b) : Only g a b := ⟨h.os, h.tape, h.output, h.size, fun i hi _ => h.block i hi⟩
theorem Only.grown {t : TypeId} {k n : Nat} {v : Value} {xs : List Value} (h : Only g a b) (hown : b.ownsRow a.heap.size t k v n xs) (hg : b.grownBy c v.ownBlock) : Only g a c :=
  ⟨hg.os.trans h.os, hg.tape.trans h.tape, hg.output.trans h.output, Nat.le_trans h.size hg.size, fun i hi hne => (hg.block i (Nat.lt_of_lt_of_le hi h.size) (fun e => by have := (hown.lt i e.symm).1; omega)).trans (h.block i hi hne)⟩
end
theorem Ch.split {α : Type} {R : List Value → α → Prop} {k : Nat} (hk : ∀ c x, R c x → c.length = k) : ∀ {xs : List Value} {l : List α} (_ : Ch R xs l) {i : Nat} (hi : i < l.length), ∃ x1 c x2, xs = x1 ++ (c ++ x2) ∧ x1.length = i * k ∧ Ch R x1 (l.take i) ∧ R c l[i] ∧ Ch R x2 (l.drop (i + 1))
  | _, [], _, i, hi => by simp at hi
  | _, x :: l, ⟨c, r, e, h1, h2⟩, 0, hi => ⟨[], c, r, by simpa using e, by simp, rfl, h1, h2⟩
  | _, x :: l, ⟨c, r, e, h1, h2⟩, i + 1, hi => by
    obtain ⟨x1, d, x2, e', hl, a, b, f⟩ := Ch.split hk h2 (i := i) (by simpa using hi)
    refine ⟨c ++ x1, d, x2, by rw [e, e', List.append_assoc], by rw [List.length_append, hk _ _ h1, hl, Nat.succ_mul]; omega, ⟨c, x1, rfl, h1, a⟩, b, f⟩
/-- append(s, x), as one operation -/
theorem wp_app1 {P : Program} {o : Oper} {a : Act} {w : World} {K : Act → World → Prop} {Q : Exit → Act → World → Prop} (s x : Operand) (t : TypeId)
    (ho : o.op = .call { callee := .builtin .append, args := #[s, x], argTypes := #[t, t] })
    (base : Nat) {e : TypeId} {size bytes : Nat} (T : SliceTy P t e size bytes)
    (v : Value) (n : Nat) (xs : List Value) (hs : a.eval s = v) (hown : w.ownsRow base e size v n xs)
    (cs : Array Value) (m c : Nat) (hx : a.eval x = .slice (some ⟨w.heap.size, 0, none⟩) m c) (hl : cs.size = m * size) (h1 : cs.toList.all (·.oneCell') = true)
    (hbytes : (n + m) * bytes ≤ 140737488355328) (hbase : base ≤ w.heap.size)
    (h : ∀ v' w', w'.ownsRow base e size v' (n + m) (xs ++ cs.toList) → w.grownBy w' v.ownBlock → K (a.put o.dst v') w') : o.wp P a (w.alloc (.cells cs e)) K Q := by
  obtain ⟨i, z, hi, hz, hz1, hz2, hz3⟩ := T.inf
  have hle : n + m ≤ maxLen := by
    have hp := T.bpos
    have := Nat.le_mul_of_pos_right (n + m) hp
    unfold maxLen; omega
  have hnews : ∀ j u, cs.toList[j]? = some u → (w.alloc (.cells cs e)).cell? ((⟨w.heap.size, 0, none⟩ : Addr).add j) = some u := by
    intro j u hu
    obtain ⟨g, o', cur, fr, hA, hg, hcu⟩ := Sl.new w e cs j u hu
    injection hA with hA
    rw [hA, Addr.add_lit]
    simp [World.cell?, hg, hcu]
  obtain ⟨v', w', hr, h2, h3, _, _⟩ := run_append_own_at (P := P) (w.alloc (.cells cs e)) base t o.type e i z size bytes T.ht hi hz hz1 hz2 hz3 T.pos v n xs (hown.alloc _) ⟨w.heap.size, 0, none⟩ m c cs.toList (by simpa using hl) hnews (List.all_eq_true.1 h1) hle hbytes (by simp; omega)
  unfold Oper.wp execOp
  simp only [ho, resolve, invoke, builtin, Sem.run_bind, Sem.run_pure, Result.andThen_ok, List.map_toArray, List.map_cons, List.map_nil, hs, hx, hr]
  exact h v' w' h2 (grownBy_alloc h3)
theorem own_extR {w w' : World} {base k n : Nat} {t : TypeId} {v : Value} {xs : List Value} (h : w.ownsRow base t k v n xs) (hx : Ext w w') : w'.ownsRow base t k v n xs := own_grown h (grown_ext hx) (fun k hk => by cases hk)
theorem bt88 {k n : Nat} (h : k ≤ n) (hn : n ≤ 300) : (k + 1) * 88 ≤ 140737488355328 := by omega
theorem if_go {c : Prop} [Decidable c] {a b : Prop} (h : c) (ha : a) : if c then a else b := by rw [if_pos h]; exact ha
theorem Ch.all {α : Type} {R : List Value → α → Prop} {P : Value → Prop} (h : ∀ c x, R c x → ∀ u ∈ c, P u) : ∀ {xs : List Value} {l : List α}, Ch R xs l → ∀ u ∈ xs, P u
  | _, [], hx => by rw [show _ = [] from hx]; simp
  | _, _ :: _, ⟨c, r, e, h1, h2⟩ => by
    subst e
    intro u hu
    rcases List.mem_append.1 hu with hu | hu
    · exact h _ _ h1 u hu
    · exact Ch.all h h2 u hu
/-- an empty row that was just laid -/
theorem own_empty (w : World) (e : TypeId) (size : Nat) : (w.alloc (.cells #[] e)).ownsRow w.heap.size e size (.slice (some ⟨w.heap.size, 0, none⟩) 0 0) 0 [] :=
  ⟨by simp, .inr ⟨w.heap.size, 0, #[], rfl, Nat.le_refl _, heap_alloc_new w _, Nat.le_refl _, by unfold maxLen; omega, by simp, by simp⟩⟩
end Go.Proofs.YthalpbjkkfkheaaGreatDoor
