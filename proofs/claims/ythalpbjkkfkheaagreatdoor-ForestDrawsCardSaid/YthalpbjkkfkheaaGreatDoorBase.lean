/- Words for memory that every walk of this seat shares: a slice that reads as a list of cells, kept while old blocks of its element type are kept. No program is named here. -/
import Derived.WalkKit
import Derived.WalkSpells
import Derived.Lib.Hide
import Derived.Lib.AppendStr
import Derived.Lib.AppendIntMem
import Derived.Laws.AppendOwnNone
import Derived.Maps.AppendAt
import Derived.Laws.CopyOwn
namespace Go.Proofs.YthalpbjkkfkheaaGreatDoor
open Go.RowKit

theorem ret_int {k : IntKind} {a b : Int} (h : a = b) : Ending.returned (.int k a) = .returned (.int k b) := by rw [h]
theorem ret_bool {a b : Bool} (h : a = b) : Ending.returned (.bool a) = .returned (.bool b) := by rw [h]

theorem drew1 (w : World) (a : Nat) : ∃ n, w.drewN a = w.drewN n := ⟨a, rfl⟩
theorem drew2 (w : World) (a b : Nat) : ∃ n, (w.drewN a).drewN b = w.drewN n := ⟨a + b, World.drewN_drewN _ _ _⟩
theorem drewN_add (w : World) (a b : Nat) : (w.drewN a).drewN b = w.drewN (a + b) := World.drewN_drewN _ _ _
theorem drew3 (w : World) (a b c : Nat) : ∃ n, ((w.drewN a).drewN b).drewN c = w.drewN n := ⟨a + (b + c), by rw [World.drewN_drewN, World.drewN_drewN]⟩

/-- a callee that leaves the world as it was, in a region that only reads -/
theorem quiet0 {P : Program} {f : FuncId} {args : Array Value} {w : World} {n : Nat} {v : Value}
    (h : Calls P f args (w.drewN n) fun e w' => e = .returned v ∧ w.drewN n = w') : Calls P f args (w.drewN n) fun e w'' => e = .returned v ∧ ∃ m, w'' = w.drewN m :=
  h.mono fun _ _ ⟨he, hm⟩ => ⟨he, n, hm.symm⟩
theorem quietA {P : Program} {f : FuncId} {args : Array Value} {w : World} {a n : Nat} {v : Value}
    (h : Calls P f args (w.drewN (a + n)) fun e w' => e = .returned v ∧ w.drewN (a + n) = w') : Calls P f args (w.drewN (a + n)) fun e w'' => e = .returned v ∧ ∃ m, w'' = w.drewN (a + m) :=
  h.mono fun _ _ ⟨he, hm⟩ => ⟨he, n, hm.symm⟩
/-- every block of element type t that w holds stands in w' as it was -/
def Kept (t : TypeId) (w w' : World) : Prop := ∀ (g : Nat) (cur : Array Value) (fr : Nat × Nat), w.heap[g]? = some (.cells cur t fr) → w'.heap[g]? = some (.cells cur t fr)
/-- whatever lay in w stands in w' -/
abbrev Ext (w w' : World) : Prop := Below w.heap.size w w'

theorem lt_of_some {w : World} {g : Nat} {o : Obj} (h : w.heap[g]? = some o) : g < w.heap.size := by
  rcases Nat.lt_or_ge g w.heap.size with hlt | hge
  · exact hlt
  · rw [Array.getElem?_eq_none hge] at h; cases h

theorem Kept.refl (t : TypeId) (w : World) : Kept t w w := fun _ _ _ h => h
theorem Kept.trans {t : TypeId} {a b c : World} (h : Kept t a b) (k : Kept t b c) : Kept t a c := fun g cur fr hg => k g cur fr (h g cur fr hg)
theorem Kept.of_below {t : TypeId} {w w' : World} (h : Below w.heap.size w w') : Kept t w w' := fun g _ _ hg => (h.block g (lt_of_some hg)).trans hg
theorem Kept.drew {t : TypeId} {a w : World} (h : Kept t a w) : Kept t a w.drew := h
theorem Kept.alloc {t : TypeId} {a w : World} (h : Kept t a w) (o : Obj) : Kept t a (w.alloc o) := fun g cur fr hg => (Below.heap_alloc w o g (lt_of_some (h g cur fr hg))).trans (h g cur fr hg)
theorem Kept.grown {t e : TypeId} {w w' : World} {base size : Nat} {v : Value} {n : Nat} {xs : List Value} (hown : w.ownsRow base e size v n xs) (hg : w.grownBy w' v.ownBlock) (hne : e ≠ t) : Kept t w w' := by
  intro g cur fr hc
  refine (hg.block g (lt_of_some hc) ?_).trans hc
  rcases hown.2 with ⟨rfl, _⟩ | ⟨g', cap, cur', rfl, _, hh, _⟩
  · simp [Value.ownBlock]
  · intro he
    have : g' = g := by simpa [Value.ownBlock] using he.symm
    subst this
    rw [hh] at hc
    injection hc with hc
    injection hc with _ ht
    exact hne ht

theorem Ext.refl (w : World) : Ext w w := Below.refl _ _
theorem Ext.trans {a b c : World} (h : Ext a b) (k : Ext b c) : Ext a c := Below.trans h (Below.mono k h.size)
theorem Ext.alloc {a w : World} (h : Ext a w) (o : Obj) : Ext a (w.alloc o) := Below.alloc h h.size o
theorem Ext.drew {a w : World} (h : Ext a w) : Ext a w.drew := Below.drew h
theorem Ext.drewN {a w : World} (h : Ext a w) (n : Nat) : Ext a (w.drewN n) := ⟨h.os, h.tape, h.output, h.size, h.block⟩
theorem Ext.grown {a w w' : World} {e : TypeId} {size : Nat} {v : Value} {n : Nat} {xs : List Value} (h : Ext a w) (hown : w.ownsRow a.heap.size e size v n xs) (hg : w.grownBy w' v.ownBlock) : Ext a w' :=
  Below.grown h hg h.size (fun k hk => (hown.lt k hk).1)

/-- the address A holds the cells xs, in a block of element type t -/
def Sl (w : World) (t : TypeId) (A : Option Addr) (xs : List Value) : Prop :=
  ∀ j u, xs[j]? = some u → ∃ g o cur fr, A = some ⟨g, o, none⟩ ∧ w.heap[g]? = some (.cells cur t fr) ∧ cur[o + j]? = some u

theorem Sl.nil {w : World} {t : TypeId} {A : Option Addr} : Sl w t A [] := fun j u h => by simp at h
theorem Sl.keep {w w' : World} {t : TypeId} {A : Option Addr} {xs : List Value} (h : Sl w t A xs) (hk : Kept t w w') : Sl w' t A xs := fun j u hu => by
  obtain ⟨g, o, cur, fr, hA, hg, hc⟩ := h j u hu
  exact ⟨g, o, cur, fr, hA, hk g cur fr hg, hc⟩
theorem Sl.ext {w w' : World} {t : TypeId} {A : Option Addr} {xs : List Value} (h : Sl w t A xs) (hb : Ext w w') : Sl w' t A xs := h.keep (.of_below hb)
/-- the cell that a round reads -/
theorem Sl.at_ {w : World} {t : TypeId} {A : Option Addr} {xs : List Value} (h : Sl w t A xs) {k : Nat} {u : Value} (hk : xs[k]? = some u) : ∃ g o, A = some ⟨g, o, none⟩ ∧ g < w.heap.size ∧ w.cell? ⟨g, o + k, none⟩ = some u := by
  obtain ⟨g, o, cur, fr, hA, hg, hc⟩ := h k u hk
  exact ⟨g, o, hA, lt_of_some hg, by simp [World.cell?, hg, hc]⟩
theorem Sl.take {w : World} {t : TypeId} {A : Option Addr} {xs : List Value} (h : Sl w t A xs) (k : Nat) : Sl w t A (xs.take k) := fun j u hu => h j u (by
  rw [List.getElem?_take] at hu; split at hu
  · exact hu
  · cases hu)
theorem Sl.of_own {w : World} {base : Nat} {t : TypeId} {size n c : Nat} {A : Option Addr} {xs : List Value} (h : w.ownsRow base t size (.slice A n c) n xs) : Sl w t A xs := by
  intro j u hu
  rcases h.2 with ⟨hv, rfl⟩ | ⟨g, cap, cur, hv, _, hh, _, _, _, hx⟩
  · have := h.1; simp at this; subst this; simp at hu
  · injection hv with hA
    subst hA
    refine ⟨g, 0, cur, (0, 0), rfl, hh, ?_⟩
    rw [← hx, List.getElem?_take] at hu
    split at hu
    · simpa using hu
    · cases hu
theorem Sl.newF (w : World) (t : TypeId) (cs : Array Value) (fr : Nat × Nat) : Sl (w.alloc (.cells cs t fr)) t (some ⟨w.heap.size, 0, none⟩) cs.toList := fun j u hu =>
  ⟨w.heap.size, 0, cs, fr, rfl, heap_alloc_new w _, by simpa using hu⟩
theorem Sl.new (w : World) (t : TypeId) (cs : Array Value) : Sl (w.alloc (.cells cs t)) t (some ⟨w.heap.size, 0, none⟩) cs.toList := Sl.newF w t cs (0, 0)
theorem madeCells_one (z : Value) (n : Nat) : madeCells #[z] n = (List.replicate n z).toArray := by
  apply Array.ext
  · simp [madeCells]
  · intro i h1 h2
    simp [madeCells, Nat.mod_one]
/-- a block that is known whole: its cells, none frozen -/
def Blk (w : World) (g : Nat) (t : TypeId) (l : List Value) : Prop := w.heap[g]? = some (.cells l.toArray t (0, 0))
section
variable {w w' : World} {g : Nat} {t : TypeId} {l : List Value}
theorem Blk.lt (h : Blk w g t l) : g < w.heap.size := lt_of_some h
theorem Blk.cell (h : Blk w g t l) {i : Nat} {u : Value} (hu : l[i]? = some u) : w.cell? ⟨g, i, none⟩ = some u := by
  unfold Blk at h
  simpa [World.cell?, h] using hu
theorem Blk.frozen (h : Blk w g t l) (i : Nat) : w.frozen? ⟨g, i, none⟩ = false := by
  unfold Blk at h
  simp [World.frozen?, h]
theorem Blk.new (w : World) (t : TypeId) (l : List Value) : Blk (w.alloc (.cells l.toArray t)) w.heap.size t l := heap_alloc_new w _
theorem Blk.drew (h : Blk w g t l) : Blk w.drew g t l := h
theorem Blk.drewN (h : Blk w g t l) (n : Nat) : Blk (w.drewN n) g t l := h
theorem Blk.alloc (h : Blk w g t l) (o : Obj) : Blk (w.alloc o) g t l := (Below.heap_alloc w o g h.lt).trans h
theorem Blk.set_ (h : Blk w g t l) (i : Nat) (u : Value) : Blk (w.setCell ⟨g, i, none⟩ u) g t (l.set i u) := by
  unfold Blk at h ⊢
  simp [World.setCell, Array.getElem?_modify, h]
theorem Blk.far (h : Blk w g t l) {p : Addr} (hp : g ≠ p.block) (u : Value) : Blk (w.setCell p u) g t l := (Below.heap_setCell w p u g hp).trans h
theorem Blk.ext (h : Blk w g t l) (hb : Ext w w') : Blk w' g t l := (hb.block g h.lt).trans h
theorem Blk.sl (h : Blk w g t l) (o : Nat) : Sl w t (some ⟨g, o, none⟩) (l.drop o) := fun j u hu =>
  ⟨g, o, l.toArray, (0, 0), rfl, h, by simpa [List.getElem?_drop] using hu⟩
theorem Ext.setCell {a : World} (h : Ext a w) {p : Addr} (hp : a.heap.size ≤ p.block) (u : Value) : Ext a (w.setCell p u) := Below.setCell h hp u
end
/-- a store into a block of another element type -/
theorem Blk.kept_set {w : World} {g : Nat} {t e : TypeId} {l : List Value} (h : Blk w g e l) (hne : e ≠ t) (i : Nat) (u : Value) : Kept t w (w.setCell ⟨g, i, none⟩ u) := by
  intro g' cur fr hc
  refine (Below.heap_setCell w ⟨g, i, none⟩ u g' ?_).trans hc
  rintro rfl
  unfold Blk at h
  rw [h] at hc
  injection hc with hc
  injection hc with _ ht
  exact hne ht
theorem Blk.kept2 {w : World} {g : Nat} {t e : TypeId} {l : List Value} (h : Blk w g e l) (hne : e ≠ t) (i j : Nat) (u v : Value) : Kept t w ((w.setCell ⟨g, i, none⟩ u).setCell ⟨g, j, none⟩ v) :=
  (h.kept_set hne i u).trans ((h.set_ i u).kept_set hne j v)
theorem Blk.kept4 {w : World} {g : Nat} {t e : TypeId} {l : List Value} (h : Blk w g e l) (hne : e ≠ t) (i j m n : Nat) (u v x y : Value) :
    Kept t w ((((w.setCell ⟨g, i, none⟩ u).setCell ⟨g, j, none⟩ v).setCell ⟨g, m, none⟩ x).setCell ⟨g, n, none⟩ y) :=
  (h.kept2 hne i j u v).trans (((h.set_ i u).set_ j v).kept2 hne m n x y)
/-- what was there reads as it did -/
theorem Ext.cells {W w1 : World} (hb : Ext W w1) : (∀ b o, b < W.heap.size → w1.cell? ⟨b, o, none⟩ = W.cell? ⟨b, o, none⟩) ∧ (∀ b o, b < W.heap.size → w1.frozen? ⟨b, o, none⟩ = W.frozen? ⟨b, o, none⟩) :=
  ⟨fun b o h => hb.cell (p := ⟨b, o, none⟩) h, fun b o h => hb.frozen (p := ⟨b, o, none⟩) h⟩
/-- only block g has turned, and what is new -/
abbrev Only (g : Nat) (w w' : World) : Prop := w.grownBy w' (some g)
section
variable {a w w' : World} {g : Nat}
theorem Only.refl (g : Nat) (w : World) : Only g w w := World.grownBy.refl w _
theorem Only.drewN (h : Only g a w) (n : Nat) : Only g a (w.drewN n) := ⟨h.os, h.tape, h.output, h.size, h.block⟩
theorem Only.drew (h : Only g a w) : Only g a w.drew := ⟨h.os, h.tape, h.output, h.size, h.block⟩
theorem Only.set_ (h : Only g a w) (i : Nat) (u : Value) : Only g a (w.setCell ⟨g, i, none⟩ u) :=
  ⟨h.os, h.tape, h.output, by simpa [World.setCell] using h.size, fun j hj hne => (Below.heap_setCell w ⟨g, i, none⟩ u j (by rintro rfl; exact hne rfl)).trans (h.block j hj hne)⟩
theorem Sl.only {t : TypeId} {gv ov : Nat} {xs : List Value} (h : Sl w t (some ⟨gv, ov, none⟩) xs) (hg : Only g w w') (hne : gv ≠ g) : Sl w' t (some ⟨gv, ov, none⟩) xs := fun j u hu => by
  obtain ⟨g1, o, cur, fr, hA, hb, hc⟩ := h j u hu
  injection hA with hA
  injection hA with h1 h2
  subst h1 h2
  exact ⟨gv, ov, cur, fr, rfl, (hg.block gv (lt_of_some hb) (by simpa using hne)).trans hb, hc⟩
theorem Blk.only {t : TypeId} {g' : Nat} {l : List Value} (h : Blk w g' t l) (hg : Only g w w') (hne : g' ≠ g) : Blk w' g' t l := (hg.block g' h.lt (by simpa using hne)).trans h
theorem Ext.only (h : Ext a w) (hg : Only g w w') (hge : a.heap.size ≤ g) : Ext a w' := Below.grown h hg h.size (fun k hk => by injection hk with hk; omega)
end
/-- cells that came in: they lie in one block, of some element type -/
theorem Sl.of_cells {w : World} {A : Option Addr} {xs : List Value} (h : ∀ j u, xs[j]? = some u → ∃ ad, A = some ad ∧ w.cell? (ad.add j) = some u) : ∃ t, Sl w t A xs := by
  rcases xs with _ | ⟨x, r⟩
  · exact ⟨0, Sl.nil⟩
  · obtain ⟨ad, rfl, hc⟩ := h 0 x rfl
    have h0 : ad.add 0 = ad := by simp [Addr.add]
    rw [h0] at hc
    obtain ⟨g, o, sp⟩ := ad
    unfold World.cell? at hc
    dsimp only at hc
    split at hc
    · rename_i cur t fr hg
      split at hc
      · cases hc
      · rename_i hs
        have hs' : sp = none := by simpa using hs
        subst hs'
        refine ⟨t, fun j u hu => ⟨g, o, cur, fr, rfl, hg, ?_⟩⟩
        obtain ⟨ad, hA, hcj⟩ := h j u hu
        injection hA with hA
        subst hA
        rw [Addr.add_lit] at hcj
        simpa [World.cell?, hg] using hcj
    · cases hc
/-- of an owned row: the value, and its reading -/
theorem own_parts {w : World} {base : Nat} {t : TypeId} {size n : Nat} {v : Value} {xs : List Value} (h : w.ownsRow base t size v n xs) :
    ∃ A c, v = .slice A n c ∧ n ≤ c ∧ c ≤ maxLen ∧ Sl w t A xs := by
  rcases h.2 with ⟨rfl, rfl⟩ | ⟨g, cap, cur, rfl, hb, hh, hc, hm, hs, hx⟩
  · exact ⟨none, 0, rfl, Nat.le_refl _, by unfold maxLen; omega, Sl.of_own (c := 0) h⟩
  · exact ⟨some ⟨g, 0, none⟩, cap, rfl, hc, hm, Sl.of_own (c := cap) h⟩

/-- what is asked of a slice type: its element type, an element's cells and bytes -/
structure SliceTy (P : Program) (t e : TypeId) (size bytes : Nat) : Prop where
  ht : P.underlying t = some (.slice e)
  inf : ∃ i z, P.info? e = some i ∧ i.zero = some z ∧ i.size = size ∧ i.bytes = bytes ∧ z.cells.size = size
  pos : 0 < size
  bpos : 0 < bytes
theorem SliceTy.mk' {P : Program} {t e : TypeId} {size bytes : Nat} {z : Value} (ht : P.underlying t = some (.slice e)) (hi : (P.info? e).map (fun i => (i.zero, i.size, i.bytes)) = some (some z, size, bytes))
    (hz : z.cells.size = size) (hp : 0 < size) (hb : 0 < bytes) : SliceTy P t e size bytes := by
  obtain ⟨i, h0, h1, h2, h3⟩ := info_parts hi
  exact ⟨ht, ⟨i, z, h0, h1, h2, h3, hz⟩, hp, hb⟩

theorem grownBy_alloc {w w' : World} {o : Obj} {row : Option Nat} (h : (w.alloc o).grownBy w' row) : w.grownBy w' row :=
  ⟨h.os, h.tape, h.output, Nat.le_trans (by simp) h.size, fun i hi hne => (h.block i (by simp; omega) hne).trans (Below.heap_alloc w o i hi)⟩

section
variable {P : Program} {ops : Array Oper} {rest : List Oper} {o : Oper} {a : Act} {Q : Exit → Act → World → Prop} {w : World}
/-- append(s, x...): s owned, x whatever slice that reads -/
theorem wpList_app (hgd : o.guard = none) (s x : Operand) (t : TypeId)
    (ho : o.op = .call { callee := .builtin .append, args := #[s, x], argTypes := #[t, t] })
    (base : Nat) {e : TypeId} {size bytes : Nat} (T : SliceTy P t e size bytes)
    (v : Value) (n : Nat) (xs : List Value) (hs : a.eval s = v) (hown : w.ownsRow base e size v n xs)
    (A : Option Addr) (m c : Nat) (news : List Value) (hx : a.eval x = .slice A m c) (hc : A = none → c = 0) (hl : news.length = m * size) {t' : TypeId} (hnews : Sl w t' A news) (h1 : ∀ u ∈ news, u.oneCell' = true)
    (hbytes : (n + m) * bytes ≤ 140737488355328) (hbase : base ≤ w.heap.size)
    (h : ∀ v' w', w'.ownsRow base e size v' (n + m) (xs ++ news) → w.grownBy w' v.ownBlock → (v'.ownBlock = v.ownBlock ∨ v'.ownBlock = some w.heap.size) → wpList P ops Q rest (a.put o.dst v') w') :
    wpList P ops Q (o :: rest) a w := by
  obtain ⟨i, z, hi, hz, hz1, hz2, hz3⟩ := T.inf
  have hle : n + m ≤ maxLen := by
    have hp := T.bpos
    have := Nat.le_mul_of_pos_right (n + m) hp
    unfold maxLen; omega
  rcases A with _ | ad
  · have hn : news = [] := by
      rcases news with _ | ⟨u, r⟩
      · rfl
      · obtain ⟨g, o', _, _, hA, _⟩ := hnews 0 u rfl
        cases hA
    subst hn
    have hm : m = 0 := by
      have := T.pos
      rcases Nat.eq_zero_or_pos m with h0 | h0
      · exact h0
      · have := Nat.mul_pos h0 this
        simp only [List.length_nil] at hl
        omega
    subst hm
    have hc0 := hc rfl
    subst hc0
    refine wpList_append_own_none hgd s x t ho base e i size T.ht hi v n xs hs hown hx ?_
    have := h v w (by simpa using hown) (World.grownBy.refl w _) (.inl rfl)
    exact this
  · refine wpList_append_own_at _ hgd s x t ho base e i z size bytes T.ht hi hz hz1 hz2 hz3 T.pos v n xs hs hown ad m c news hx hl ?_ h1 hle hbytes hbase (fun v' w' h2 h3 _ h5 => h v' w' h2 h3 h5)
    intro j u hu
    obtain ⟨g, o', cur, fr, hA, hg, hcu⟩ := hnews j u hu
    injection hA with hA
    subst hA
    rw [Addr.add_lit]
    simp [World.cell?, hg, hcu]
/-- copy(d, s): d a part of a block that is known whole, s whatever slice that reads -/
theorem wpList_copyB (hgd : o.guard = none) (d s : Operand) (dT sT : TypeId)
    (ho : o.op = .call { callee := .builtin .copy, args := #[d, s], argTypes := #[dT, sT] }) (elem : TypeId) (hu : P.underlying dT = some (.slice elem)) (hsz : (P.info? elem).map (·.size) = some 1)
    (g off dl dc : Nat) (A : Option Addr) (m c : Nat) (hd : a.eval d = .slice (some ⟨g, off, none⟩) dl dc) (hs : a.eval s = .slice A m c)
    (t : TypeId) (cur : List Value) (hg : Blk w g t cur) (cs : List Value) (hn : cs.length = Nat.min m dl) {t' : TypeId} (hsrc : Sl w t' A cs) (hfit : off + cs.length ≤ cur.length) (h1 : ∀ v ∈ cs, v.oneCell' = true)
    (h : ∀ w', Hid (Blk w' g t (cur.take off ++ (cs ++ cur.drop (off + cs.length)))) → Only g w w' → wpList P ops Q rest (a.put o.dst (goInt cs.length)) w') : wpList P ops Q (o :: rest) a w := by
  by_cases h0 : cs.length = 0
  · obtain rfl : cs = [] := List.eq_nil_of_length_eq_zero h0
    refine wpList_copy_nothing hgd d s dT sT ho elem hu hsz _ _ _ _ _ _ hd hs (by simpa using hn.symm) ?_
    exact h w (show Blk _ _ _ _ by simpa using hg) (Only.refl _ _)
  · have hA : ∃ ad, A = some ad := by
      rcases cs with _ | ⟨u, r⟩
      · simp at h0
      · obtain ⟨g', o', _, _, hA, _⟩ := hsrc 0 u rfl
        exact ⟨_, hA⟩
    obtain ⟨ad, rfl⟩ := hA
    refine wpList_copy_own hgd d s dT sT ho elem hu hsz g off dl dc ad m c hd hs cur.toArray t hg cs hn ?_ (by simpa using hfit) h1 ?_
    · intro j u hu
      obtain ⟨g', o', cur', fr, hA, hg', hcu⟩ := hsrc j u hu
      injection hA with hA
      subst hA
      rw [Addr.add_lit]
      simp [World.cell?, hg', hcu]
    · refine h _ ?_ ?_
      · exact (show Blk _ _ _ _ from by unfold Blk; simpa using setRow_heap w g _ _ t _ hg)
      · exact ⟨rfl, rfl, rfl, by simp [World.setRow], fun i _ hne => setRow_other w g i _ (by rintro rfl; exact hne rfl)⟩
/-- append(s, x) of elements that were just laid in a block of their own -/
theorem wpList_app1 (hgd : o.guard = none) (s x : Operand) (t : TypeId)
    (ho : o.op = .call { callee := .builtin .append, args := #[s, x], argTypes := #[t, t] })
    (base : Nat) {e : TypeId} {size bytes : Nat} (T : SliceTy P t e size bytes)
    (v : Value) (n : Nat) (xs : List Value) (hs : a.eval s = v) (hown : w.ownsRow base e size v n xs)
    (cs : Array Value) (m c : Nat) (hx : a.eval x = .slice (some ⟨w.heap.size, 0, none⟩) m c) (hl : cs.size = m * size) (h1 : cs.toList.all (·.oneCell') = true)
    (hbytes : (n + m) * bytes ≤ 140737488355328) (hbase : base ≤ w.heap.size)
    (h : ∀ v' w', w'.ownsRow base e size v' (n + m) (xs ++ cs.toList) → w.grownBy w' v.ownBlock → (v'.ownBlock = v.ownBlock ∨ v'.ownBlock = some (w.heap.size + 1)) → wpList P ops Q rest (a.put o.dst v') w') :
    wpList P ops Q (o :: rest) a (w.alloc (.cells cs e)) :=
  wpList_app hgd s x t ho base T v n xs hs (hown.alloc _) _ m c cs.toList hx (fun h => by cases h) (by simpa using hl) (Sl.new w e cs)
    (List.all_eq_true.1 h1) hbytes (by simp; omega) (fun v' w' h2 h3 h5 => h v' w' h2 (grownBy_alloc h3) (by simpa using h5))
end
end Go.Proofs.YthalpbjkkfkheaaGreatDoor
