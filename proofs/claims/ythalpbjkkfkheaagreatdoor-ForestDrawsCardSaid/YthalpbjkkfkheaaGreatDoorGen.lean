/- Words that several laws share. -/
import Derived.Test.YthalpbjkkfkheaaGreatDoorShuf
import Derived.Test.YthalpbjkkfkheaaGreatDoorBox
namespace Go.Proofs.YthalpbjkkfkheaaGreatDoor
open Go.RowKit Go.Lib

section
variable {P : Program} {ops : Array Oper} {Q : Exit → Act → World → Prop} {md : Region.Mode} {S : World → Prop} {T : Nat → Bool}
theorem AnyT.of {fuel : Nat} {listed : Array Bool} {a : Act} {w : World} (i : Nat) (hir : i ∈ Region.ready md ops listed)
    (h : ∀ o, ops[i]? = some o → ∀ K : Act → World → Prop, Hid (∀ a' w', (T i = false → S w') → AnyT P md ops Q S T fuel (listed.setIfInBounds i true) a' w' → K a' w') → if Region.wanted o (yielded ops a.tmps) = true then o.wp P a w K Q else K (a.put o.dst undef) w) :
    wpOp P ops Q i (fun a' w' => (T i = false → S w') ∧ AnyT P md ops Q S T fuel (listed.setIfInBounds i true) a' w') a w := by
  obtain ⟨_, o, hi, _⟩ := mem_ready.1 hir
  have h1 := h o hi (fun a' w' => (T i = false → S w') ∧ AnyT P md ops Q S T fuel (listed.setIfInBounds i true) a' w') (fun _ _ h1 h2 => ⟨h1, h2⟩)
  unfold wpOp
  simp only [hi]
  split
  · rename_i hw
    rw [if_pos hw] at h1
    exact .inl h1
  · rename_i hw
    rw [if_neg hw] at h1
    exact h1
/-- three that are ready: a goal for each -/
theorem AnyT.three (i j k : Nat) {fuel : Nat} {listed : Array Bool} {a : Act} {w : World} (hr : Region.ready md ops listed = [i, j, k])
    (hi : ∀ o, ops[i]? = some o → ∀ K : Act → World → Prop, Hid (∀ a' w', (T i = false → S w') → AnyT P md ops Q S T fuel (listed.setIfInBounds i true) a' w' → K a' w') → if Region.wanted o (yielded ops a.tmps) = true then o.wp P a w K Q else K (a.put o.dst undef) w)
    (hj : ∀ o, ops[j]? = some o → ∀ K : Act → World → Prop, Hid (∀ a' w', (T j = false → S w') → AnyT P md ops Q S T fuel (listed.setIfInBounds j true) a' w' → K a' w') → if Region.wanted o (yielded ops a.tmps) = true then o.wp P a w K Q else K (a.put o.dst undef) w)
    (hk : ∀ o, ops[k]? = some o → ∀ K : Act → World → Prop, Hid (∀ a' w', (T k = false → S w') → AnyT P md ops Q S T fuel (listed.setIfInBounds k true) a' w' → K a' w') → if Region.wanted o (yielded ops a.tmps) = true then o.wp P a w K Q else K (a.put o.dst undef) w) : AnyT P md ops Q S T (fuel + 1) listed a w := by
  refine ⟨fun h0 => absurd h0 (by rw [hr]; simp), fun m hm => ?_⟩
  have hm' := hm
  rw [hr] at hm'
  rcases (by simpa using hm' : m = i ∨ m = j ∨ m = k) with h | h | h
  · subst h; exact AnyT.of _ hm hi
  · subst h; exact AnyT.of _ hm hj
  · subst h; exact AnyT.of _ hm hk
/-- each of the last ones waits for number i, however far -/
def waitsD (md : Region.Mode) (ops : Array Oper) (T : Nat → Bool) (i : Nat) : Bool := (List.range ops.size).all fun j => !T j || j == i || leads md ops 9 j i
theorem waitsD_spec {i j : Nat} {listed : Array Bool} (h : waitsD md ops T i = true) (hc : closed md ops listed = true) (hne : j ≠ i) (hr : j ∈ Region.ready md ops listed) (hu : listed.getD i true = false) : T j = false := by
  cases hT : T j with
  | false => rfl
  | true =>
    exfalso
    obtain ⟨_, o, ho, hall⟩ := mem_ready.1 hr
    unfold waitsD at h
    rw [List.all_eq_true] at h
    have h1 := h j (List.mem_range.2 (Array.getElem?_eq_some_iff.1 ho).1)
    simp only [hT, Bool.not_true, Bool.false_or, Bool.or_eq_true, beq_iff_eq, hne, false_or] at h1
    have h2 := leads_spec hc 9 j h1 (fun o' ho' e he hb => by rw [ho] at ho'; injection ho' with ho'; subst ho'; exact hall e he hb)
    rcases Nat.lt_or_ge i listed.size with hl | hl
    · simp [hl] at hu h2
      rw [hu] at h2
      cases h2
    · simp [Array.getElem?_eq_none hl] at h2
theorem AnyT.loadD (i d : Nat) (v : Value) {fuel : Nat} {listed : Array Bool} {a : Act} {w : World} (_hTi : T i = false)
    (hs : Region.noSelect ops = true) (hf : Region.free md ops listed i = true) (hr : (Region.ready md ops listed).contains i = true) (hw : waitsD md ops T i = true) (hc : closed md ops listed = true)
    (hQ : ∀ c a w, Q (.panic c) (a.put (some d) v) w → Q (.panic c) a w) (hS : S w)
    (hy : ∀ o, ops[i]? = some o → o.dst = some d ∧ Region.wanted o (yielded ops a.tmps) = true ∧ ∀ w, S w → (execOp a.eval o).run P w = .ok (.value v) w)
    (h : AnyT P md ops Q S T fuel (listed.setIfInBounds i true) (a.put (some d) v) w) : AnyT P md ops Q S T (fuel + 1) listed a w := by
  have hr' : i ∈ Region.ready md ops listed := by simpa using hr
  obtain ⟨_, o, ho, _⟩ := mem_ready.1 hr'
  obtain ⟨h1, h2, h3⟩ := hy o ho
  exact AnyT.firstG (G := S) ho (Region.noSelect_spec hs) (fun w hw _ => hw) (fun j l hji hcl hj hu => .inl ⟨fun _ h => h, waitsD_spec hw hcl hji hj hu⟩) (by rw [h1]; exact hQ) fuel listed a w hc (Region.free_spec ho hf) hr' (.inl ⟨h2, h3⟩) hS (by rw [h1]; exact h)
/-- the operation with a number -/
def nthO : List Oper → Nat → Option Oper
  | [], _ => none
  | o :: _, 0 => some o
  | _ :: r, n + 1 => nthO r n
theorem nthO_get : ∀ (l : List Oper) (n : Nat), nthO l n = l[n]?
  | [], n => by simp [nthO]
  | o :: _, 0 => rfl
  | _ :: r, n + 1 => by rw [nthO, nthO_get r n]; rfl
/-- number i can be taken first -/
def ldOk (md : Region.Mode) (ops : Array Oper) (T : Nat → Bool) (listed : Array Bool) (i : Nat) : Bool := Region.noSelect ops && Region.free md ops listed i && (Region.ready md ops listed).contains i && waitsD md ops T i && closed md ops listed
/-- number i, which writes slot d, is taken first (as AnyT.loadD, with one check) -/
theorem AnyT.ld (i d : Nat) (v : Value) (o : Oper) {fuel : Nat} {listed : Array Bool} {a : Act} {w : World} (ho : nthO ops.toList i = some o) (hd : o.dst = some d) (hk : ldOk md ops T listed i = true)
    (hQ : ∀ c a w, Q (.panic c) (a.put (some d) v) w → Q (.panic c) a w) (hS : S w) (hw : Region.wanted o (yielded ops a.tmps) = true) (hy : ∀ w, S w → (execOp a.eval o).run P w = .ok (.value v) w)
    (h : AnyT P md ops Q S T fuel (listed.setIfInBounds i true) (a.put (some d) v) w) : AnyT P md ops Q S T (fuel + 1) listed a w := by
  unfold ldOk at hk
  simp only [Bool.and_eq_true] at hk
  obtain ⟨⟨⟨⟨k1, k2⟩, k3⟩, k4⟩, k5⟩ := hk
  have hr' : i ∈ Region.ready md ops listed := by simpa using k3
  have ho' : ops[i]? = some o := by rw [nthO_get] at ho; simpa using ho
  exact AnyT.firstG (G := S) ho' (Region.noSelect_spec k1) (fun w hw _ => hw) (fun j l hji hcl hj hu => .inl ⟨fun _ h => h, waitsD_spec k4 hcl hji hj hu⟩) (by rw [hd]; exact hQ) fuel listed a w k5 (Region.free_spec ho' k2) hr' (.inl ⟨hw, hy⟩) hS (by rw [hd]; exact h)
/-- an operation that its guard shuts out is taken first -/
theorem AnyT.loadU (i d : Nat) {fuel : Nat} {listed : Array Bool} {a : Act} {w : World} (_hTi : T i = false)
    (hs : Region.noSelect ops = true) (hf : Region.free md ops listed i = true) (hr : (Region.ready md ops listed).contains i = true) (hw : waitsD md ops T i = true) (hc : closed md ops listed = true)
    (hQ : ∀ c a w, Q (.panic c) (a.put (some d) undef) w → Q (.panic c) a w) (hS : S w)
    (hy : ∀ o, ops[i]? = some o → o.dst = some d ∧ Region.wanted o (yielded ops a.tmps) = false)
    (h : AnyT P md ops Q S T fuel (listed.setIfInBounds i true) (a.put (some d) undef) w) : AnyT P md ops Q S T (fuel + 1) listed a w := by
  have hr' : i ∈ Region.ready md ops listed := by simpa using hr
  obtain ⟨_, o, ho, _⟩ := mem_ready.1 hr'
  obtain ⟨h1, h2⟩ := hy o ho
  exact AnyT.firstG (G := S) ho (Region.noSelect_spec hs) (fun w hw _ => hw) (fun j l hji hcl hj hu => .inl ⟨fun _ h => h, waitsD_spec hw hcl hji hj hu⟩) (by rw [h1]; exact hQ) fuel listed a w hc (Region.free_spec ho hf) hr' (.inr ⟨h2, rfl⟩) hS (by rw [h1]; exact h)
end
theorem cap_le {α : Type} {t : TypeId} {R : World → List Value → α → Prop} {w : World} {A : Option Addr} {n c : Nat} {l : List α} (h : Ls t R w (.slice A n c) l) : n = l.length ∧ n ≤ c ∧ c ≤ 9223372036854775807 := by
  obtain ⟨_, _, _, e, h1, h2, _⟩ := h
  injection e with _ e1 e2
  subst e2
  unfold maxLen at h2
  omega
theorem storeG {a w : World} {g i : Nat} {t : TypeId} {l : List Value} (hB : Blk w g t l) (he : Ext a w) (hg : a.heap.size ≤ g) (x : Value) :
    ∃ W', w.setCell ⟨g, i, none⟩ x = W' ∧ Hid (Blk W' g t (l.set i x)) ∧ Hid (∀ u, t ≠ u → Kept u w W') ∧ Hid (Ext a W') ∧ Hid (Only g w W') :=
  ⟨_, rfl, hB.set_ i x, fun _ hu => hB.kept_set hu i x, he.setCell hg x, (Only.refl g w).set_ i x⟩
theorem blkG {w w' : World} {g base k n : Nat} {t e : TypeId} {l xs : List Value} {v : Value} (hB : Blk w g t l) (hown : w.ownsRow base e k v n xs) (hg : w.grownBy w' v.ownBlock) (hl : g < base) : Blk w' g t l :=
  (hg.block g hB.lt (fun h => by have := (hown.lt g h.symm).1; omega)).trans hB
theorem Blk.six {w : World} {g : Nat} {t : TypeId} {a b c d e f : Value} (h : Blk w g t [a, b, c, d, e, f]) : w.cell? ⟨g, 0, none⟩ = some a ∧ w.cell? ⟨g, 1, none⟩ = some b ∧ w.cell? ⟨g, 2, none⟩ = some c ∧ w.cell? ⟨g, 3, none⟩ = some d ∧ w.cell? ⟨g, 4, none⟩ = some e ∧ w.cell? ⟨g, 5, none⟩ = some f :=
  ⟨h.cell (i := 0) rfl, h.cell (i := 1) rfl, h.cell (i := 2) rfl, h.cell (i := 3) rfl, h.cell (i := 4) rfl, h.cell (i := 5) rfl⟩
theorem Blk.free6 {w : World} {g : Nat} {t : TypeId} {l : List Value} (h : Blk w g t l) : w.frozen? ⟨g, 0, none⟩ = false ∧ w.frozen? ⟨g, 1, none⟩ = false ∧ w.frozen? ⟨g, 2, none⟩ = false ∧ w.frozen? ⟨g, 3, none⟩ = false ∧ w.frozen? ⟨g, 4, none⟩ = false ∧ w.frozen? ⟨g, 5, none⟩ = false :=
  ⟨h.frozen 0, h.frozen 1, h.frozen 2, h.frozen 3, h.frozen 4, h.frozen 5⟩
theorem Only.fresh {a w w' : World} {g k : Nat} (h : Only g a w) (ho : Only k w w') (hk : a.heap.size ≤ k) : Only g a w' :=
  ⟨ho.os.trans h.os, ho.tape.trans h.tape, ho.output.trans h.output, Nat.le_trans h.size ho.size, fun i hi hne => (ho.block i (Nat.lt_of_lt_of_le hi h.size) (by simp; omega)).trans (h.block i hi hne)⟩
theorem SrcAt.past {w w' : World} {g k : Nat} (h : SrcAt w g) (ho : Only k w w') (hk : g < k) : SrcAt w' g := h.grown ho (fun j hj => by injection hj with hj; omega)
theorem put2b {a w : World} {g : Nat} {t : TypeId} {u0 u1 : Value} (hB : Blk w g t [u0, u1]) (he : Ext a w) (hg : a.heap.size ≤ g) (x0 x1 : Value) :
    ∃ W', ((w.setCell ⟨g, 0, none⟩ x0).setCell ⟨g, 1, none⟩ x1) = W' ∧ Hid (Blk W' g t [x0, x1]) ∧ Hid (∀ u, t ≠ u → Kept u w W') ∧ Hid (Only g w W') ∧ Hid (Ext a W') :=
  ⟨_, rfl, (hB.set_ 0 x0).set_ 1 x1, fun _ hu => (hB.kept_set hu 0 x0).trans ((hB.set_ 0 x0).kept_set hu 1 x1), ((Only.refl g w).set_ 0 x0).set_ 1 x1, (he.setCell hg _).setCell hg _⟩
theorem put4 {w : World} {g : Nat} {t : TypeId} {u0 u1 u2 u3 : Value} (hB : Blk w g t [u0, u1, u2, u3]) (x0 x1 x2 x3 : Value) :
    ∃ W', ((((w.setCell ⟨g, 0, none⟩ x0).setCell ⟨g, 1, none⟩ x1).setCell ⟨g, 2, none⟩ x2).setCell ⟨g, 3, none⟩ x3) = W' ∧ Hid (Blk W' g t [x0, x1, x2, x3]) ∧ Hid (∀ u, t ≠ u → Kept u w W') ∧ Hid (Only g w W') := by
  have b0 := hB.set_ 0 x0
  have b1 := b0.set_ 1 x1
  have b2 := b1.set_ 2 x2
  have b3 := b2.set_ 3 x3
  exact ⟨_, rfl, b3, fun u hu => (((hB.kept_set hu 0 x0).trans (b0.kept_set hu 1 x1)).trans (b1.kept_set hu 2 x2)).trans (b2.kept_set hu 3 x3), ((((Only.refl g w).set_ 0 _).set_ 1 _).set_ 2 _).set_ 3 _⟩
theorem Ls.kept {α : Type} {t : TypeId} {R : World → List Value → α → Prop} {T : List TypeId} (hR : Stab T R) {w w' : World} {v : Value} {l : List α} (h : Ls t R w v l) {s : TypeId} (hk : ∀ u, s ≠ u → Kept u w w') (hs : s ≠ t ∧ ∀ u ∈ T, s ≠ u) : Ls t R w' v l :=
  h.keep hR fun u hu => hk u (by
    rcases List.mem_cons.1 hu with rfl | hu
    · exact hs.1
    · exact hs.2 u hu)
theorem Src.keptA {w w' : World} {g : Nat} (hs : SrcAt w g) (ho : Only g w w') : ∀ u, tSrc ≠ u → Kept u w w' := fun _ hu => Src.kept hs ho hu
theorem il_sl {w : World} {A : Option Addr} {n c : Nat} {l : List Int} (h : IL w (.slice A n c) l) : Sl w tInt A (zcells l) ∧ (A = none → c = 0) := by
  obtain ⟨A', c', xs, e, h2, h3, h4, h5, h6⟩ := h
  injection e with e1 e2 e3
  subst e1 e3
  have hx : xs = zcells l := by
    clear h5 h2 h3 e2
    induction l generalizing xs with
    | nil => exact h6
    | cons z l ih =>
      obtain ⟨c, r, rfl, hc, hr⟩ := h6
      rw [ih r hr, show c = [.int .i64 z] from hc]
      rfl
  rw [← hx]
  exact ⟨h5, h4⟩
theorem Only.grownF {a b c : World} {g base k n : Nat} {t : TypeId} {v : Value} {xs : List Value} (h : Only g a b) (hown : b.ownsRow base t k v n xs) (hg : b.grownBy c v.ownBlock) (hb : a.heap.size ≤ base) : Only g a c :=
  ⟨hg.os.trans h.os, hg.tape.trans h.tape, hg.output.trans h.output, Nat.le_trans h.size hg.size, fun i hi hne => (hg.block i (Nat.lt_of_lt_of_le hi h.size) (fun he => by have := (hown.lt i he.symm).1; omega)).trans (h.block i hi hne)⟩
theorem put1 {w : World} {g i : Nat} {t : TypeId} {l : List Value} (hB : Blk w g t l) (x : Value) :
    ∃ W', w.setCell ⟨g, i, none⟩ x = W' ∧ Hid (Blk W' g t (l.set i x)) ∧ Hid (∀ u, t ≠ u → Kept u w W') ∧ Hid (Only g w W') :=
  ⟨_, rfl, hB.set_ i x, fun _ hu => hB.kept_set hu i x, (Only.refl g w).set_ i x⟩
/-- append(s, x), as one operation, x in a block that is known whole -/
theorem wp_appB {P : Program} {o : Oper} {a : Act} {w : World} {K : Act → World → Prop} {Q : Exit → Act → World → Prop} (s x : Operand) (t : TypeId)
    (ho : o.op = .call { callee := .builtin .append, args := #[s, x], argTypes := #[t, t] })
    (base : Nat) {e : TypeId} {size bytes : Nat} (T : SliceTy P t e size bytes)
    (v : Value) (n : Nat) (xs : List Value) (hs : a.eval s = v) (hown : w.ownsRow base e size v n xs)
    (g : Nat) (cs : List Value) {e' : TypeId} (hB : Blk w g e' cs) (m c : Nat) (hx : a.eval x = .slice (some ⟨g, 0, none⟩) m c) (hl : cs.length = m * size) (h1 : cs.all (·.oneCell') = true)
    (hbytes : (n + m) * bytes ≤ 140737488355328) (hbase : base ≤ w.heap.size)
    (h : ∀ v' w', w'.ownsRow base e size v' (n + m) (xs ++ cs) → w.grownBy w' v.ownBlock → (v'.ownBlock = v.ownBlock ∨ v'.ownBlock = some w.heap.size) → K (a.put o.dst v') w') : o.wp P a w K Q := by
  obtain ⟨i, z, hi, hz, hz1, hz2, hz3⟩ := T.inf
  have hle : n + m ≤ maxLen := by
    have hp := T.bpos
    have := Nat.le_mul_of_pos_right (n + m) hp
    unfold maxLen; omega
  have hnews : ∀ j u, cs[j]? = some u → w.cell? ((⟨g, 0, none⟩ : Addr).add j) = some u := by
    intro j u hu
    rw [Addr.add_lit, Nat.zero_add]
    exact hB.cell hu
  obtain ⟨v', w', hr, h2, h3, _, h5⟩ := run_append_own_at (P := P) w base t o.type e i z size bytes T.ht hi hz hz1 hz2 hz3 T.pos v n xs hown ⟨g, 0, none⟩ m c cs hl hnews (List.all_eq_true.1 h1) hle hbytes hbase
  unfold Oper.wp execOp
  simp only [ho, resolve, invoke, builtin, Sem.run_bind, Sem.run_pure, Result.andThen_ok, List.map_toArray, List.map_cons, List.map_nil, hs, hx, hr]
  exact h v' w' h2 h3 h5
theorem Kept.base {u t : TypeId} {a w w' : World} {base k n : Nat} {v : Value} {xs : List Value} (h : Kept u a w) (hown : w.ownsRow base t k v n xs) (hg : w.grownBy w' v.ownBlock) (hb : a.heap.size ≤ base) : Kept u a w' := fun g cur fr hc => by
  have h1 := h g cur fr hc
  have h2 := lt_of_some hc
  exact (hg.block g (lt_of_some h1) (fun he => by have := (hown.lt g he.symm).1; omega)).trans h1
/-- rows of different elements lie in different blocks -/
theorem own_apartT {w : World} {b b' k k' n n' : Nat} {t t' : TypeId} {v v' : Value} {xs xs' : List Value} (h : w.ownsRow b t k v n xs) (h' : w.ownsRow b' t' k' v' n' xs') (hne : t ≠ t') : ∀ g, v.ownBlock = some g → v'.ownBlock ≠ some g := by
  intro g hg hg'
  rcases h.2 with ⟨rfl, _⟩ | ⟨g1, cap, cur, rfl, _, hh, _⟩
  · simp [Value.ownBlock] at hg
  · rcases h'.2 with ⟨rfl, _⟩ | ⟨g2, cap', cur', rfl, _, hh', _⟩
    · simp [Value.ownBlock] at hg'
    · have e1 : g1 = g := by simpa [Value.ownBlock] using hg
      have e2 : g2 = g := by simpa [Value.ownBlock] using hg'
      subst e1 e2
      rw [hh] at hh'
      injection hh' with hh'
      injection hh' with _ ht
      exact hne ht
/-- the cells of a list stand where its elements' blocks are kept -/
theorem Ls.cells {α : Type} {t : TypeId} {k : Nat} {R : World → List Value → α → Prop} (hk : ∀ w c x, R w c x → c.length = k) {w : World} {g o n c : Nat} {l : List α} (h : Ls t R w (.slice (some ⟨g, o, none⟩) n c) l) {p : Nat} (hp : p < l.length * k) {w' : World} (hw : Kept t w w') : w'.cell? ⟨g, o + p, none⟩ = w.cell? ⟨g, o + p, none⟩ := by
  obtain ⟨A, c', xs, e, h2, h3, h4, h5, h6⟩ := h
  injection e with e1 e2 e3
  subst e1
  have hl := Ch.length (hk w) h6
  have hx : xs[p]? = some xs[p] := List.getElem?_eq_getElem (by omega)
  obtain ⟨g', o', cur, fr, hA, hg, hc⟩ := h5 p _ hx
  injection hA with hA
  injection hA with e1 e2
  subst e1 e2
  have hg' := hw _ _ _ hg
  simp [World.cell?, hg, hg']
theorem intp_fit1 {q : Rat} (h : IntP q) : FitQ 1 q := by
  obtain ⟨r, h1, h2, rfl⟩ := h
  exact ⟨by rw [int_rat_num]; omega, by rw [int_rat_den]; decide⟩
end Go.Proofs.YthalpbjkkfkheaaGreatDoor
