/- What is known in the first loop of MachineTurns: rows that grow side by side, boxes. -/
import Derived.Test.YtemnoemjmeflbaaGreatDoorMLinearW
namespace Go.Proofs.YtemnoemjmeflbaaGreatDoor
open Go.RowKit Go.Lib

section
variable {P : Program} {ops : Array Oper} {Q : Exit → Act → World → Prop} {md : Region.Mode} {S : World → Prop} {T : Nat → Bool}
theorem AnyT.of {fuel : Nat} {listed : Array Bool} {a : Act} {w : World} (i : Nat) (hir : i ∈ Region.ready md ops listed)
    (h : ∀ o, ops[i]? = some o → ∀ K : Act → World → Prop, Hid (∀ a' w', (T i = false → S w') → AnyT P md ops Q S T fuel (listed.setIfInBounds i true) a' w' → K a' w') → if Region.wanted o (yielded ops a.tmps) = true then o.wp P a w K Q else K (a.put o.dst undef) w) :
    wpOp P ops Q i (fun a' w' => (T i = false → S w') ∧ AnyT P md ops Q S T fuel (listed.setIfInBounds i true) a' w') a w := by
  obtain ⟨_, o, hi, _⟩ := mem_ready.1 hir
  have h1 := h o hi (fun a' w' => (T i = false → S w') ∧ AnyT P md ops Q S T fuel (listed.setIfInBounds i true) a' w') (fun _ _ h1 h2 => ⟨h1, h2⟩)
  unfold wpOp
  simp only [hi]
  split
  · rename_i hw
    rw [if_pos hw] at h1
    exact .inl h1
  · rename_i hw
    rw [if_neg hw] at h1
    exact h1
/-- three that are ready: a goal for each -/
theorem AnyT.three (i j k : Nat) {fuel : Nat} {listed : Array Bool} {a : Act} {w : World} (hr : Region.ready md ops listed = [i, j, k])
    (hi : ∀ o, ops[i]? = some o → ∀ K : Act → World → Prop, Hid (∀ a' w', (T i = false → S w') → AnyT P md ops Q S T fuel (listed.setIfInBounds i true) a' w' → K a' w') → if Region.wanted o (yielded ops a.tmps) = true then o.wp P a w K Q else K (a.put o.dst undef) w)
    (hj : ∀ o, ops[j]? = some o → ∀ K : Act → World → Prop, Hid (∀ a' w', (T j = false → S w') → AnyT P md ops Q S T fuel (listed.setIfInBounds j true) a' w' → K a' w') → if Region.wanted o (yielded ops a.tmps) = true then o.wp P a w K Q else K (a.put o.dst undef) w)
    (hk : ∀ o, ops[k]? = some o → ∀ K : Act → World → Prop, Hid (∀ a' w', (T k = false → S w') → AnyT P md ops Q S T fuel (listed.setIfInBounds k true) a' w' → K a' w') → if Region.wanted o (yielded ops a.tmps) = true then o.wp P a w K Q else K (a.put o.dst undef) w) : AnyT P md ops Q S T (fuel + 1) listed a w := by
  refine ⟨fun h0 => absurd h0 (by rw [hr]; simp), fun m hm => ?_⟩
  have hm' := hm
  rw [hr] at hm'
  rcases (by simpa using hm' : m = i ∨ m = j ∨ m = k) with h | h | h
  · subst h; exact AnyT.of _ hm hi
  · subst h; exact AnyT.of _ hm hj
  · subst h; exact AnyT.of _ hm hk
/-- each of the last ones waits for number i, however far -/
def waitsD (md : Region.Mode) (ops : Array Oper) (T : Nat → Bool) (i : Nat) : Bool := (List.range ops.size).all fun j => !T j || j == i || leads md ops 9 j i
theorem waitsD_spec {i j : Nat} {listed : Array Bool} (h : waitsD md ops T i = true) (hc : closed md ops listed = true) (hne : j ≠ i) (hr : j ∈ Region.ready md ops listed) (hu : listed.getD i true = false) : T j = false := by
  cases hT : T j with
  | false => rfl
  | true =>
    exfalso
    obtain ⟨_, o, ho, hall⟩ := mem_ready.1 hr
    unfold waitsD at h
    rw [List.all_eq_true] at h
    have h1 := h j (List.mem_range.2 (Array.getElem?_eq_some_iff.1 ho).1)
    simp only [hT, Bool.not_true, Bool.false_or, Bool.or_eq_true, beq_iff_eq, hne, false_or] at h1
    have h2 := leads_spec hc 9 j h1 (fun o' ho' e he hb => by rw [ho] at ho'; injection ho' with ho'; subst ho'; exact hall e he hb)
    rcases Nat.lt_or_ge i listed.size with hl | hl
    · simp [hl] at hu h2
      rw [hu] at h2
      cases h2
    · simp [Array.getElem?_eq_none hl] at h2
theorem AnyT.loadD (i d : Nat) (v : Value) {fuel : Nat} {listed : Array Bool} {a : Act} {w : World} (_hTi : T i = false)
    (hs : Region.noSelect ops = true) (hf : Region.free md ops listed i = true) (hr : (Region.ready md ops listed).contains i = true) (hw : waitsD md ops T i = true) (hc : closed md ops listed = true)
    (hQ : ∀ c a w, Q (.panic c) (a.put (some d) v) w → Q (.panic c) a w) (hS : S w)
    (hy : ∀ o, ops[i]? = some o → o.dst = some d ∧ Region.wanted o (yielded ops a.tmps) = true ∧ ∀ w, S w → (execOp a.eval o).run P w = .ok (.value v) w)
    (h : AnyT P md ops Q S T fuel (listed.setIfInBounds i true) (a.put (some d) v) w) : AnyT P md ops Q S T (fuel + 1) listed a w := by
  have hr' : i ∈ Region.ready md ops listed := by simpa using hr
  obtain ⟨_, o, ho, _⟩ := mem_ready.1 hr'
  obtain ⟨h1, h2, h3⟩ := hy o ho
  exact AnyT.firstG (G := S) ho (Region.noSelect_spec hs) (fun w hw _ => hw) (fun j l hji hcl hj hu => .inl ⟨fun _ h => h, waitsD_spec hw hcl hji hj hu⟩) (by rw [h1]; exact hQ) fuel listed a w hc (Region.free_spec ho hf) hr' (.inl ⟨h2, h3⟩) hS (by rw [h1]; exact h)
end
/-- append(s, x), as one operation, x in a block that is known whole -/
theorem wp_appB {P : Program} {o : Oper} {a : Act} {w : World} {K : Act → World → Prop} {Q : Exit → Act → World → Prop} (s x : Operand) (t : TypeId)
    (ho : o.op = .call { callee := .builtin .append, args := #[s, x], argTypes := #[t, t] })
    (base : Nat) {e : TypeId} {size bytes : Nat} (T : SliceTy P t e size bytes)
    (v : Value) (n : Nat) (xs : List Value) (hs : a.eval s = v) (hown : w.ownsRow base e size v n xs)
    (g : Nat) (cs : List Value) {e' : TypeId} (hB : Blk w g e' cs) (m c : Nat) (hx : a.eval x = .slice (some ⟨g, 0, none⟩) m c) (hl : cs.length = m * size) (h1 : cs.all (·.oneCell') = true)
    (hbytes : (n + m) * bytes ≤ 140737488355328) (hbase : base ≤ w.heap.size)
    (h : ∀ v' w', w'.ownsRow base e size v' (n + m) (xs ++ cs) → w.grownBy w' v.ownBlock → (v'.ownBlock = v.ownBlock ∨ v'.ownBlock = some w.heap.size) → K (a.put o.dst v') w') : o.wp P a w K Q := by
  obtain ⟨i, z, hi, hz, hz1, hz2, hz3⟩ := T.inf
  have hle : n + m ≤ maxLen := by
    have hp := T.bpos
    have := Nat.le_mul_of_pos_right (n + m) hp
    unfold maxLen; omega
  have hnews : ∀ j u, cs[j]? = some u → w.cell? ((⟨g, 0, none⟩ : Addr).add j) = some u := by
    intro j u hu
    rw [Addr.add_lit, Nat.zero_add]
    exact hB.cell hu
  obtain ⟨v', w', hr, h2, h3, _, h5⟩ := run_append_own_at (P := P) w base t o.type e i z size bytes T.ht hi hz hz1 hz2 hz3 T.pos v n xs hown ⟨g, 0, none⟩ m c cs hl hnews (List.all_eq_true.1 h1) hle hbytes hbase
  unfold Oper.wp execOp
  simp only [ho, resolve, invoke, builtin, Sem.run_bind, Sem.run_pure, Result.andThen_ok, List.map_toArray, List.map_cons, List.map_nil, hs, hx, hr]
  exact h v' w' h2 h3 h5
theorem Kept.base {u t : TypeId} {a w w' : World} {base k n : Nat} {v : Value} {xs : List Value} (h : Kept u a w) (hown : w.ownsRow base t k v n xs) (hg : w.grownBy w' v.ownBlock) (hb : a.heap.size ≤ base) : Kept u a w' := fun g cur fr hc => by
  have h1 := h g cur fr hc
  have h2 := lt_of_some hc
  exact (hg.block g (lt_of_some h1) (fun he => by have := (hown.lt g he.symm).1; omega)).trans h1
/-- rows of different elements lie in different blocks -/
theorem own_apartT {w : World} {b b' k k' n n' : Nat} {t t' : TypeId} {v v' : Value} {xs xs' : List Value} (h : w.ownsRow b t k v n xs) (h' : w.ownsRow b' t' k' v' n' xs') (hne : t ≠ t') : ∀ g, v.ownBlock = some g → v'.ownBlock ≠ some g := by
  intro g hg hg'
  rcases h.2 with ⟨rfl, _⟩ | ⟨g1, cap, cur, rfl, _, hh, _⟩
  · simp [Value.ownBlock] at hg
  · rcases h'.2 with ⟨rfl, _⟩ | ⟨g2, cap', cur', rfl, _, hh', _⟩
    · simp [Value.ownBlock] at hg'
    · have e1 : g1 = g := by simpa [Value.ownBlock] using hg
      have e2 : g2 = g := by simpa [Value.ownBlock] using hg'
      subst e1 e2
      rw [hh] at hh'
      injection hh' with hh'
      injection hh' with _ ht
      exact hne ht
structure St (w w9 : World) (g8 g10 g11 : Nat) (m8 m10 m11 : List Value) (lL : List Rat) (lF : List (List Rat)) (lY : List Rat) (cL cF cY : Value) (wc : World) : Prop where
  ka : ∀ u, tMach ≠ u → Kept u w9 wc
  b8 : Blk wc g8 tMach m8
  b10 : Blk wc g10 tMach m10
  b11 : Blk wc g11 tMach m11
  oL : OwnL tRat 1 RatR w9.heap.size wc cL lL
  oF : OwnL tRats 1 (fun _ => PR w9) w9.heap.size wc cF lF
  oY : OwnL tRat 1 RatR w9.heap.size wc cY lY
  ap : ∀ k, cL.ownBlock = some k → cY.ownBlock ≠ some k
  hx : Ext w wc
  hs : w9.heap.size ≤ wc.heap.size
theorem PR0.stab (w9 : World) : Stab [] (fun _ => PR w9) := fun _ _ _ _ _ h => h
section
variable {w w9 : World} {g8 g10 g11 : Nat} {m8 m10 m11 : List Value} {lL : List Rat} {lF : List (List Rat)} {lY : List Rat} {cL cF cY : Value} {wc w' : World}
theorem St.ext (h : St w w9 g8 g10 g11 m8 m10 m11 lL lF lY cL cF cY wc) (hx : Ext wc w') : St w w9 g8 g10 g11 m8 m10 m11 lL lF lY cL cF cY w' :=
  ⟨fun u hu => (h.ka u hu).trans (.of_below hx), h.b8.ext hx, h.b10.ext hx, h.b11.ext hx, h.oL.ext RatR.stab hx, h.oF.ext (PR0.stab w9) hx, h.oY.ext RatR.stab hx, h.ap, h.hx.trans hx, Nat.le_trans h.hs hx.size⟩
theorem St.appL (h : St w w9 g8 g10 g11 m8 m10 m11 lL lF lY cL cF cY wc) (e8 : g8 < w9.heap.size) (e10 : g10 < w9.heap.size) (e11 : g11 < w9.heap.size) (ew : w.heap.size ≤ w9.heap.size) {xs : List Value} {x : Rat} {cL' : Value} {n : Nat} (hn : lL.length = n)
    (hown : wc.ownsRow w9.heap.size tRat 1 cL n xs) (hc : Ch (RatR wc) xs lL) (ho : w'.ownsRow w9.heap.size tRat 1 cL' (n + 1) (xs ++ [.string ⟨(ratText x).toArray⟩])) (hg : wc.grownBy w' cL.ownBlock) (hb : cL'.ownBlock = cL.ownBlock ∨ cL'.ownBlock = some wc.heap.size) :
    St w w9 g8 g10 g11 m8 m10 m11 (lL ++ [x]) lF lY cL' cF cY w' := by
  subst hn
  refine ⟨fun u hu => (h.ka u hu).base hown hg (Nat.le_refl _), blkG h.b8 hown hg e8, blkG h.b10 hown hg e10, blkG h.b11 hown hg e11, OwnL.snoc (R := RatR) RatR.stab (fun u hu => by cases hu) hown hc rfl ho hg, ?_, ?_, ?_, grown_below h.hx hown hg ew, Nat.le_trans h.hs hg.size⟩
  · obtain ⟨ys, h1, h2⟩ := h.oF
    exact ⟨ys, own_grown h1 hg (own_apartT hown h1 (by decide)), h2⟩
  · obtain ⟨ys, h1, h2⟩ := h.oY
    exact ⟨ys, own_grown h1 hg h.ap, h2⟩
  · intro k hk hk'
    rcases hb with hb | hb
    · exact h.ap k (hb ▸ hk) hk'
    · obtain ⟨ys, h1, h2⟩ := h.oY
      have h3 := (h1.lt k hk').2
      rw [hb] at hk
      injection hk with hk
      omega
theorem St.appF (h : St w w9 g8 g10 g11 m8 m10 m11 lL lF lY cL cF cY wc) (e8 : g8 < w9.heap.size) (e10 : g10 < w9.heap.size) (e11 : g11 < w9.heap.size) (ew : w.heap.size ≤ w9.heap.size) {xs : List Value} {x : List Rat} {u : Value} {cF' : Value} {n : Nat} (hn : lF.length = n)
    (hown : wc.ownsRow w9.heap.size tRats 1 cF n xs) (hc : Ch (PR w9) xs lF) (hu : PR w9 [u] x) (ho : w'.ownsRow w9.heap.size tRats 1 cF' (n + 1) (xs ++ [u])) (hg : wc.grownBy w' cF.ownBlock) :
    St w w9 g8 g10 g11 m8 m10 m11 lL (lF ++ [x]) lY cL cF' cY w' := by
  subst hn
  refine ⟨fun u hu => (h.ka u hu).base hown hg (Nat.le_refl _), blkG h.b8 hown hg e8, blkG h.b10 hown hg e10, blkG h.b11 hown hg e11, ?_, OwnL.snoc (R := fun _ => PR w9) (PR0.stab w9) (fun u hu => by cases hu) hown hc hu ho hg, ?_, h.ap, grown_below h.hx hown hg ew, Nat.le_trans h.hs hg.size⟩
  · obtain ⟨ys, h1, h2⟩ := h.oL
    exact ⟨ys, own_grown h1 hg (own_apartT hown h1 (by decide)), h2⟩
  · obtain ⟨ys, h1, h2⟩ := h.oY
    exact ⟨ys, own_grown h1 hg (own_apartT hown h1 (by decide)), h2⟩
theorem St.appY (h : St w w9 g8 g10 g11 m8 m10 m11 lL lF lY cL cF cY wc) (e8 : g8 < w9.heap.size) (e10 : g10 < w9.heap.size) (e11 : g11 < w9.heap.size) (ew : w.heap.size ≤ w9.heap.size) {xs : List Value} {x : Rat} {cY' : Value} {n : Nat} (hn : lY.length = n)
    (hown : wc.ownsRow w9.heap.size tRat 1 cY n xs) (hc : Ch (RatR wc) xs lY) (ho : w'.ownsRow w9.heap.size tRat 1 cY' (n + 1) (xs ++ [.string ⟨(ratText x).toArray⟩])) (hg : wc.grownBy w' cY.ownBlock) (hb : cY'.ownBlock = cY.ownBlock ∨ cY'.ownBlock = some wc.heap.size) :
    St w w9 g8 g10 g11 m8 m10 m11 lL lF (lY ++ [x]) cL cF cY' w' := by
  subst hn
  refine ⟨fun u hu => (h.ka u hu).base hown hg (Nat.le_refl _), blkG h.b8 hown hg e8, blkG h.b10 hown hg e10, blkG h.b11 hown hg e11, ?_, ?_, OwnL.snoc (R := RatR) RatR.stab (fun u hu => by cases hu) hown hc rfl ho hg, ?_, grown_below h.hx hown hg ew, Nat.le_trans h.hs hg.size⟩
  · obtain ⟨ys, h1, h2⟩ := h.oL
    exact ⟨ys, own_grown h1 hg (fun k hk hk' => h.ap k hk' hk), h2⟩
  · obtain ⟨ys, h1, h2⟩ := h.oF
    exact ⟨ys, own_grown h1 hg (own_apartT hown h1 (by decide)), h2⟩
  · intro k hk hk'
    rcases hb with hb | hb
    · exact h.ap k hk (hb ▸ hk')
    · obtain ⟨ys, h1, h2⟩ := h.oL
      have h3 := (h1.lt k hk).2
      rw [hb] at hk'
      injection hk' with hk'
      omega
/-- a store into turned's box -/
theorem St.put {u0 u1 u2 u3 : Value} (h : St w w9 g8 g10 g11 m8 [u0, u1, u2, u3] m11 lL lF lY cL cF cY wc) (e10 : g10 < w9.heap.size) (n8 : g8 ≠ g10) (n11 : g11 ≠ g10) (ew : w.heap.size ≤ g10) (i : Nat) (x : Value) :
    St w w9 g8 g10 g11 m8 ([u0, u1, u2, u3].set i x) m11 lL lF lY cL cF cY (wc.setCell ⟨g10, i, none⟩ x) := by
  obtain ⟨W', hW, hB, hK, hO⟩ := put1 (i := i) h.b10 x
  rw [hW]
  refine ⟨fun u hu => (h.ka u hu).trans (hK.out u hu), h.b8.only hO.out n8, hB.out, h.b11.only hO.out n11, h.oL.only RatR.stab hO.out e10 (fun u hu => by cases hu), h.oF.only (PR0.stab w9) hO.out e10 (fun u hu => by cases hu), h.oY.only RatR.stab hO.out e10 (fun u hu => by cases hu), h.ap, h.hx.only hO.out ew, Nat.le_trans h.hs hO.out.size⟩
theorem St.putE {u0 u1 u2 u3 : Value} (h : St w w9 g8 g10 g11 m8 [u0, u1, u2, u3] m11 lL lF lY cL cF cY wc) (e10 : g10 < w9.heap.size) (n8 : g8 ≠ g10) (n11 : g11 ≠ g10) (ew : w.heap.size ≤ g10) (i : Nat) (x : Value) :
    ∃ W', wc.setCell ⟨g10, i, none⟩ x = W' ∧ Hid (St w w9 g8 g10 g11 m8 ([u0, u1, u2, u3].set i x) m11 lL lF lY cL cF cY W') := ⟨_, rfl, h.put e10 n8 n11 ew i x⟩
/-- a new block that no row owns -/
structure Bz (g : Nat) (t : TypeId) (cs : List Value) (cL cF cY : Value) (wc : World) : Prop where
  b : Blk wc g t cs
  nL : cL.ownBlock ≠ some g
  nF : cF.ownBlock ≠ some g
  nY : cY.ownBlock ≠ some g
theorem Bz.ext {g : Nat} {t : TypeId} {cs : List Value} (h : Bz g t cs cL cF cY wc) (hx : Ext wc w') : Bz g t cs cL cF cY w' := ⟨h.b.ext hx, h.nL, h.nF, h.nY⟩
theorem St.new {t : TypeId} {cs : List Value} (h : St w w9 g8 g10 g11 m8 m10 m11 lL lF lY cL cF cY wc) (hB : Blk w' wc.heap.size t cs) : Bz wc.heap.size t cs cL cF cY w' := by
  refine ⟨hB, fun e => ?_, fun e => ?_, fun e => ?_⟩
  · obtain ⟨ys, h1, _⟩ := h.oL
    have := (h1.lt _ e).2
    omega
  · obtain ⟨ys, h1, _⟩ := h.oF
    have := (h1.lt _ e).2
    omega
  · obtain ⟨ys, h1, _⟩ := h.oY
    have := (h1.lt _ e).2
    omega
theorem own_new {g : Nat} {c c' : Value} (h : c.ownBlock ≠ some g) (hb : c'.ownBlock = c.ownBlock ∨ c'.ownBlock = some wc.heap.size) (hg : g < wc.heap.size) : c'.ownBlock ≠ some g := by
  rcases hb with hb | hb
  · rw [hb]; exact h
  · rw [hb]
    intro e
    injection e with e
    omega
theorem Bz.appL {g : Nat} {t : TypeId} {cs : List Value} {cL' : Value} (h : Bz g t cs cL cF cY wc) (hg : wc.grownBy w' cL.ownBlock) (hb : cL'.ownBlock = cL.ownBlock ∨ cL'.ownBlock = some wc.heap.size) : Bz g t cs cL' cF cY w' :=
  ⟨(hg.block g h.b.lt (fun e => h.nL e.symm)).trans h.b, own_new h.nL hb h.b.lt, h.nF, h.nY⟩
theorem Bz.appF {g : Nat} {t : TypeId} {cs : List Value} {cF' : Value} (h : Bz g t cs cL cF cY wc) (hg : wc.grownBy w' cF.ownBlock) (hb : cF'.ownBlock = cF.ownBlock ∨ cF'.ownBlock = some wc.heap.size) : Bz g t cs cL cF' cY w' :=
  ⟨(hg.block g h.b.lt (fun e => h.nF e.symm)).trans h.b, h.nL, own_new h.nF hb h.b.lt, h.nY⟩
end
/-- the cells of a list stand where its elements' blocks are kept -/
theorem Ls.cells {α : Type} {t : TypeId} {k : Nat} {R : World → List Value → α → Prop} (hk : ∀ w c x, R w c x → c.length = k) {w : World} {g o n c : Nat} {l : List α} (h : Ls t R w (.slice (some ⟨g, o, none⟩) n c) l) {p : Nat} (hp : p < l.length * k) {w' : World} (hw : Kept t w w') : w'.cell? ⟨g, o + p, none⟩ = w.cell? ⟨g, o + p, none⟩ := by
  obtain ⟨A, c', xs, e, h2, h3, h4, h5, h6⟩ := h
  injection e with e1 e2 e3
  subst e1
  have hl := Ch.length (hk w) h6
  have hx : xs[p]? = some xs[p] := List.getElem?_eq_getElem (by omega)
  obtain ⟨g', o', cur, fr, hA, hg, hc⟩ := h5 p _ hx
  injection hA with hA
  injection hA with e1 e2
  subst e1 e2
  have hg' := hw _ _ _ hg
  simp [World.cell?, hg, hg']
theorem perm_upto {ks : List Int} {k : Nat} (h : ks.Perm (upto k)) {j : Nat} (hj : j < ks.length) : ∃ m : Nat, ks[j] = (m : Int) ∧ m < k := by
  have h1 := h.mem_iff.1 (List.getElem_mem hj)
  obtain ⟨m, hm, e⟩ := List.mem_map.1 h1
  exact ⟨m, e.symm, by simpa using hm⟩
theorem pick_next {α : Type} {d : α} {l : List α} {ks : List Int} {j : Nat} (h : j < ks.length) : pick d l (ks.take (j + 1)) = pick d l (ks.take j) ++ [l.getD ks[j].toNat d] := by
  unfold pick
  rw [List.take_succ_eq_append_getElem h, List.map_append]
  rfl
theorem pick_length {α : Type} {d : α} {l : List α} {ks : List Int} {j : Nat} (h : j ≤ ks.length) : (pick d l (ks.take j)).length = j := by
  unfold pick
  rw [List.length_map, List.length_take, Nat.min_eq_left h]
theorem Ch.imp {α : Type} {R R' : List Value → α → Prop} {xs : List Value} {l : List α} (h : Ch R xs l) (hi : ∀ c x, R c x → R' c x) : Ch R' xs l := h.mono hi
theorem pick_all {α : Type} {d : α} {l : List α} {ks : List Int} {k : Nat} (h : ks.length = k) : pick d l (ks.take k) = pick d l ks := by rw [List.take_of_length_le (by omega)]
theorem pick_mem {α : Type} {d : α} {l : List α} {ks : List Int} {k : Nat} (hp : ks.Perm (upto k)) (hl : l.length = k) : ∀ x ∈ pick d l ks, x ∈ l := by
  intro x hx
  obtain ⟨z, hz, rfl⟩ := List.mem_map.1 hx
  obtain ⟨m, hm, e⟩ := List.mem_map.1 (hp.mem_iff.1 hz)
  have hm : m < l.length := by rw [hl]; simpa using hm
  rw [← e, show (Int.ofNat m).toNat = m from rfl, getD_at hm]
  exact List.getElem_mem hm
theorem turn_ok {n r : Nat} {c : Rat} {lin : List Rat} {fac : List (List Rat)} {ks : List Int} (h : MOk n r c lin fac) (hp : ks.Perm (upto n)) : MOk n r c (pick 0 lin ks) (pick [] fac ks) :=
  ⟨h.n1, h.n3, h.r2, by rw [pick, List.length_map, hp.length_eq, upto_length], by rw [pick, List.length_map, hp.length_eq, upto_length], fun f hf => h.fr f (pick_mem hp h.fl f hf), h.fc, fun q hq => h.flin q (pick_mem hp h.ll q hq), fun f hf => h.ffac f (pick_mem hp h.fl f hf)⟩
theorem minus_length (f : List Rat) : (minus0 f).length = f.length := by cases f <;> rfl
theorem minus_ok {n r : Nat} {c : Rat} {lin : List Rat} {fac : List (List Rat)} (h : MOk n r c lin fac) : MOk n r c lin (fac.map minus0) := by
  refine ⟨h.n1, h.n3, h.r2, h.ll, by rw [List.length_map]; exact h.fl, ?_, h.fc, h.flin, ?_⟩
  · intro f hf
    obtain ⟨f', hf', rfl⟩ := List.mem_map.1 hf
    rw [minus_length]
    exact h.fr f' hf'
  · intro f hf q hq
    obtain ⟨f', hf', rfl⟩ := List.mem_map.1 hf
    cases f' with
    | nil => cases hq
    | cons x f' =>
      rcases List.mem_cons.1 hq with rfl | hq
      · exact (h.ffac _ hf' x (by simp)).neg
      · exact h.ffac _ hf' q (by simp [hq])
theorem minus_next {f : List Rat} {i : Nat} (h : i < f.length) : (minus0 f).take (i + 1) = (minus0 f).take i ++ [if i = 0 then 0 - f[i] else f[i]] := by
  rw [List.take_succ_eq_append_getElem (by rw [minus_length]; exact h)]
  congr 2
  cases f with
  | nil => simp at h
  | cons x f =>
    cases i with
    | zero => show -x = 0 - x; grind
    | succ i => rfl
theorem map_next {fac : List (List Rat)} {j : Nat} (h : j < fac.length) : (fac.take (j + 1)).map minus0 = (fac.take j).map minus0 ++ [minus0 fac[j]] := by
  rw [List.take_succ_eq_append_getElem h, List.map_append]
  rfl
end Go.Proofs.YtemnoemjmeflbaaGreatDoor
