/- A region with a chain of calls and two operations, each of which makes a new block, that may come up at any place in it: the chain is walked once, for worlds that may have grown in between. -/
import Derived.Test.YtkhmfgkbobblmaaGreatDoorGen
namespace Go.Proofs.YtkhmfgkbobblmaaGreatDoor
open Go.RowKit Go.Lib

theorem put_tmps {a : Act} {dst : Option Nat} {v : Value} {d : Nat} (h : dst ≠ some d) : (a.put dst v).tmps[d]? = a.tmps[d]? := by
  cases dst with
  | none => rfl
  | some k => simp [Act.put, show k ≠ d from fun e => h (by rw [e])]
theorem put_size (a : Act) (dst : Option Nat) (v : Value) : (a.put dst v).tmps.size = a.tmps.size := by
  cases dst with
  | none => rfl
  | some k => simp [Act.put]
theorem put_self {a : Act} {d : Nat} {u : Value} (h : a.tmps[d]? = some u) : a.put (some d) u = a := by
  obtain ⟨tmps, defers⟩ := a
  simp only [Act.put, Act.mk.injEq, and_true]
  apply Array.ext
  · simp
  · intro i h1 h2
    rw [Array.getElem_setIfInBounds]
    split
    · rename_i e
      subst e
      rw [Array.getElem?_eq_getElem h2] at h
      injection h with h
      exact h.symm
    · rfl
theorem put_put (a : Act) (d : Nat) (u v : Value) : (a.put (some d) u).put (some d) v = a.put (some d) v := by
  obtain ⟨tmps, defers⟩ := a
  simp [Act.put, Array.setIfInBounds_setIfInBounds]
theorem put_two (a : Act) {d1 d2 : Nat} (h : d1 ≠ d2) (u v x : Value) : ((a.put (some d1) u).put (some d2) v).put (some d1) x = (a.put (some d1) x).put (some d2) v := by
  rw [Act.put_comm _ _ _ (by simpa using h), put_put]
section
variable {P : Program} {ops : Array Oper} {Q : Exit → Act → World → Prop} {md : Region.Mode} {S : World → Prop} {T : Nat → Bool}
theorem wpOp_frame {i : Nat} {o : Oper} (ho : ops[i]? = some o) {d : Nat} (hd : o.dst ≠ some d) {K : Act → World → Prop} {a : Act} {w : World} (h : wpOp P ops Q i K a w) :
    wpOp P ops Q i (fun a' w' => (a'.tmps[d]? = a.tmps[d]? ∧ a'.tmps.size = a.tmps.size) ∧ K a' w') a w := by
  unfold wpOp at *
  simp only [ho] at *
  have hp : ∀ (b : Act) v, b.tmps = a.tmps → ((b.put o.dst v).tmps[d]? = a.tmps[d]? ∧ (b.put o.dst v).tmps.size = a.tmps.size) := fun b v hb => ⟨by rw [put_tmps hd, hb], by rw [put_size, hb]⟩
  split
  · rename_i hw
    simp only [hw, if_true] at h
    refine h.imp (fun h => ?_) id
    unfold Oper.wp at *
    generalize (execOp a.eval o).run P w = r at *
    cases r with
    | ok n w' =>
      cases n <;> simp only [Oper.upon] at h ⊢ <;>
        first
          | exact ⟨hp _ _ rfl, h⟩
          | exact Calls.mono h (fun e w'' he => by cases e <;> first | exact ⟨hp _ _ rfl, he⟩ | exact he)
          | exact Rows.mono h (fun _ _ he => ⟨hp _ _ rfl, he⟩)
    | halt x w' => cases x <;> simp only [Oper.upon] at h ⊢ <;> exact h
  · rename_i hw
    simp only [hw] at h
    exact ⟨hp _ _ rfl, h⟩
theorem wpOp_intro {i : Nat} {K : Act → World → Prop} {a : Act} {w : World} (o : Oper) (ho : nthO ops.toList i = some o) (hw : Region.wanted o (yielded ops a.tmps) = true) (h : o.wp P a w K Q) : wpOp P ops Q i K a w := by
  have ho' : ops[i]? = some o := by rw [nthO_get] at ho; simpa using ho
  unfold wpOp
  simp only [ho', hw, if_true]
  exact .inl h
/-- n operations of the chain are left; the two slots hold what they hold, the world may have grown -/
def AnyE (P : Program) (md : Region.Mode) (ops : Array Oper) (Q : Exit → Act → World → Prop) (S : World → Prop) (T : Nat → Bool) (fT d1 d2 : Nat) (t1 t2 : TypeId) (z1 z2 : List Value) (base : Nat) : Nat → Array Bool → Act → World → Prop
  | 0, L, a, w => (Region.ready md ops L).all T = true ∧ ∀ g1 g2 w', Ext w w' → S w' → Blk w' g1 t1 z1 → Blk w' g2 t2 z2 → base ≤ g1 → base ≤ g2 → g1 ≠ g2 → AnyT P md ops Q S T fT L ((a.put (some d1) (.pointer (some ⟨g1, 0, none⟩))).put (some d2) (.pointer (some ⟨g2, 0, none⟩))) w'
  | n + 1, L, a, w => Region.ready md ops L ≠ [] ∧ ∀ j ∈ Region.ready md ops L, ∀ u1 u2 w', Ext w w' → S w' → wpOp P ops Q j (fun a' w'' => (Ext w' w'' ∧ S w'') ∧ AnyE P md ops Q S T fT d1 d2 t1 t2 z1 z2 base n (L.setIfInBounds j true) a' w'') ((a.put (some d1) u1).put (some d2) u2) w'
def floatOk (md : Region.Mode) (ops : Array Oper) (T : Nat → Bool) (i1 d1 i2 d2 : Nat) : Bool := (List.range ops.size).all fun j => match ops[j]? with
  | some o => if j == i1 then o.after.isEmpty && o.dst == some d1 else if j == i2 then o.after.isEmpty && o.dst == some d2 else o.dst != some d1 && o.dst != some d2 && (!T j || (o.after.any (fun e => Region.binds md e && e.on == i1) && o.after.any (fun e => Region.binds md e && e.on == i2)))
  | none => true
section
variable {fT i1 d1 i2 d2 base : Nat} {t1 t2 : TypeId} {z1 z2 : List Value}
theorem float_at (h : floatOk md ops T i1 d1 i2 d2 = true) {j : Nat} {o : Oper} (ho : ops[j]? = some o) : (if j == i1 then o.after.isEmpty && o.dst == some d1 else if j == i2 then o.after.isEmpty && o.dst == some d2 else o.dst != some d1 && o.dst != some d2 && (!T j || (o.after.any (fun e => Region.binds md e && e.on == i1) && o.after.any (fun e => Region.binds md e && e.on == i2)))) = true := by
  unfold floatOk at h
  rw [List.all_eq_true] at h
  have h1 := h j (List.mem_range.2 (Array.getElem?_eq_some_iff.1 ho).1)
  rw [ho] at h1
  exact h1
theorem ready_free {L : Array Bool} {i : Nat} {o : Oper} (ho : ops[i]? = some o) (he : o.after.isEmpty = true) (hL : L[i]? = some false) : i ∈ Region.ready md ops L := by
  refine mem_ready.2 ⟨by simp [Array.getD_eq_getD_getElem?, hL], o, ho, fun e hm => ?_⟩
  rw [Array.isEmpty_iff] at he
  rw [he] at hm
  simp at hm
theorem AnyE.run (hck : floatOk md ops T i1 d1 i2 d2 = true) (hi : i1 ≠ i2) (hd : d1 ≠ d2) {o1 o2 : Oper} (ho1 : ops[i1]? = some o1) (ho2 : ops[i2]? = some o2)
    (hal1 : ∀ a w (K : Act → World → Prop), K (a.put (some d1) (.pointer (some ⟨w.heap.size, 0, none⟩))) (w.alloc (.cells z1.toArray t1)) → wpOp P ops Q i1 K a w)
    (hal2 : ∀ a w (K : Act → World → Prop), K (a.put (some d2) (.pointer (some ⟨w.heap.size, 0, none⟩))) (w.alloc (.cells z2.toArray t2)) → wpOp P ops Q i2 K a w)
    (hSa : ∀ w o, S w → S (w.alloc o)) : ∀ (m n : Nat) (b1 b2 : Bool) (LS LR : Array Bool) (a aR : Act) (w wR : World) (u1 u2 : Value), m = n + (cond b1 0 1) + (cond b2 0 1) →
      LR.size = LS.size → LR[i1]? = some b1 → LR[i2]? = some b2 → LS[i1]? = some true → LS[i2]? = some true → (∀ j, j ≠ i1 → j ≠ i2 → LR[j]? = LS[j]?) →
      aR = (a.put (some d1) u1).put (some d2) u2 → d1 < aR.tmps.size → d2 < aR.tmps.size → (b1 = true → ∃ g1, u1 = .pointer (some ⟨g1, 0, none⟩) ∧ Blk wR g1 t1 z1 ∧ base ≤ g1) → (b2 = true → ∃ g2, u2 = .pointer (some ⟨g2, 0, none⟩) ∧ Blk wR g2 t2 z2 ∧ base ≤ g2) →
      (b1 = true → b2 = true → u1 ≠ u2) → Ext w wR → S wR → base ≤ wR.heap.size → AnyE P md ops Q S T fT d1 d2 t1 t2 z1 z2 base n LS a w → AnyT P md ops Q S T (m + fT) LR aR wR := by
  intro m
  induction m with
  | zero =>
    intro n b1 b2 LS LR a aR w wR u1 u2 hm hsz h1 h2 h3 h4 hL ha hs1 hs2 hb1 hb2 hne hx hS hbase hE
    cases b1 <;> cases b2 <;> simp only [cond] at hm <;> try omega
    obtain rfl : n = 0 := by omega
    obtain ⟨g1, rfl, B1, hg1⟩ := hb1 rfl
    obtain ⟨g2, rfl, B2, hg2⟩ := hb2 rfl
    have hLL : LR = LS := by
      apply Array.ext_getElem?
      intro j
      by_cases e1 : j = i1
      · subst e1; rw [h1, h3]
      · by_cases e2 : j = i2
        · subst e2; rw [h2, h4]
        · exact hL j e1 e2
    rw [hLL, ha, Nat.zero_add]
    exact hE.2 g1 g2 wR hx hS B1 B2 hg1 hg2 (fun e => hne rfl rfl (by rw [e]))
  | succ m ih =>
    intro n b1 b2 LS LR a aR w wR u1 u2 hm hsz h1 h2 h3 h4 hL ha hs1 hs2 hb1 hb2 hne hx hS hbase hE
    have k1 := float_at hck ho1
    have k2 := float_at hck ho2
    rw [if_pos (beq_self_eq_true i1)] at k1
    rw [if_neg (by rw [beq_iff_eq]; exact hi.symm), if_pos (beq_self_eq_true i2)] at k2
    rw [Bool.and_eq_true] at k1 k2
    have ht1 : aR.tmps[d1]? = some u1 := by
      rw [ha, put_tmps (by simpa using hd.symm)]
      have : d1 < a.tmps.size := by rw [ha, put_size, put_size] at hs1; exact hs1
      simp [Act.put, this]
    have ht2 : aR.tmps[d2]? = some u2 := by
      have : d2 < a.tmps.size := by rw [ha, put_size, put_size] at hs2; exact hs2
      rw [ha]
      simp [Act.put, this]
    rw [show m + 1 + fT = (m + fT) + 1 by omega]
    refine ⟨fun h0 => ?_, fun j hj => ?_⟩
    · exfalso
      cases b1 with
      | false => have := ready_free (md := md) ho1 k1.1 h1; rw [h0] at this; simp at this
      | true =>
        cases b2 with
        | false => have := ready_free (md := md) ho2 k2.1 h2; rw [h0] at this; simp at this
        | true =>
          simp only [cond] at hm
          have hLL : LR = LS := by
            apply Array.ext_getElem?
            intro j
            by_cases e1 : j = i1
            · subst e1; rw [h1, h3]
            · by_cases e2 : j = i2
              · subst e2; rw [h2, h4]
              · exact hL j e1 e2
          obtain ⟨n', rfl⟩ : ∃ n', n = n' + 1 := ⟨n - 1, by omega⟩
          rw [hLL] at h0
          exact hE.1 h0
    · obtain ⟨hun, o, ho, hall⟩ := mem_ready.1 hj
      by_cases e1 : j = i1
      · subst e1
        have hb : b1 = false := by
          rw [Array.getD_eq_getD_getElem?, h1] at hun
          simpa using hun
        subst hb
        refine hal1 _ _ _ ⟨fun _ => hSa _ _ hS, ?_⟩
        have hlt : j < LR.size := (Array.getElem?_eq_some_iff.1 h1).1
        refine ih n true b2 LS (LR.setIfInBounds j true) a _ w _ (.pointer (some ⟨wR.heap.size, 0, none⟩)) u2 (by simp only [cond] at hm ⊢; omega) (by simpa using hsz) (by simp [hlt]) (by rw [Array.getElem?_setIfInBounds_ne hi]; exact h2) h3 h4 (fun k hk1 hk2 => by rw [Array.getElem?_setIfInBounds_ne (Ne.symm hk1)]; exact hL k hk1 hk2)
          (by rw [ha, put_two _ hd]) (by rw [put_size]; exact hs1) (by rw [put_size]; exact hs2) (fun _ => ⟨_, rfl, Blk.new wR t1 z1, hbase⟩) (fun h => ?_) (fun _ h => ?_) (hx.alloc _) (hSa _ _ hS) (by simp; omega) hE
        · obtain ⟨g2, e, B2, hg2⟩ := hb2 h
          exact ⟨g2, e, B2.alloc _, hg2⟩
        · obtain ⟨g2, e, B2, hg2⟩ := hb2 h
          subst e
          intro he
          injection he with he
          injection he with he
          injection he with he
          have := B2.lt
          omega
      · by_cases e2 : j = i2
        · subst e2
          have hb : b2 = false := by
            rw [Array.getD_eq_getD_getElem?, h2] at hun
            simpa using hun
          subst hb
          refine hal2 _ _ _ ⟨fun _ => hSa _ _ hS, ?_⟩
          have hlt : j < LR.size := (Array.getElem?_eq_some_iff.1 h2).1
          refine ih n b1 true LS (LR.setIfInBounds j true) a _ w _ u1 (.pointer (some ⟨wR.heap.size, 0, none⟩)) (by simp only [cond] at hm ⊢; omega) (by simpa using hsz) (by rw [Array.getElem?_setIfInBounds_ne (Ne.symm hi)]; exact h1) (by simp [hlt]) h3 h4 (fun k hk1 hk2 => by rw [Array.getElem?_setIfInBounds_ne (Ne.symm hk2)]; exact hL k hk1 hk2)
            (by rw [ha, put_put]) (by rw [put_size]; exact hs1) (by rw [put_size]; exact hs2) (fun h => ?_) (fun _ => ⟨_, rfl, Blk.new wR t2 z2, hbase⟩) (fun h _ => ?_) (hx.alloc _) (hSa _ _ hS) (by simp; omega) hE
          · obtain ⟨g1, e, B1, hg1⟩ := hb1 h
            exact ⟨g1, e, B1.alloc _, hg1⟩
          · obtain ⟨g1, e, B1, hg1⟩ := hb1 h
            subst e
            intro he
            injection he with he
            injection he with he
            injection he with he
            have := B1.lt
            omega
        · have kj := float_at hck ho
          rw [if_neg (by rw [beq_iff_eq]; exact e1), if_neg (by rw [beq_iff_eq]; exact e2), Bool.and_eq_true, Bool.and_eq_true] at kj
          obtain ⟨⟨kj1, kj2⟩, kj3⟩ := kj
          have hls : ∀ k, LR.getD k false = true → LS.getD k false = true := fun k hk => by
            by_cases f1 : k = i1
            · subst f1; simp [Array.getD_eq_getD_getElem?, h3]
            · by_cases f2 : k = i2
              · subst f2; simp [Array.getD_eq_getD_getElem?, h4]
              · rw [Array.getD_eq_getD_getElem?, ← hL k f1 f2, ← Array.getD_eq_getD_getElem?]; exact hk
          have hjS : j ∈ Region.ready md ops LS := mem_ready.2 ⟨by rw [Array.getD_eq_getD_getElem?, ← hL j e1 e2, ← Array.getD_eq_getD_getElem?]; exact hun, o, ho, fun e he hb => hls _ (hall e he hb)⟩
          cases n with
          | zero =>
            exfalso
            have hT := List.all_eq_true.1 hE.1 j hjS
            rw [hT] at kj3
            simp only [Bool.not_true, Bool.false_or, Bool.and_eq_true] at kj3
            obtain ⟨q1, q2⟩ := kj3
            obtain ⟨x1, hx1, hy1⟩ := Array.any_eq_true'.1 q1
            obtain ⟨x2, hx2, hy2⟩ := Array.any_eq_true'.1 q2
            rw [Bool.and_eq_true, beq_iff_eq] at hy1 hy2
            have r1 := hall x1 hx1 hy1.1
            have r2 := hall x2 hx2 hy2.1
            rw [hy1.2, Array.getD_eq_getD_getElem?, h1] at r1
            rw [hy2.2, Array.getD_eq_getD_getElem?, h2] at r2
            simp at r1 r2
            subst r1 r2
            simp [cond] at hm
          | succ n =>
            have hw := hE.2 j hjS u1 u2 wR hx hS
            rw [← ha] at hw
            have hw1 := wpOp_frame ho (d := d1) (by simpa using kj1) hw
            have hw2 := wpOp_frame ho (d := d2) (by simpa using kj2) hw1
            refine wpOp_mono (fun a' w' h => ?_) hw2
            obtain ⟨⟨f2, fs⟩, ⟨f1, _⟩, ⟨hx', hS'⟩, hE'⟩ := h
            refine ⟨fun _ => hS', ih n b1 b2 (LS.setIfInBounds j true) (LR.setIfInBounds j true) a' a' w' w' u1 u2 (by omega) (by simpa using hsz) (by rw [Array.getElem?_setIfInBounds_ne e1]; exact h1) (by rw [Array.getElem?_setIfInBounds_ne e2]; exact h2) (by rw [Array.getElem?_setIfInBounds_ne e1]; exact h3) (by rw [Array.getElem?_setIfInBounds_ne e2]; exact h4) (fun k hk1 hk2 => ?_) ?_ (by rw [fs]; exact hs1) (by rw [fs]; exact hs2) (fun h => ?_) (fun h => ?_) hne (Ext.refl _) hS' (Nat.le_trans hbase hx'.size) hE'⟩
            · rw [Array.getElem?_setIfInBounds, Array.getElem?_setIfInBounds, hsz, hL k hk1 hk2]
            · rw [put_self (f1.trans ht1), put_self (f2.trans ht2)]
            · obtain ⟨g1, e, B1, hg1⟩ := hb1 h
              exact ⟨g1, e, B1.ext hx', hg1⟩
            · obtain ⟨g2, e, B2, hg2⟩ := hb2 h
              exact ⟨g2, e, B2.ext hx', hg2⟩
theorem AnyE.go (n : Nat) {L : Array Bool} {a : Act} {w : World} (fT i1 d1 i2 d2 : Nat) (t1 t2 : TypeId) (z1 z2 : List Value) (hck : floatOk md ops T i1 d1 i2 d2 = true) (hid : (i1 != i2 && d1 != d2 && L[i1]? == some false && L[i2]? == some false && decide (i1 < ops.size) && decide (i2 < ops.size)) = true) (hs : d1 < a.tmps.size ∧ d2 < a.tmps.size)
    (hal1 : ∀ a w (K : Act → World → Prop), K (a.put (some d1) (.pointer (some ⟨w.heap.size, 0, none⟩))) (w.alloc (.cells z1.toArray t1)) → wpOp P ops Q i1 K a w)
    (hal2 : ∀ a w (K : Act → World → Prop), K (a.put (some d2) (.pointer (some ⟨w.heap.size, 0, none⟩))) (w.alloc (.cells z2.toArray t2)) → wpOp P ops Q i2 K a w)
    (hSa : ∀ w o, S w → S (w.alloc o)) (hS : S w) (h : AnyE P md ops Q S T fT d1 d2 t1 t2 z1 z2 w.heap.size n ((L.setIfInBounds i1 true).setIfInBounds i2 true) a w) : AnyT P md ops Q S T (n + 2 + fT) L a w := by
  simp only [Bool.and_eq_true, bne_iff_ne, beq_iff_eq, decide_eq_true_eq] at hid
  obtain ⟨⟨⟨⟨⟨hi, hd⟩, h1⟩, h2⟩, p1⟩, p2⟩ := hid
  have l1 := (Array.getElem?_eq_some_iff.1 h1).1
  have l2 := (Array.getElem?_eq_some_iff.1 h2).1
  exact AnyE.run hck hi hd (Array.getElem?_eq_getElem p1) (Array.getElem?_eq_getElem p2) hal1 hal2 hSa (n + 2) n false false _ L a a w w a.tmps[d1] a.tmps[d2] (by simp [cond]) (by simp) h1 h2 (by rw [Array.getElem?_setIfInBounds_ne (Ne.symm hi)]; simp [l1]) (by simp [l2]) (fun j e1 e2 => by rw [Array.getElem?_setIfInBounds_ne (Ne.symm e2), Array.getElem?_setIfInBounds_ne (Ne.symm e1)])
    (by rw [put_self (Array.getElem?_eq_getElem hs.1), put_self (Array.getElem?_eq_getElem hs.2)]) hs.1 hs.2 (fun h => by cases h) (fun h => by cases h) (fun h => by cases h) (Ext.refl w) hS (Nat.le_refl _) h
theorem AnyE.step (j : Nat) {n : Nat} {L : Array Bool} {a : Act} {w : World} (hr : Region.ready md ops L = [j])
    (h : ∀ u1 u2 w', Ext w w' → S w' → ∀ o, ops[j]? = some o → ∀ K : Act → World → Prop, Hid (∀ a' w'', Ext w' w'' → S w'' → AnyE P md ops Q S T fT d1 d2 t1 t2 z1 z2 base n (L.setIfInBounds j true) a' w'' → K a' w'') → if Region.wanted o (yielded ops ((a.put (some d1) u1).put (some d2) u2).tmps) = true then o.wp P ((a.put (some d1) u1).put (some d2) u2) w' K Q else K (((a.put (some d1) u1).put (some d2) u2).put o.dst undef) w') :
    AnyE P md ops Q S T fT d1 d2 t1 t2 z1 z2 base (n + 1) L a w := by
  refine ⟨by rw [hr]; simp, fun k hk u1 u2 w' hx hS => ?_⟩
  rw [hr] at hk
  obtain rfl : k = j := by simpa using hk
  obtain ⟨o, hi⟩ : ∃ o, ops[k]? = some o := by
    have h1 : k ∈ Region.ready md ops L := by rw [hr]; simp
    obtain ⟨_, o, ho, _⟩ := mem_ready.1 h1
    exact ⟨o, ho⟩
  have h1 := h u1 u2 w' hx hS o hi (fun a' w'' => (Ext w' w'' ∧ S w'') ∧ AnyE P md ops Q S T fT d1 d2 t1 t2 z1 z2 base n (L.setIfInBounds k true) a' w'') (fun _ _ h1 h2 h3 => ⟨⟨h1, h2⟩, h3⟩)
  unfold wpOp
  simp only [hi]
  split
  · rename_i hw
    rw [if_pos hw] at h1
    exact .inl h1
  · rename_i hw
    rw [if_neg hw] at h1
    exact h1
end
end
end Go.Proofs.YtkhmfgkbobblmaaGreatDoor
