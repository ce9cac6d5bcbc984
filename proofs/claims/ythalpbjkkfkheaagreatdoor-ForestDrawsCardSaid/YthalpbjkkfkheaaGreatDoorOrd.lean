/- A region that draws its order, whose last stores hit cells that it loads: the loads are taken first under a condition on the world that is asked for behind every operation but those last ones. Built on the kit's Derived.OrdersHeld. -/
import Derived.Test.YthalpbjkkfkheaaGreatDoorMake
import Derived.OrdersHeld
namespace Go.Proofs.YthalpbjkkfkheaaGreatDoor
open Go.RowKit Go.Lib
section
variable {P : Program} {ops : Array Oper} {Q : Exit → Act → World → Prop} {md : Region.Mode} {S : World → Prop} {T : Nat → Bool}

/-- whatever order is picked; S behind every operation that is none of the last ones, T -/
def AnyT (P : Program) (md : Region.Mode) (ops : Array Oper) (Q : Exit → Act → World → Prop) (S : World → Prop) (T : Nat → Bool) : Nat → Array Bool → Act → World → Prop
  | 0, listed, a, w => Region.ready md ops listed = [] ∧ Q .normal a w
  | fuel + 1, listed, a, w => (Region.ready md ops listed = [] → Q .normal a w) ∧
      ∀ i ∈ Region.ready md ops listed, wpOp P ops Q i (fun a' w' => (T i = false → S w') ∧ AnyT P md ops Q S T fuel (listed.setIfInBounds i true) a' w') a w
theorem AnyT.any : ∀ (fuel : Nat) (listed : Array Bool) (a : Act) (w : World), AnyT P md ops Q S T fuel listed a w → wpAny P md ops Q fuel listed a w
  | 0, _, _, _, h => h
  | fuel + 1, _, _, _, h => ⟨h.1, fun i hi => wpOp_mono (fun a' w' h' => AnyT.any fuel _ a' w' h'.2) (h.2 i hi)⟩
/-- number j waits for number i, in at most n steps -/
def leads (md : Region.Mode) (ops : Array Oper) : Nat → Nat → Nat → Bool
  | 0, _, _ => false
  | n + 1, j, i => match ops[j]? with
    | some o => o.after.any fun e => Region.binds md e && (e.on == i || leads md ops n e.on i)
    | none => false
/-- each of the last ones waits for number i -/
def waits (md : Region.Mode) (ops : Array Oper) (T : Nat → Bool) (i : Nat) : Bool := (List.range ops.size).all fun j => !T j || j == i || leads md ops 4 j i
/-- with an operation all that it waits for has come up -/
def closed (md : Region.Mode) (ops : Array Oper) (listed : Array Bool) : Bool := (List.range ops.size).all fun m => !listed.getD m false || match ops[m]? with
    | some o => o.after.all fun e => !Region.binds md e || listed.getD e.on false
    | none => true
theorem closed_spec {listed : Array Bool} (h : closed md ops listed = true) {m : Nat} {o : Oper} (ho : ops[m]? = some o) (hm : listed.getD m false = true) {e : Edge} (he : e ∈ o.after) (hb : Region.binds md e = true) : listed.getD e.on false = true := by
  unfold closed at h
  rw [List.all_eq_true] at h
  have h1 := h m (List.mem_range.2 (Array.getElem?_eq_some_iff.1 ho).1)
  rw [hm, ho] at h1
  simp only [Bool.not_true, Bool.false_or] at h1
  have h2 := Array.all_eq_true_iff_forall_mem.1 h1 e he
  rw [hb] at h2
  simpa using h2
theorem closed_set {listed : Array Bool} (h : closed md ops listed = true) {j : Nat} (hj : j ∈ Region.ready md ops listed) : closed md ops (listed.setIfInBounds j true) = true := by
  unfold closed
  rw [List.all_eq_true]
  intro m hm
  cases hl : (listed.setIfInBounds j true).getD m false with
  | false => simp
  | true =>
    simp only [Bool.not_true, Bool.false_or]
    cases ho : ops[m]? with
    | none => rfl
    | some o =>
      refine Array.all_eq_true_iff_forall_mem.2 fun e he => ?_
      cases hb : Region.binds md e with
      | false => rfl
      | true =>
        simp only [Bool.not_true, Bool.false_or]
        refine getD_set_true ?_
        by_cases hjm : j = m
        · subst hjm
          obtain ⟨_, o', ho', hall⟩ := mem_ready.1 hj
          rw [ho] at ho'
          injection ho' with ho'
          subst ho'
          exact hall e he hb
        · rw [getD_set_ne false hjm] at hl
          exact closed_spec h ho hl he hb
theorem leads_spec {listed : Array Bool} (h : closed md ops listed = true) {i : Nat} : ∀ (n j : Nat), leads md ops n j i = true → (∀ o, ops[j]? = some o → ∀ e ∈ o.after, Region.binds md e = true → listed.getD e.on false = true) → listed.getD i false = true
  | 0, _, hl, _ => by cases hl
  | n + 1, j, hl, hd => by
    unfold leads at hl
    cases ho : ops[j]? with
    | none => rw [ho] at hl; cases hl
    | some o =>
      rw [ho] at hl
      obtain ⟨e, he, hb⟩ := Array.any_eq_true'.1 hl
      rw [Bool.and_eq_true, Bool.or_eq_true] at hb
      have h1 := hd o ho e he hb.1
      rcases hb.2 with h2 | h2
      · rw [beq_iff_eq] at h2
        rw [← h2]
        exact h1
      · exact leads_spec h n e.on h2 (fun o' ho' e' he' hb' => closed_spec h ho' h1 he' hb')
theorem waits_spec {i j : Nat} {listed : Array Bool} (h : waits md ops T i = true) (hc : closed md ops listed = true) (hne : j ≠ i) (hr : j ∈ Region.ready md ops listed) (hu : listed.getD i true = false) : T j = false := by
  cases hT : T j with
  | false => rfl
  | true =>
    exfalso
    obtain ⟨_, o, ho, hall⟩ := mem_ready.1 hr
    unfold waits at h
    rw [List.all_eq_true] at h
    have h1 := h j (List.mem_range.2 (Array.getElem?_eq_some_iff.1 ho).1)
    simp only [hT, Bool.not_true, Bool.false_or, Bool.or_eq_true, beq_iff_eq, hne, false_or] at h1
    have h2 := leads_spec hc 4 j h1 (fun o' ho' e he hb => by rw [ho] at ho'; injection ho' with ho'; subst ho'; exact hall e he hb)
    rcases Nat.lt_or_ge i listed.size with hl | hl
    · simp [hl] at hu h2
      rw [hu] at h2
      cases h2
    · simp [Array.getElem?_eq_none hl] at h2
theorem AnyT.first {i : Nat} {oi : Oper} {v : Value} (hi : ops[i]? = some oi) (hTi : T i = false) (hsel : ∀ (j : Nat) (o : Oper) cs b, ops[j]? = some o → o.op ≠ .select cs b) (hw : waits md ops T i = true)
    (hQ : ∀ c a w, Q (.panic c) (a.put oi.dst v) w → Q (.panic c) a w) : ∀ (fuel : Nat) (listed : Array Bool) (a : Act) (w : World),
      closed md ops listed = true → (∀ j oj, ops[j]? = some oj → j ≠ i → listed.getD j true = false → (∀ e ∈ oj.after, Region.binds md e = true → e.on ≠ i) → oi.apart ops oj = true) →
      i ∈ Region.ready md ops listed → YieldsIf P ops S oi v a → S w →
      AnyT P md ops Q S T fuel (listed.setIfInBounds i true) (a.put oi.dst v) w → AnyT P md ops Q S T (fuel + 1) listed a w
  | fuel, listed, a, w, hcl, hfree, hr, hy, hS, H => by
    refine ⟨fun h0 => absurd hr (by rw [h0]; simp), fun j hj => ?_⟩
    by_cases hji : j = i
    · subst hji
      exact hy.wpOp hi hS ⟨fun _ => hS, H⟩
    · obtain ⟨hjun, oj, hoj, hall⟩ := mem_ready.1 hj
      have hiu := (mem_ready.1 hr).1
      have hTj := waits_spec hw hcl hji hj hiu
      match fuel, H with
      | 0, H =>
        have h1 := ready_mono hj hji
        rw [H.1] at h1
        cases h1
      | fuel + 1, H =>
        have hnot : ∀ e ∈ oj.after, Region.binds md e = true → e.on ≠ i := fun e he hb heq => by
          have h1 := hall e he hb
          rw [heq] at h1
          rcases Nat.lt_or_ge i listed.size with hl | hl
          · simp [hl] at hiu h1
            rw [hiu] at h1
            cases h1
          · simp [Array.getElem?_eq_none hl] at h1
        have h2 := wpOp_putIf hoj (hfree j oj hoj hji hjun hnot) (fun cs b => hsel i oi cs b hi) (fun cs b => hsel j oj cs b hoj) hQ hy (H.2 j (ready_mono hj hji))
        refine wpOp_mono (fun a' w' h3 => ⟨h3.2.1, ?_⟩) h2
        refine AnyT.first hi hTi hsel hw hQ fuel (listed.setIfInBounds j true) a' w' (closed_set hcl hj) ?_ (ready_mono hr (Ne.symm hji)) h3.1 (h3.2.1 hTj) ?_
        · intro k ok hk hki hun hno
          refine hfree k ok hk hki ?_ hno
          by_cases hjk : j = k
          · subst hjk; exact hjun
          · rwa [getD_set_ne true hjk] at hun
        · rw [Array.setIfInBounds_comm _ _ hji]
          exact h3.2.2
theorem AnyT.take {i : Nat} {oi : Oper} {v : Value} {fuel : Nat} {listed : Array Bool} {a : Act} {w : World} (hi : ops[i]? = some oi) (hTi : T i = false)
    (hs : Region.noSelect ops = true) (hf : Region.free md ops listed i = true) (hr : (Region.ready md ops listed).contains i = true) (hw : waits md ops T i = true) (hc : closed md ops listed = true)
    (hQ : ∀ c a w, Q (.panic c) (a.put oi.dst v) w → Q (.panic c) a w) (hy : YieldsIf P ops S oi v a) (hS : S w)
    (h : AnyT P md ops Q S T fuel (listed.setIfInBounds i true) (a.put oi.dst v) w) : AnyT P md ops Q S T (fuel + 1) listed a w :=
  AnyT.first hi hTi (Region.noSelect_spec hs) hw hQ fuel listed a w hc (Region.free_spec hi hf) (by simpa using hr) hy hS h
/-- number i, which writes slot d, is taken first: in every world that meets S it yields v -/
theorem AnyT.load (i d : Nat) (v : Value) {fuel : Nat} {listed : Array Bool} {a : Act} {w : World} (hTi : T i = false)
    (hs : Region.noSelect ops = true) (hf : Region.free md ops listed i = true) (hr : (Region.ready md ops listed).contains i = true) (hw : waits md ops T i = true) (hc : closed md ops listed = true)
    (hQ : ∀ c a w, Q (.panic c) (a.put (some d) v) w → Q (.panic c) a w) (hS : S w)
    (hy : ∀ o, ops[i]? = some o → o.dst = some d ∧ Region.wanted o (yielded ops a.tmps) = true ∧ ∀ w, S w → (execOp a.eval o).run P w = .ok (.value v) w)
    (h : AnyT P md ops Q S T fuel (listed.setIfInBounds i true) (a.put (some d) v) w) : AnyT P md ops Q S T (fuel + 1) listed a w := by
  obtain ⟨o, ho⟩ : ∃ o, ops[i]? = some o := by
    have h1 : i ∈ Region.ready md ops listed := by simpa using hr
    obtain ⟨_, o, ho, _⟩ := mem_ready.1 h1
    exact ⟨o, ho⟩
  obtain ⟨h1, h2, h3⟩ := hy o ho
  exact AnyT.take ho hTi hs hf hr hw hc (by rw [h1]; exact hQ) (.inl ⟨h2, h3⟩) hS (by rw [h1]; exact h)
theorem AnyT.one {i : Nat} {fuel : Nat} {listed : Array Bool} {a : Act} {w : World} (hr : Region.ready md ops listed = [i])
    (h : wpOp P ops Q i (fun a' w' => (T i = false → S w') ∧ AnyT P md ops Q S T fuel (listed.setIfInBounds i true) a' w') a w) : AnyT P md ops Q S T (fuel + 1) listed a w :=
  ⟨fun h0 => absurd h0 (by rw [hr]; simp), fun j hj => by rw [hr] at hj; simp only [List.mem_singleton] at hj; subst hj; exact h⟩
theorem AnyT.step (i : Nat) {fuel : Nat} {listed : Array Bool} {a : Act} {w : World} (hr : Region.ready md ops listed = [i])
    (h : ∀ o, ops[i]? = some o → ∀ K : Act → World → Prop, Hid (∀ a' w', (T i = false → S w') → AnyT P md ops Q S T fuel (listed.setIfInBounds i true) a' w' → K a' w') → if Region.wanted o (yielded ops a.tmps) = true then o.wp P a w K Q else K (a.put o.dst undef) w) : AnyT P md ops Q S T (fuel + 1) listed a w := by
  refine AnyT.one hr ?_
  obtain ⟨o, hi⟩ : ∃ o, ops[i]? = some o := by
    have h1 : i ∈ Region.ready md ops listed := by rw [hr]; simp
    obtain ⟨_, o, ho, _⟩ := mem_ready.1 h1
    exact ⟨o, ho⟩
  have h1 := h o hi (fun a' w' => (T i = false → S w') ∧ AnyT P md ops Q S T fuel (listed.setIfInBounds i true) a' w') (fun _ _ h1 h2 => ⟨h1, h2⟩)
  unfold wpOp
  simp only [hi]
  split
  · rename_i hw
    rw [if_pos hw] at h1
    exact .inl h1
  · rename_i hw
    rw [if_neg hw] at h1
    exact h1
theorem AnyT.done {fuel : Nat} {listed : Array Bool} {a : Act} {w : World} (hr : Region.ready md ops listed = []) (h : Q .normal a w) : AnyT P md ops Q S T fuel listed a w :=
  match fuel with
  | 0 => ⟨hr, h⟩
  | _ + 1 => ⟨fun _ => h, by rw [hr]; simp⟩
theorem AnyT.start {id : Nat} {a : Act} {w : World} (hm : P.follows .mixedOrders = true)
    (h : AnyT P .any ops Q S T ops.size (Array.replicate ops.size false) a w.drew) : (Code.region id ops true).wp P Q a w :=
  wp_region_any hm (AnyT.any _ _ _ _ h)
end
end Go.Proofs.YthalpbjkkfkheaaGreatDoor
