/- joinlearnmake: Shuffle. -/
import Derived.Test.YthalpbjkkfkheaaGreatDoorMk
namespace Go.Proofs.YthalpbjkkfkheaaGreatDoor
open Go.RowKit Go.Lib

section
variable {P : Program} {ops : Array Oper} {Q : Exit → Act → World → Prop} {md : Region.Mode} {S : World → Prop} {T : Nat → Bool}
/-- an operation that only moves a value -/
def still (ops : Array Oper) (j : Nat) : Bool := match ops[j]? with
  | some o => match o.op with
    | .move _ => true
    | _ => false
  | none => false
theorem still_spec {j : Nat} (h : still ops j = true) {K : Act → World → Prop} {a : Act} {w : World} (hw : wpOp P ops Q j K a w) : wpOp P ops Q j (fun a' w' => w' = w ∧ K a' w') a w := by
  unfold still at h
  unfold wpOp at hw ⊢
  cases ho : ops[j]? with
  | none => rw [ho] at h; cases h
  | some o =>
    rw [ho] at h hw
    simp only at h hw ⊢
    by_cases hc : Region.wanted o (yielded ops a.tmps) = true
    · rw [if_pos hc] at hw ⊢
      cases hop : o.op with
      | move x =>
        rcases hw with hw | hw
        · refine .inl ?_
          unfold Oper.wp execOp at hw ⊢
          rw [hop] at hw ⊢
          first | exact ⟨rfl, hw⟩ | exact ⟨trivial, hw⟩
        · exact .inr hw
      | _ => rw [hop] at h; cases h
    · rw [if_neg hc] at hw ⊢
      first | exact ⟨rfl, hw⟩ | exact ⟨trivial, hw⟩
/-- each of the last ones waits for number i, but for those that only move a value -/
def waitsS (md : Region.Mode) (ops : Array Oper) (T : Nat → Bool) (i : Nat) : Bool := (List.range ops.size).all fun j => !T j || j == i || leads md ops 4 j i || still ops j
theorem waitsS_spec {i j : Nat} {listed : Array Bool} (h : waitsS md ops T i = true) (hc : closed md ops listed = true) (hne : j ≠ i) (hr : j ∈ Region.ready md ops listed) (hu : listed.getD i true = false) : T j = false ∨ still ops j = true := by
  cases hT : T j with
  | false => exact .inl rfl
  | true =>
    cases hs : still ops j with
    | true => exact .inr rfl
    | false =>
      exfalso
      obtain ⟨_, o, ho, hall⟩ := mem_ready.1 hr
      unfold waitsS at h
      rw [List.all_eq_true] at h
      have h1 := h j (List.mem_range.2 (Array.getElem?_eq_some_iff.1 ho).1)
      simp only [hT, hs, Bool.not_true, Bool.false_or, Bool.or_false, Bool.or_eq_true, beq_iff_eq, hne, false_or] at h1
      have h2 := leads_spec hc 4 j h1 (fun o' ho' e he hb => by rw [ho] at ho'; injection ho' with ho'; subst ho'; exact hall e he hb)
      rcases Nat.lt_or_ge i listed.size with hl | hl
      · simp [hl] at hu h2
        rw [hu] at h2
        cases h2
      · simp [Array.getElem?_eq_none hl] at h2
/-- G: what is known of the world while number i has not come up -/
theorem AnyT.firstG {G : World → Prop} {i : Nat} {oi : Oper} {v : Value} (hi : ops[i]? = some oi) (hsel : ∀ (j : Nat) (o : Oper) cs b, ops[j]? = some o → o.op ≠ .select cs b)
    (hGS : ∀ w, G w → T i = false → S w) (hstep : ∀ (j : Nat) (listed : Array Bool), j ≠ i → closed md ops listed = true → j ∈ Region.ready md ops listed → listed.getD i true = false → (∀ w, S w → G w) ∧ T j = false ∨ still ops j = true ∨ ∀ w, G w)
    (hQ : ∀ c a w, Q (.panic c) (a.put oi.dst v) w → Q (.panic c) a w) : ∀ (fuel : Nat) (listed : Array Bool) (a : Act) (w : World),
      closed md ops listed = true → (∀ j oj, ops[j]? = some oj → j ≠ i → listed.getD j true = false → (∀ e ∈ oj.after, Region.binds md e = true → e.on ≠ i) → oi.apart ops oj = true) →
      i ∈ Region.ready md ops listed → YieldsIf P ops G oi v a → G w →
      AnyT P md ops Q S T fuel (listed.setIfInBounds i true) (a.put oi.dst v) w → AnyT P md ops Q S T (fuel + 1) listed a w
  | fuel, listed, a, w, hcl, hfree, hr, hy, hG, H => by
    refine ⟨fun h0 => absurd hr (by rw [h0]; simp), fun j hj => ?_⟩
    by_cases hji : j = i
    · subst hji
      exact hy.wpOp hi hG ⟨hGS w hG, H⟩
    · obtain ⟨hjun, oj, hoj, hall⟩ := mem_ready.1 hj
      have hiu := (mem_ready.1 hr).1
      have hst := hstep j listed hji hcl hj hiu
      match fuel, H with
      | 0, H =>
        have h1 := ready_mono hj hji
        rw [H.1] at h1
        cases h1
      | fuel + 1, H =>
        have hnot : ∀ e ∈ oj.after, Region.binds md e = true → e.on ≠ i := fun e he hb heq => by
          have h1 := hall e he hb
          rw [heq] at h1
          rcases Nat.lt_or_ge i listed.size with hl | hl
          · simp [hl] at hiu h1
            rw [hiu] at h1
            cases h1
          · simp [Array.getElem?_eq_none hl] at h1
        have hgo : ∀ a' w', G w' → (YieldsIf P ops G oi v a' ∧ (T j = false → S w') ∧ AnyT P md ops Q S T fuel ((listed.setIfInBounds i true).setIfInBounds j true) (a'.put oi.dst v) w') → (T j = false → S w') ∧ AnyT P md ops Q S T (fuel + 1) (listed.setIfInBounds j true) a' w' := fun a' w' hG' h3 => by
          refine ⟨h3.2.1, ?_⟩
          refine AnyT.firstG hi hsel hGS hstep hQ fuel (listed.setIfInBounds j true) a' w' (closed_set hcl hj) ?_ (ready_mono hr (Ne.symm hji)) h3.1 hG' ?_
          · intro k ok hk hki hun hno
            refine hfree k ok hk hki ?_ hno
            by_cases hjk : j = k
            · subst hjk; exact hjun
            · rwa [getD_set_ne true hjk] at hun
          · rw [Array.setIfInBounds_comm _ _ hji]
            exact h3.2.2
        have h2 := wpOp_putIf hoj (hfree j oj hoj hji hjun hnot) (fun cs b => hsel i oi cs b hi) (fun cs b => hsel j oj cs b hoj) hQ hy (H.2 j (ready_mono hj hji))
        rcases hst with ⟨hSG, hT⟩ | hs | hall'
        · exact wpOp_mono (fun a' w' h3 => hgo a' w' (hSG w' (h3.2.1 hT)) h3) h2
        · exact wpOp_mono (fun a' w' h3 => hgo a' w' (by rw [h3.1]; exact hG) h3.2) (still_spec hs h2)
        · exact wpOp_mono (fun a' w' h3 => hgo a' w' (hall' w') h3) h2
/-- number i is taken first; operations that only move a value need not come before the last ones -/
theorem AnyT.loadS (i d : Nat) (v : Value) {fuel : Nat} {listed : Array Bool} {a : Act} {w : World} (_hTi : T i = false)
    (hs : Region.noSelect ops = true) (hf : Region.free md ops listed i = true) (hr : (Region.ready md ops listed).contains i = true) (hw : waitsS md ops T i = true) (hc : closed md ops listed = true)
    (hQ : ∀ c a w, Q (.panic c) (a.put (some d) v) w → Q (.panic c) a w) (hS : S w)
    (hy : ∀ o, ops[i]? = some o → o.dst = some d ∧ Region.wanted o (yielded ops a.tmps) = true ∧ ∀ w, S w → (execOp a.eval o).run P w = .ok (.value v) w)
    (h : AnyT P md ops Q S T fuel (listed.setIfInBounds i true) (a.put (some d) v) w) : AnyT P md ops Q S T (fuel + 1) listed a w := by
  have hr' : i ∈ Region.ready md ops listed := by simpa using hr
  obtain ⟨_, o, ho, _⟩ := mem_ready.1 hr'
  obtain ⟨h1, h2, h3⟩ := hy o ho
  exact AnyT.firstG (G := S) ho (Region.noSelect_spec hs) (fun w hw _ => hw) (fun j l hji hcl hj hu => by
    rcases waitsS_spec hw hcl hji hj hu with h | h
    · exact .inl ⟨fun _ h => h, h⟩
    · exact .inr (.inl h)) (by rw [h1]; exact hQ) fuel listed a w hc (Region.free_spec ho hf) hr' (.inl ⟨h2, h3⟩) hS (by rw [h1]; exact h)
/-- a move is taken first, wherever it stands -/
theorem AnyT.loadM (i d : Nat) (v : Value) {fuel : Nat} {listed : Array Bool} {a : Act} {w : World} (hTi : T i = true)
    (hs : Region.noSelect ops = true) (hf : Region.free md ops listed i = true) (hr : (Region.ready md ops listed).contains i = true) (hc : closed md ops listed = true)
    (hQ : ∀ c a w, Q (.panic c) (a.put (some d) v) w → Q (.panic c) a w)
    (hy : ∀ o, ops[i]? = some o → o.dst = some d ∧ Region.wanted o (yielded ops a.tmps) = true ∧ ∀ w, (execOp a.eval o).run P w = .ok (.value v) w)
    (h : AnyT P md ops Q S T fuel (listed.setIfInBounds i true) (a.put (some d) v) w) : AnyT P md ops Q S T (fuel + 1) listed a w := by
  have hr' : i ∈ Region.ready md ops listed := by simpa using hr
  obtain ⟨_, o, ho, _⟩ := mem_ready.1 hr'
  obtain ⟨h1, h2, h3⟩ := hy o ho
  exact AnyT.firstG (G := fun _ => True) ho (Region.noSelect_spec hs) (fun w _ hT => by rw [hTi] at hT; cases hT) (fun j l _ _ _ _ => .inr (.inr fun _ => trivial)) (by rw [h1]; exact hQ) fuel listed a w hc (Region.free_spec ho hf) hr' (.inl ⟨h2, fun w _ => h3 w⟩) trivial (by rw [h1]; exact h)
end
theorem ch_ints {w : World} : ∀ {xs : List Value} {l : List Int}, Ch (IntR w) xs l → xs = zcells l
  | _, [], h => h
  | _, _ :: _, ⟨c, r, e, h1, h2⟩ => by rw [e, show c = _ from h1, ch_ints h2]; rfl
theorem ints_ch (w : World) : ∀ l : List Int, Ch (IntR w) (zcells l) l
  | [] => rfl
  | x :: l => ⟨[.int .i64 x], zcells l, rfl, rfl, ints_ch w l⟩
theorem zcells_set (l : List Int) (i : Nat) (z : Int) : zcells (l.set i z) = (zcells l).set i (.int .i64 z) := by
  unfold zcells
  rw [List.map_set]
theorem own_some {w : World} {base k n c : Nat} {t : TypeId} {A : Option Addr} {xs : List Value} (h : w.ownsRow base t k (.slice A n c) n xs) (hn : 0 < n) : ∃ g, A = some ⟨g, 0, none⟩ ∧ base ≤ g ∧ g < w.heap.size := by
  rcases h.2 with ⟨hv, _⟩ | ⟨g, cap, cur, hv, hb, hg, _⟩
  · injection hv with _ hv _
    omega
  · injection hv with hv _ _
    exact ⟨g, hv, hb, lt_of_some hg⟩
theorem own_swap {w : World} {base gA n c : Nat} {l : List Int} (h : w.ownsRow base tInt 1 (.slice (some ⟨gA, 0, none⟩) n c) n (zcells l)) (hl : l.length = n) {i k : Nat} (hi : i < l.length) (hk : k < l.length) :
    ∃ W', (w.setCell ⟨gA, i, none⟩ (.int .i64 l[k])).setCell ⟨gA, k, none⟩ (.int .i64 l[i]) = W' ∧ (∃ u, Hid ((w.setCell ⟨gA, i, none⟩ (.int .i64 l[k])).cell? ⟨gA, k, none⟩ = some u)) ∧ Hid ((w.setCell ⟨gA, i, none⟩ (.int .i64 l[k])).frozen? ⟨gA, k, none⟩ = false) ∧ Hid (W'.ownsRow base tInt 1 (.slice (some ⟨gA, 0, none⟩) n c) n (zcells ((l.set i l[k]).set k l[i]))) ∧ Hid (w.grownBy W' (some gA)) ∧ Hid (((l.set i l[k]).set k l[i]).length = n) ∧ Hid (((l.set i l[k]).set k l[i]).Perm l) := by
  obtain ⟨h1, h2⟩ := h.stored i (.int .i64 l[k])
  obtain ⟨h3, h4⟩ := h1.stored k (.int .i64 l[i])
  have hkx : k < ((zcells l).set i (.int .i64 l[k])).length := by rw [List.length_set]; unfold zcells; rw [List.length_map]; exact hk
  refine ⟨_, rfl, ⟨((zcells l).set i (.int .i64 l[k]))[k], ?_⟩, h1.frozenAt k, ?_, ?_, by simp [Hid, hl], List.set_set_perm hi hk⟩
  · rw [Hid, h1.cellAt k (by omega), List.getElem?_eq_getElem hkx]
  · rw [Hid, zcells_set, zcells_set]
    exact h3
  · exact ⟨h4.os.trans h2.os, h4.tape.trans h2.tape, h4.output.trans h2.output, Nat.le_trans h2.size h4.size, fun j hj hne => (h4.block j (Nat.lt_of_lt_of_le hj h2.size) hne).trans (h2.block j hj hne)⟩
def upto (n : Nat) : List Int := (List.range n).map Int.ofNat
theorem upto_succ (n : Nat) : upto (n + 1) = upto n ++ [(n : Int)] := by simp [upto, List.range_succ]
theorem upto_length (n : Nat) : (upto n).length = n := by simp [upto]
end Go.Proofs.YthalpbjkkfkheaaGreatDoor
