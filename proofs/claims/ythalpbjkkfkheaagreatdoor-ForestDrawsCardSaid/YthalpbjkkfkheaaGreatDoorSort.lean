/- The library's insertion sort of numbers, as forest.Pick calls it: a permutation, the same at each call. -/
import Derived.Test.YthalpbjkkfkheaaGreatDoorPick
import Derived.Test.YthalpbjkkfkheaaGreatDoorShuf
namespace Go.Proofs.YthalpbjkkfkheaaGreatDoor
open Go.RowKit Go.Lib

section
variable {P : Program} {ops : Array Oper} {Q : Exit → Act → World → Prop} {md : Region.Mode} {S : World → Prop} {T : Nat → Bool}
/-- each of the last ones that is not listed yet waits for number i, but for those that only move a value -/
def waitsL (md : Region.Mode) (ops : Array Oper) (T : Nat → Bool) (listed : Array Bool) (i : Nat) : Bool := (List.range ops.size).all fun j => !T j || j == i || leads md ops 4 j i || still ops j || listed.getD j false
theorem waitsL_spec {i j : Nat} {l0 listed : Array Bool} (h : waitsL md ops T l0 i = true) (hm : ∀ k, l0.getD k false = true → listed.getD k false = true) (hc : closed md ops listed = true) (hne : j ≠ i) (hr : j ∈ Region.ready md ops listed) (hu : listed.getD i true = false) : T j = false ∨ still ops j = true := by
  cases hT : T j with
  | false => exact .inl rfl
  | true =>
    cases hs : still ops j with
    | true => exact .inr rfl
    | false =>
      exfalso
      obtain ⟨hun, o, ho, hall⟩ := mem_ready.1 hr
      have hlj : l0.getD j false = false := by
        cases hl : l0.getD j false with
        | false => rfl
        | true =>
          have h2 := hm j hl
          rcases Nat.lt_or_ge j listed.size with hl | hl
          · simp [hl] at hun h2
            rw [hun] at h2
            cases h2
          · simp [Array.getElem?_eq_none hl] at h2
      unfold waitsL at h
      rw [List.all_eq_true] at h
      have h1 := h j (List.mem_range.2 (Array.getElem?_eq_some_iff.1 ho).1)
      simp only [hT, hs, hlj, Bool.not_true, Bool.false_or, Bool.or_false, Bool.or_eq_true, beq_iff_eq, hne, false_or] at h1
      have h2 := leads_spec hc 4 j h1 (fun o' ho' e he hb => by rw [ho] at ho'; injection ho' with ho'; subst ho'; exact hall e he hb)
      rcases Nat.lt_or_ge i listed.size with hl | hl
      · simp [hl] at hu h2
        rw [hu] at h2
        cases h2
      · simp [Array.getElem?_eq_none hl] at h2
theorem AnyT.firstL {l0 : Array Bool} {i : Nat} {oi : Oper} {v : Value} (hi : ops[i]? = some oi) (hTi : T i = false) (hsel : ∀ (j : Nat) (o : Oper) cs b, ops[j]? = some o → o.op ≠ .select cs b)
    (hstep : ∀ (j : Nat) (listed : Array Bool), (∀ k, l0.getD k false = true → listed.getD k false = true) → j ≠ i → closed md ops listed = true → j ∈ Region.ready md ops listed → listed.getD i true = false → T j = false ∨ still ops j = true)
    (hQ : ∀ c a w, Q (.panic c) (a.put oi.dst v) w → Q (.panic c) a w) : ∀ (fuel : Nat) (listed : Array Bool) (a : Act) (w : World), (∀ k, l0.getD k false = true → listed.getD k false = true) →
      closed md ops listed = true → (∀ j oj, ops[j]? = some oj → j ≠ i → listed.getD j true = false → (∀ e ∈ oj.after, Region.binds md e = true → e.on ≠ i) → oi.apart ops oj = true) →
      i ∈ Region.ready md ops listed → YieldsIf P ops S oi v a → S w →
      AnyT P md ops Q S T fuel (listed.setIfInBounds i true) (a.put oi.dst v) w → AnyT P md ops Q S T (fuel + 1) listed a w
  | fuel, listed, a, w, hl0, hcl, hfree, hr, hy, hG, H => by
    refine ⟨fun h0 => absurd hr (by rw [h0]; simp), fun j hj => ?_⟩
    by_cases hji : j = i
    · subst hji
      exact hy.wpOp hi hG ⟨fun _ => hG, H⟩
    · obtain ⟨hjun, oj, hoj, hall⟩ := mem_ready.1 hj
      have hiu := (mem_ready.1 hr).1
      have hst := hstep j listed hl0 hji hcl hj hiu
      match fuel, H with
      | 0, H =>
        have h1 := ready_mono hj hji
        rw [H.1] at h1
        cases h1
      | fuel + 1, H =>
        have hnot : ∀ e ∈ oj.after, Region.binds md e = true → e.on ≠ i := fun e he hb heq => by
          have h1 := hall e he hb
          rw [heq] at h1
          rcases Nat.lt_or_ge i listed.size with hl | hl
          · simp [hl] at hiu h1
            rw [hiu] at h1
            cases h1
          · simp [Array.getElem?_eq_none hl] at h1
        have hgo : ∀ a' w', S w' → (YieldsIf P ops S oi v a' ∧ (T j = false → S w') ∧ AnyT P md ops Q S T fuel ((listed.setIfInBounds i true).setIfInBounds j true) (a'.put oi.dst v) w') → (T j = false → S w') ∧ AnyT P md ops Q S T (fuel + 1) (listed.setIfInBounds j true) a' w' := fun a' w' hG' h3 => by
          refine ⟨h3.2.1, ?_⟩
          refine AnyT.firstL hi hTi hsel hstep hQ fuel (listed.setIfInBounds j true) a' w' ?_ (closed_set hcl hj) ?_ (ready_mono hr (Ne.symm hji)) h3.1 hG' ?_
          · intro k hk
            have h1 := hl0 k hk
            by_cases hjk : j = k
            · subst hjk
              have hlt : j < listed.size := by
                rcases Nat.lt_or_ge j listed.size with hl | hl
                · exact hl
                · simp [Array.getElem?_eq_none hl] at h1
              simp [hlt]
            · rwa [getD_set_ne false hjk]
          · intro k ok hk hki hun hno
            refine hfree k ok hk hki ?_ hno
            by_cases hjk : j = k
            · subst hjk; exact hjun
            · rwa [getD_set_ne true hjk] at hun
          · rw [Array.setIfInBounds_comm _ _ hji]
            exact h3.2.2
        have h2 := wpOp_putIf hoj (hfree j oj hoj hji hjun hnot) (fun cs b => hsel i oi cs b hi) (fun cs b => hsel j oj cs b hoj) hQ hy (H.2 j (ready_mono hj hji))
        rcases hst with hT | hs
        · exact wpOp_mono (fun a' w' h3 => hgo a' w' (h3.2.1 hT) h3) h2
        · exact wpOp_mono (fun a' w' h3 => hgo a' w' (by rw [h3.1]; exact hG) h3.2) (still_spec hs h2)
/-- number i is taken first; what is listed already need not wait for it -/
theorem AnyT.loadL (i d : Nat) (v : Value) {fuel : Nat} {listed : Array Bool} {a : Act} {w : World} (hTi : T i = false)
    (hs : Region.noSelect ops = true) (hf : Region.free md ops listed i = true) (hr : (Region.ready md ops listed).contains i = true) (hw : waitsL md ops T listed i = true) (hc : closed md ops listed = true)
    (hQ : ∀ c a w, Q (.panic c) (a.put (some d) v) w → Q (.panic c) a w) (hS : S w)
    (hy : ∀ o, ops[i]? = some o → o.dst = some d ∧ Region.wanted o (yielded ops a.tmps) = true ∧ ∀ w, S w → (execOp a.eval o).run P w = .ok (.value v) w)
    (h : AnyT P md ops Q S T fuel (listed.setIfInBounds i true) (a.put (some d) v) w) : AnyT P md ops Q S T (fuel + 1) listed a w := by
  have hr' : i ∈ Region.ready md ops listed := by simpa using hr
  obtain ⟨_, o, ho, _⟩ := mem_ready.1 hr'
  obtain ⟨h1, h2, h3⟩ := hy o ho
  exact AnyT.firstL (l0 := listed) ho hTi (Region.noSelect_spec hs) (fun j l hm hji hcl hj hu => waitsL_spec hw hm hcl hji hj hu) (by rw [h1]; exact hQ) fuel listed a w (fun _ h => h) hc (Region.free_spec ho hf) hr' (.inl ⟨h2, h3⟩) hS (by rw [h1]; exact h)
end
/-- one number sinks to its place -/
def insI (lt : Int → Int → Bool) : Nat → List Int → List Int
  | 0, l => l
  | j + 1, l => if lt (l.getD (j + 1) 0) (l.getD j 0) then insI lt j ((l.set (j + 1) (l.getD j 0)).set j (l.getD (j + 1) 0)) else l
def outI (lt : Int → Int → Bool) : Nat → Nat → List Int → List Int
  | 0, _, l => l
  | k + 1, i, l => outI lt k (i + 1) (insI lt i l)
/-- the order of n numbers -/
def ordI (lt : Int → Int → Bool) (l : List Int) : List Int := outI lt (l.length - 1) 1 l
theorem insI_go {lt : Int → Int → Bool} {j : Nat} {l : List Int} (hl : j + 1 < l.length) (h : lt l[j + 1] l[j] = true) : insI lt (j + 1) l = insI lt j ((l.set (j + 1) l[j]).set j l[j + 1]) := by
  simp [insI, List.getD, hl, Nat.lt_of_succ_lt hl, h]
theorem insI_stop {lt : Int → Int → Bool} {j : Nat} {l : List Int} (hl : j + 1 < l.length) (h : lt l[j + 1] l[j] = false) : insI lt (j + 1) l = l := by
  simp [insI, List.getD, hl, Nat.lt_of_succ_lt hl, h]
theorem swap2 {a w : World} {g i j : Nat} {l : List Int} (hB : Blk w g tInt (zcells l)) (he : Ext a w) (hg : a.heap.size ≤ g) (hi : i < l.length) (hj : j < l.length) :
    ∃ W', (w.setCell ⟨g, i, none⟩ (.int .i64 l[j])).setCell ⟨g, j, none⟩ (.int .i64 l[i]) = W' ∧ (∃ u, Hid ((w.setCell ⟨g, i, none⟩ (.int .i64 l[j])).cell? ⟨g, j, none⟩ = some u)) ∧ Hid ((w.setCell ⟨g, i, none⟩ (.int .i64 l[j])).frozen? ⟨g, j, none⟩ = false) ∧ Hid (Blk W' g tInt (zcells ((l.set i l[j]).set j l[i]))) ∧ Hid (Ext a W') ∧ Hid (((l.set i l[j]).set j l[i]).length = l.length) ∧ Hid (((l.set i l[j]).set j l[i]).Perm l) := by
  have h1 := hB.set_ i (.int .i64 l[j])
  have hkx : j < ((zcells l).set i (.int .i64 l[j])).length := by rw [List.length_set]; unfold zcells; rw [List.length_map]; exact hj
  refine ⟨_, rfl, ⟨((zcells l).set i (.int .i64 l[j]))[j], h1.cell (List.getElem?_eq_getElem hkx)⟩, h1.frozen j, ?_, (he.setCell hg _).setCell hg _, by simp [Hid], List.set_set_perm hi hj⟩
  rw [Hid, zcells_set, zcells_set]
  exact h1.set_ j _
end Go.Proofs.YthalpbjkkfkheaaGreatDoor
