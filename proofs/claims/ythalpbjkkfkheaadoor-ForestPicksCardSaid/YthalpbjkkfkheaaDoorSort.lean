/- The library's insertion sort of numbers, as forest.Pick calls it: a permutation, the same at each call. -/
import Derived.Test.YthalpbjkkfkheaaDoorPick
import Derived.Test.YthalpbjkkfkheaaDoorShuf
namespace Go.Proofs.YthalpbjkkfkheaaDoor
open Go.RowKit Go.Lib

section
variable {P : Program} {ops : Array Oper} {Q : Exit → Act → World → Prop} {md : Region.Mode} {S : World → Prop} {T : Nat → Bool}
/-- each of the last ones that is not listed yet waits for number i, but for those that only move a value -/
def waitsL (md : Region.Mode) (ops : Array Oper) (T : Nat → Bool) (listed : Array Bool) (i : Nat) : Bool := (List.range ops.size).all fun j => !T j || j == i || leads md ops 4 j i || still ops j || listed.getD j false
theorem waitsL_spec {i j : Nat} {l0 listed : Array Bool} (h : waitsL md ops T l0 i = true) (hm : ∀ k, l0.getD k false = true → listed.getD k false = true) (hc : closed md ops listed = true) (hne : j ≠ i) (hr : j ∈ Region.ready md ops listed) (hu : listed.getD i true = false) : T j = false ∨ still ops j = true := by
  cases hT : T j with
  | false => exact .inl rfl
  | true =>
    cases hs : still ops j with
    | true => exact .inr rfl
    | false =>
      exfalso
      obtain ⟨hun, o, ho, hall⟩ := mem_ready.1 hr
      have hlj : l0.getD j false = false := by
        cases hl : l0.getD j false with
        | false => rfl
        | true =>
          have h2 := hm j hl
          rcases Nat.lt_or_ge j listed.size with hl | hl
          · simp [hl] at hun h2
            rw [hun] at h2
            cases h2
          · simp [Array.getElem?_eq_none hl] at h2
      unfold waitsL at h
      rw [List.all_eq_true] at h
      have h1 := h j (List.mem_range.2 (Array.getElem?_eq_some_iff.1 ho).1)
      simp only [hT, hs, hlj, Bool.not_true, Bool.false_or, Bool.or_false, Bool.or_eq_true, beq_iff_eq, hne, false_or] at h1
      have h2 := leads_spec hc 4 j h1 (fun o' ho' e he hb => by rw [ho] at ho'; injection ho' with ho'; subst ho'; exact hall e he hb)
      rcases Nat.lt_or_ge i listed.size with hl | hl
      · simp [hl] at hu h2
        rw [hu] at h2
        cases h2
      · simp [Array.getElem?_eq_none hl] at h2
theorem AnyT.firstL {l0 : Array Bool} {i : Nat} {oi : Oper} {v : Value} (hi : ops[i]? = some oi) (hTi : T i = false) (hsel : ∀ (j : Nat) (o : Oper) cs b, ops[j]? = some o → o.op ≠ .select cs b)
    (hstep : ∀ (j : Nat) (listed : Array Bool), (∀ k, l0.getD k false = true → listed.getD k false = true) → j ≠ i → closed md ops listed = true → j ∈ Region.ready md ops listed → listed.getD i true = false → T j = false ∨ still ops j = true)
    (hQ : ∀ c a w, Q (.panic c) (a.put oi.dst v) w → Q (.panic c) a w) : ∀ (fuel : Nat) (listed : Array Bool) (a : Act) (w : World), (∀ k, l0.getD k false = true → listed.getD k false = true) →
      closed md ops listed = true → (∀ j oj, ops[j]? = some oj → j ≠ i → listed.getD j true = false → (∀ e ∈ oj.after, Region.binds md e = true → e.on ≠ i) → oi.apart ops oj = true) →
      i ∈ Region.ready md ops listed → YieldsIf P ops S oi v a → S w →
      AnyT P md ops Q S T fuel (listed.setIfInBounds i true) (a.put oi.dst v) w → AnyT P md ops Q S T (fuel + 1) listed a w
  | fuel, listed, a, w, hl0, hcl, hfree, hr, hy, hG, H => by
    refine ⟨fun h0 => absurd hr (by rw [h0]; simp), fun j hj => ?_⟩
    by_cases hji : j = i
    · subst hji
      exact hy.wpOp hi hG ⟨fun _ => hG, H⟩
    · obtain ⟨hjun, oj, hoj, hall⟩ := mem_ready.1 hj
      have hiu := (mem_ready.1 hr).1
      have hst := hstep j listed hl0 hji hcl hj hiu
      match fuel, H with
      | 0, H =>
        have h1 := ready_mono hj hji
        rw [H.1] at h1
        cases h1
      | fuel + 1, H =>
        have hnot : ∀ e ∈ oj.after, Region.binds md e = true → e.on ≠ i := fun e he hb heq => by
          have h1 := hall e he hb
          rw [heq] at h1
          rcases Nat.lt_or_ge i listed.size with hl | hl
          · simp [hl] at hiu h1
            rw [hiu] at h1
            cases h1
          · simp [Array.getElem?_eq_none hl] at h1
        have hgo : ∀ a' w', S w' → (YieldsIf P ops S oi v a' ∧ (T j = false → S w') ∧ AnyT P md ops Q S T fuel ((listed.setIfInBounds i true).setIfInBounds j true) (a'.put oi.dst v) w') → (T j = false → S w') ∧ AnyT P md ops Q S T (fuel + 1) (listed.setIfInBounds j true) a' w' := fun a' w' hG' h3 => by
          refine ⟨h3.2.1, ?_⟩
          refine AnyT.firstL hi hTi hsel hstep hQ fuel (listed.setIfInBounds j true) a' w' ?_ (closed_set hcl hj) ?_ (ready_mono hr (Ne.symm hji)) h3.1 hG' ?_
          · intro k hk
            have h1 := hl0 k hk
            by_cases hjk : j = k
            · subst hjk
              have hlt : j < listed.size := by
                rcases Nat.lt_or_ge j listed.size with hl | hl
                · exact hl
                · simp [Array.getElem?_eq_none hl] at h1
              simp [hlt]
            · rwa [getD_set_ne false hjk]
          · intro k ok hk hki hun hno
            refine hfree k ok hk hki ?_ hno
            by_cases hjk : j = k
            · subst hjk; exact hjun
            · rwa [getD_set_ne true hjk] at hun
          · rw [Array.setIfInBounds_comm _ _ hji]
            exact h3.2.2
        have h2 := wpOp_putIf hoj (hfree j oj hoj hji hjun hnot) (fun cs b => hsel i oi cs b hi) (fun cs b => hsel j oj cs b hoj) hQ hy (H.2 j (ready_mono hj hji))
        rcases hst with hT | hs
        · exact wpOp_mono (fun a' w' h3 => hgo a' w' (h3.2.1 hT) h3) h2
        · exact wpOp_mono (fun a' w' h3 => hgo a' w' (by rw [h3.1]; exact hG) h3.2) (still_spec hs h2)
/-- number i is taken first; what is listed already need not wait for it -/
theorem AnyT.loadL (i d : Nat) (v : Value) {fuel : Nat} {listed : Array Bool} {a : Act} {w : World} (hTi : T i = false)
    (hs : Region.noSelect ops = true) (hf : Region.free md ops listed i = true) (hr : (Region.ready md ops listed).contains i = true) (hw : waitsL md ops T listed i = true) (hc : closed md ops listed = true)
    (hQ : ∀ c a w, Q (.panic c) (a.put (some d) v) w → Q (.panic c) a w) (hS : S w)
    (hy : ∀ o, ops[i]? = some o → o.dst = some d ∧ Region.wanted o (yielded ops a.tmps) = true ∧ ∀ w, S w → (execOp a.eval o).run P w = .ok (.value v) w)
    (h : AnyT P md ops Q S T fuel (listed.setIfInBounds i true) (a.put (some d) v) w) : AnyT P md ops Q S T (fuel + 1) listed a w := by
  have hr' : i ∈ Region.ready md ops listed := by simpa using hr
  obtain ⟨_, o, ho, _⟩ := mem_ready.1 hr'
  obtain ⟨h1, h2, h3⟩ := hy o ho
  exact AnyT.firstL (l0 := listed) ho hTi (Region.noSelect_spec hs) (fun j l hm hji hcl hj hu => waitsL_spec hw hm hcl hji hj hu) (by rw [h1]; exact hQ) fuel listed a w (fun _ h => h) hc (Region.free_spec ho hf) hr' (.inl ⟨h2, h3⟩) hS (by rw [h1]; exact h)
end
/-- one number sinks to its place -/
def insI (lt : Int → Int → Bool) : Nat → List Int → List Int
  | 0, l => l
  | j + 1, l => if lt (l.getD (j + 1) 0) (l.getD j 0) then insI lt j ((l.set (j + 1) (l.getD j 0)).set j (l.getD (j + 1) 0)) else l
def outI (lt : Int → Int → Bool) : Nat → Nat → List Int → List Int
  | 0, _, l => l
  | k + 1, i, l => outI lt k (i + 1) (insI lt i l)
/-- the order of n numbers -/
def ordI (lt : Int → Int → Bool) (l : List Int) : List Int := outI lt (l.length - 1) 1 l
theorem insI_go {lt : Int → Int → Bool} {j : Nat} {l : List Int} (hl : j + 1 < l.length) (h : lt l[j + 1] l[j] = true) : insI lt (j + 1) l = insI lt j ((l.set (j + 1) l[j]).set j l[j + 1]) := by
  simp [insI, List.getD, hl, Nat.lt_of_succ_lt hl, h]
theorem insI_stop {lt : Int → Int → Bool} {j : Nat} {l : List Int} (hl : j + 1 < l.length) (h : lt l[j + 1] l[j] = false) : insI lt (j + 1) l = l := by
  simp [insI, List.getD, hl, Nat.lt_of_succ_lt hl, h]
theorem swap2 {a w : World} {g i j : Nat} {l : List Int} (hB : Blk w g tInt (zcells l)) (he : Ext a w) (hg : a.heap.size ≤ g) (hi : i < l.length) (hj : j < l.length) :
    ∃ W', (w.setCell ⟨g, i, none⟩ (.int .i64 l[j])).setCell ⟨g, j, none⟩ (.int .i64 l[i]) = W' ∧ (∃ u, Hid ((w.setCell ⟨g, i, none⟩ (.int .i64 l[j])).cell? ⟨g, j, none⟩ = some u)) ∧ Hid ((w.setCell ⟨g, i, none⟩ (.int .i64 l[j])).frozen? ⟨g, j, none⟩ = false) ∧ Hid (Blk W' g tInt (zcells ((l.set i l[j]).set j l[i]))) ∧ Hid (Ext a W') ∧ Hid (((l.set i l[j]).set j l[i]).length = l.length) ∧ Hid (((l.set i l[j]).set j l[i]).Perm l) := by
  have h1 := hB.set_ i (.int .i64 l[j])
  have hkx : j < ((zcells l).set i (.int .i64 l[j])).length := by rw [List.length_set]; unfold zcells; rw [List.length_map]; exact hj
  refine ⟨_, rfl, ⟨((zcells l).set i (.int .i64 l[j]))[j], h1.cell (List.getElem?_eq_getElem hkx)⟩, h1.frozen j, ?_, (he.setCell hg _).setCell hg _, by simp [Hid], List.set_set_perm hi hj⟩
  rw [Hid, zcells_set, zcells_set]
  exact h1.set_ j _
set_option maxRecDepth 100000 in
set_option maxHeartbeats 4000000 in
theorem inss_any (seed tree : Int) (gs gt g n c : Nat) (l0 : List Int) (w : World) (hs : Blk w gs tInt [.int .i64 seed]) (ht : Blk w gt tInt [.int .i64 tree]) (h1 : I64 seed) (h2 : I64 tree) (htb : Tab w)
    (wr0 : World) (hX : Ext w wr0) (hg : w.heap.size ≤ g) (hB : Blk wr0 g tInt (zcells l0)) (hl0 : l0.length = n) (hn : n ≤ 100) (hr : ∀ x ∈ l0, I64 x) :
    Calls Tryd.prog 41 #[.slice (some ⟨g, 0, none⟩) n c, .int .i64 0, .int .i64 n, .func (.func 21) #[] #[.pointer (some ⟨gs, 0, none⟩), .pointer (some ⟨gt, 0, none⟩)]] wr0 fun e w' => e = .returned (.tuple #[]) ∧ Ext w w' ∧ Blk w' g tInt (zcells (ordI (ltF seed tree) l0)) := by
  have CL : Hid (∀ (a b : Int) w', I64 a → I64 b → Ext w w' → Calls Tryd.prog 21 #[.int .i64 a, .int .i64 b, .pointer (some ⟨gs, 0, none⟩), .pointer (some ⟨gt, 0, none⟩)] w' fun e w'' => ∃ c : Int, e = .returned (.int .i64 c) ∧ decide (c < 0) = ltF seed tree a b ∧ Ext w' w'') := fun a b w' ha hb hx => pickc_any seed tree a b gs gt w' (hs.ext hx) (ht.ext hx) h1 h2 ha hb (htb.ext hx)
  have HX0 := Lib.hid hX
  have HB0 := Lib.hid hB
  have HL0 := Lib.hid hl0
  have HR := Lib.hid hr
  obtain ⟨R, hR⟩ : ∃ R, ordI (ltF seed tree) l0 = R := ⟨_, rfl⟩
  have HRR : Hid (outI (ltF seed tree) (n - 1) 1 l0 = R) := by rw [Hid, ← hl0]; exact hR
  have HP0 : Hid (l0.Perm l0) := List.Perm.refl _
  rw [hR]
  clear hs ht h1 h2 htb hX hB hl0 hr hR
  generalize ltF seed tree = lt at *
  go_enter Tryd.func41, Tryd.ntmps41
  go_wp2_with fail
  go_loopw [8] (fun v8 wr => ∃ (i : Nat) (l : List Int), 1 ≤ i ∧ (i ≤ n ∨ i = 1) ∧ v8 = .int .i64 i ∧ Hid (l.length = n) ∧ Hid (l.Perm l0) ∧ Hid (outI lt (n - i) i l = R) ∧ Hid (Blk wr g tInt (zcells l)) ∧ Hid (Ext w wr)) (fun v8 _ => n - (RowKit.intOf v8).toNat)
  case atStart => exact ⟨1, l0, Nat.le_refl _, Or.inr rfl, rfl, HL0, HP0, HRR, HB0, HX0⟩
  case round =>
    clear HL0 HP0 HRR HB0 HX0
    obtain ⟨i, l1, hi1, hi, rfl, HL1, HP1, HO1, HB1, HX1⟩ := hrel
    by_cases hin : i < n
    · generalize wr = w1 at *
      have HII : Hid (insI lt i l1 = insI lt i l1) := rfl
      have HZ : Hid (outI lt (n - (i + 1)) (i + 1) (insI lt i l1) = R) := by
        rw [Hid, ← HO1.out, show n - i = n - (i + 1) + 1 by omega]; rfl
      generalize hq : insI lt i l1 = q at HII HZ
      have HQ : Hid (insI lt i l1 = q) := hq
      clear HII hq HO1
      go_upto_region 4 with fail
      go_wp2_with fail
      go_loopw [9] (fun v9 wr => ∃ (j : Nat) (l : List Int), j ≤ i ∧ v9 = .int .i64 j ∧ Hid (l.length = n) ∧ Hid (l.Perm l0) ∧ Hid (insI lt j l = q) ∧ Hid (Blk wr g tInt (zcells l)) ∧ Hid (Ext w wr)) (fun v9 _ => (RowKit.intOf v9).toNat)
      case atStart => exact ⟨i, l1, Nat.le_refl _, rfl, HL1, HP1, HQ, HB1, HX1⟩
      case round =>
        clear HL1 HP1 HQ HB1 HX1
        obtain ⟨j, l, hji, rfl, HL, HP, HQ, HB, HX⟩ := hrel
        rcases j with _ | j
        · have HQ' : Hid (outI lt (n - (i + 1)) (i + 1) l = R) := by rw [Hid, ← HZ.out, ← HQ.out]; rfl
          have d0 : decide ((0 : Int) > 0) = false := rfl
          have d1 : decide ((0 : Nat) > 0) = false := rfl
          rw [show ((0 : Nat) : Int) = 0 from rfl]
          go_upto_region 4 with fail
          have HSI : Hid (∀ w', Ext w w' → True) := fun _ _ => trivial
          have HS0 : Hid (Ext w wr.drew) := HX.out.drew
          have HB' : Hid (Blk wr.drew g tInt (zcells l)) := HB.out.drew
          refine AnyT.start (S := fun w' => Ext w w') (T := fun _ => false) (by kernel_rfl) ?_
          generalize wr.drew = wd at *
          refine AnyT.ld 0 18 ?_ _ rfl rfl (by kernel_rfl) (fun _ _ _ h => h) HS0.out rfl ?_ ?_
          rotate_left
          focus (intro w' hSw; have hs := HSI.out w' hSw; go_split_ands; go_simp; try (first | exact rfl | omega | go_num | (intro hbd; exfalso; omega)))
          simp only [Act.put, List.setIfInBounds_toArray, List.set_cons_zero, List.set_cons_succ]
          refine AnyT.ld 1 19 ?_ _ rfl rfl (by kernel_rfl) (fun _ _ _ h => h) HS0.out rfl ?_ ?_
          rotate_left
          focus (intro w' hSw; have hs := HSI.out w' hSw; go_split_ands; go_simp; try (first | exact rfl | omega | go_num | (intro hbd; exfalso; omega)))
          simp only [Act.put, List.setIfInBounds_toArray, List.set_cons_zero, List.set_cons_succ]
          refine AnyT.ld 2 20 ?_ _ rfl rfl (by kernel_rfl) (fun _ _ _ h => h) HS0.out rfl ?_ ?_
          rotate_left
          focus (intro w' hSw; have hs := HSI.out w' hSw; go_split_ands; go_simp; try (first | exact rfl | omega | go_num | (intro hbd; exfalso; omega)))
          simp only [Act.put, List.setIfInBounds_toArray, List.set_cons_zero, List.set_cons_succ]
          refine AnyT.ld 3 21 ?_ _ rfl rfl (by kernel_rfl) (fun _ _ _ h => h) HS0.out rfl ?_ ?_
          rotate_left
          focus (intro w' hSw; have hs := HSI.out w' hSw; go_split_ands; go_simp; try (first | exact rfl | omega | go_num | (intro hbd; exfalso; omega)))
          simp only [Act.put, List.setIfInBounds_toArray, List.set_cons_zero, List.set_cons_succ]
          refine AnyT.loadU 4 22 rfl (by kernel_rfl) (by kernel_rfl) (by kernel_rfl) (by kernel_rfl) (by kernel_rfl) (fun _ _ _ h => h) HS0.out ?_ ?_
          · intro o ho
            simp only [List.getElem?_toArray, List.getElem?_cons_succ, List.getElem?_cons_zero, Option.some.injEq] at ho
            subst ho
            exact ⟨rfl, rfl⟩
          simp only [Act.put, List.setIfInBounds_toArray, List.set_cons_zero, List.set_cons_succ]
          refine AnyT.loadU 5 23 rfl (by kernel_rfl) (by kernel_rfl) (by kernel_rfl) (by kernel_rfl) (by kernel_rfl) (fun _ _ _ h => h) HS0.out ?_ ?_
          · intro o ho
            simp only [List.getElem?_toArray, List.getElem?_cons_succ, List.getElem?_cons_zero, Option.some.injEq] at ho
            subst ho
            exact ⟨rfl, rfl⟩
          simp only [Act.put, List.setIfInBounds_toArray, List.set_cons_zero, List.set_cons_succ]
          refine AnyT.loadU 6 24 rfl (by kernel_rfl) (by kernel_rfl) (by kernel_rfl) (by kernel_rfl) (by kernel_rfl) (fun _ _ _ h => h) HS0.out ?_ ?_
          · intro o ho
            simp only [List.getElem?_toArray, List.getElem?_cons_succ, List.getElem?_cons_zero, Option.some.injEq] at ho
            subst ho
            exact ⟨rfl, rfl⟩
          simp only [Act.put, List.setIfInBounds_toArray, List.set_cons_zero, List.set_cons_succ]
          refine AnyT.loadU 7 25 rfl (by kernel_rfl) (by kernel_rfl) (by kernel_rfl) (by kernel_rfl) (by kernel_rfl) (fun _ _ _ h => h) HS0.out ?_ ?_
          · intro o ho
            simp only [List.getElem?_toArray, List.getElem?_cons_succ, List.getElem?_cons_zero, Option.some.injEq] at ho
            subst ho
            exact ⟨rfl, rfl⟩
          simp only [Act.put, List.setIfInBounds_toArray, List.set_cons_zero, List.set_cons_succ]
          refine AnyT.loadU 8 26 rfl (by kernel_rfl) (by kernel_rfl) (by kernel_rfl) (by kernel_rfl) (by kernel_rfl) (fun _ _ _ h => h) HS0.out ?_ ?_
          · intro o ho
            simp only [List.getElem?_toArray, List.getElem?_cons_succ, List.getElem?_cons_zero, Option.some.injEq] at ho
            subst ho
            exact ⟨rfl, rfl⟩
          simp only [Act.put, List.setIfInBounds_toArray, List.set_cons_zero, List.set_cons_succ]
          refine AnyT.loadU 9 27 rfl (by kernel_rfl) (by kernel_rfl) (by kernel_rfl) (by kernel_rfl) (by kernel_rfl) (fun _ _ _ h => h) HS0.out ?_ ?_
          · intro o ho
            simp only [List.getElem?_toArray, List.getElem?_cons_succ, List.getElem?_cons_zero, Option.some.injEq] at ho
            subst ho
            exact ⟨rfl, rfl⟩
          simp only [Act.put, List.setIfInBounds_toArray, List.set_cons_zero, List.set_cons_succ]
          refine AnyT.loadU 10 28 rfl (by kernel_rfl) (by kernel_rfl) (by kernel_rfl) (by kernel_rfl) (by kernel_rfl) (fun _ _ _ h => h) HS0.out ?_ ?_
          · intro o ho
            simp only [List.getElem?_toArray, List.getElem?_cons_succ, List.getElem?_cons_zero, Option.some.injEq] at ho
            subst ho
            exact ⟨rfl, rfl⟩
          simp only [Act.put, List.setIfInBounds_toArray, List.set_cons_zero, List.set_cons_succ]
          refine AnyT.loadU 11 29 rfl (by kernel_rfl) (by kernel_rfl) (by kernel_rfl) (by kernel_rfl) (by kernel_rfl) (fun _ _ _ h => h) HS0.out ?_ ?_
          · intro o ho
            simp only [List.getElem?_toArray, List.getElem?_cons_succ, List.getElem?_cons_zero, Option.some.injEq] at ho
            subst ho
            exact ⟨rfl, rfl⟩
          simp only [Act.put, List.setIfInBounds_toArray, List.set_cons_zero, List.set_cons_succ]
          refine AnyT.loadU 12 30 rfl (by kernel_rfl) (by kernel_rfl) (by kernel_rfl) (by kernel_rfl) (by kernel_rfl) (fun _ _ _ h => h) HS0.out ?_ ?_
          · intro o ho
            simp only [List.getElem?_toArray, List.getElem?_cons_succ, List.getElem?_cons_zero, Option.some.injEq] at ho
            subst ho
            exact ⟨rfl, rfl⟩
          simp only [Act.put, List.setIfInBounds_toArray, List.set_cons_zero, List.set_cons_succ]
          refine AnyT.loadU 13 31 rfl (by kernel_rfl) (by kernel_rfl) (by kernel_rfl) (by kernel_rfl) (by kernel_rfl) (fun _ _ _ h => h) HS0.out ?_ ?_
          · intro o ho
            simp only [List.getElem?_toArray, List.getElem?_cons_succ, List.getElem?_cons_zero, Option.some.injEq] at ho
            subst ho
            exact ⟨rfl, rfl⟩
          simp only [Act.put, List.setIfInBounds_toArray, List.set_cons_zero, List.set_cons_succ]
          refine AnyT.loadU 14 32 rfl (by kernel_rfl) (by kernel_rfl) (by kernel_rfl) (by kernel_rfl) (by kernel_rfl) (fun _ _ _ h => h) HS0.out ?_ ?_
          · intro o ho
            simp only [List.getElem?_toArray, List.getElem?_cons_succ, List.getElem?_cons_zero, Option.some.injEq] at ho
            subst ho
            exact ⟨rfl, rfl⟩
          simp only [Act.put, List.setIfInBounds_toArray, List.set_cons_zero, List.set_cons_succ]
          refine AnyT.loadU 15 33 rfl (by kernel_rfl) (by kernel_rfl) (by kernel_rfl) (by kernel_rfl) (by kernel_rfl) (fun _ _ _ h => h) HS0.out ?_ ?_
          · intro o ho
            simp only [List.getElem?_toArray, List.getElem?_cons_succ, List.getElem?_cons_zero, Option.some.injEq] at ho
            subst ho
            exact ⟨rfl, rfl⟩
          simp only [Act.put, List.setIfInBounds_toArray, List.set_cons_zero, List.set_cons_succ]
          refine AnyT.ld 16 34 ?_ _ rfl rfl (by kernel_rfl) (fun _ _ _ h => h) HS0.out rfl ?_ ?_
          rotate_left
          focus (intro w' hSw; have hs := HSI.out w' hSw; go_split_ands; go_simp; try (first | exact rfl | omega | go_num | (intro hbd; exfalso; omega)))
          simp only [Act.put, List.setIfInBounds_toArray, List.set_cons_zero, List.set_cons_succ]
          refine AnyT.done (by kernel_rfl) ?_
          clear HSI
          go_wp2_with fail
          go_roundw
          case rel => exact ⟨i + 1, l, by omega, by omega, by go_num, HL, HP, HQ', HB', HS0⟩
          case measure => simp [RowKit.intOf]; omega
        · have hjn : j + 1 < l.length := by rw [HL.out]; omega
          have hjn' : j < l.length := by omega
          have hkn : j + 1 < n := by omega
          have HM1 := Lib.hid ((HP.out.mem_iff).1 (List.getElem_mem hjn))
          have HM2 := Lib.hid ((HP.out.mem_iff).1 (List.getElem_mem hjn'))
          have HC := Lib.hid (fun w' hx => CL.out l[j + 1] l[j] w' (HR.out _ HM1.out) (HR.out _ HM2.out) hx)
          have HIG := Lib.hid (fun h : lt l[j + 1] l[j] = true => (insI_go hjn h).symm.trans HQ.out)
          have HIS := Lib.hid (fun h : lt l[j + 1] l[j] = false => (insI_stop hjn h).symm.trans HQ.out)
          have HSW := Lib.hid (fun (w' : World) (hb : Blk w' g tInt (zcells l)) (he : Ext w w') => swap2 hb he hg hjn hjn')
          have K1 := Lib.hid (fun (w' : World) (hb : Blk w' g tInt (zcells l)) => hb.cell (zcells_get hjn))
          have K2 := Lib.hid (fun (w' : World) (hb : Blk w' g tInt (zcells l)) => hb.cell (zcells_get hjn'))
          obtain ⟨lt', hlt⟩ : ∃ b, lt l[j + 1] l[j] = b := ⟨_, rfl⟩
          have HLT := Lib.hid hlt
          rw [hlt] at HC HIG HIS
          clear HM1 HM2 hlt HLT HQ
          generalize (l.set (j + 1) l[j]).set j l[j + 1] = l' at *
          generalize l[j + 1] = z1 at *
          generalize l[j] = z2 at *
          clear hjn hjn'
          obtain ⟨k, hk⟩ : ∃ k, k = j + 1 := ⟨_, rfl⟩
          rw [← hk] at hkn hji K1 HSW ⊢
          have HK := Lib.hid hk
          have hk1 : 1 ≤ k := by omega
          have hj2 : j < n := by omega
          have hwz : IntKind.i64.wrap ((k : Int) - 1) = (j : Int) := by rw [IntKind.wrap_i64]; omega
          have hgt : decide ((k : Int) > 0) = true := decide_eq_true (by omega)
          clear hk
          go_upto_region 4 with fail
          have HSI : Hid (∀ w', Blk w' g tInt (zcells l) ∧ Ext w w' → w'.cell? ⟨g, k, none⟩ = some (.int .i64 z1) ∧ w'.cell? ⟨g, j, none⟩ = some (.int .i64 z2)) := fun w' h => ⟨K1.out w' h.1, K2.out w' h.1⟩
          have HS0 : Hid (Blk wr.drew g tInt (zcells l) ∧ Ext w wr.drew) := ⟨HB.out.drew, HX.out.drew⟩
          refine AnyT.start (S := fun w' => Blk w' g tInt (zcells l) ∧ Ext w w') (T := fun _ => false) (by kernel_rfl) ?_
          generalize wr.drew = wd at *
          refine AnyT.ld 0 18 ?_ _ rfl rfl (by kernel_rfl) (fun _ _ _ h => h) HS0.out rfl ?_ ?_
          rotate_left
          focus (intro w' hSw; have hs := HSI.out w' hSw; go_split_ands; go_simp; try (first | exact rfl | omega | go_num | (intro hbd; exfalso; omega)))
          simp only [Act.put, List.setIfInBounds_toArray, List.set_cons_zero, List.set_cons_succ]
          refine AnyT.ld 1 19 ?_ _ rfl rfl (by kernel_rfl) (fun _ _ _ h => h) HS0.out rfl ?_ ?_
          rotate_left
          focus (intro w' hSw; have hs := HSI.out w' hSw; go_split_ands; go_simp; try (first | exact rfl | omega | go_num | (intro hbd; exfalso; omega)))
          simp only [Act.put, List.setIfInBounds_toArray, List.set_cons_zero, List.set_cons_succ]
          refine AnyT.ld 2 20 (.bool true) _ rfl rfl (by kernel_rfl) (fun _ _ _ h => h) HS0.out rfl ?_ ?_
          focus (intro w' hSw; have hs := HSI.out w' hSw; go_split_ands; go_simp; try (first | exact rfl | omega | go_num | (intro hbd; exfalso; omega)))
          simp only [Act.put, List.setIfInBounds_toArray, List.set_cons_zero, List.set_cons_succ]
          refine AnyT.ld 3 21 ?_ _ rfl rfl (by kernel_rfl) (fun _ _ _ h => h) HS0.out rfl ?_ ?_
          rotate_left
          focus (intro w' hSw; have hs := HSI.out w' hSw; go_split_ands; go_simp; try (first | exact rfl | omega | go_num | (intro hbd; exfalso; omega)))
          simp only [Act.put, List.setIfInBounds_toArray, List.set_cons_zero, List.set_cons_succ]
          refine AnyT.ld 4 22 ?_ _ rfl rfl (by kernel_rfl) (fun _ _ _ h => h) HS0.out rfl ?_ ?_
          rotate_left
          focus (intro w' hSw; have hs := HSI.out w' hSw; go_split_ands; go_simp; try (first | exact rfl | omega | go_num | (intro hbd; exfalso; omega)))
          simp only [Act.put, List.setIfInBounds_toArray, List.set_cons_zero, List.set_cons_succ]
          refine AnyT.ld 5 23 ?_ _ rfl rfl (by kernel_rfl) (fun _ _ _ h => h) HS0.out rfl ?_ ?_
          rotate_left
          focus (intro w' hSw; have hs := HSI.out w' hSw; go_split_ands; go_simp; try (first | exact rfl | omega | go_num | (intro hbd; exfalso; omega)))
          simp only [Act.put, List.setIfInBounds_toArray, List.set_cons_zero, List.set_cons_succ]
          refine AnyT.ld 6 24 ?_ _ rfl rfl (by kernel_rfl) (fun _ _ _ h => h) HS0.out rfl ?_ ?_
          rotate_left
          focus (intro w' hSw; have hs := HSI.out w' hSw; go_split_ands; go_simp; try (first | exact rfl | omega | go_num | (intro hbd; exfalso; omega)))
          simp only [Act.put, List.setIfInBounds_toArray, List.set_cons_zero, List.set_cons_succ]
          refine AnyT.ld 7 25 ?_ _ rfl rfl (by kernel_rfl) (fun _ _ _ h => h) HS0.out rfl ?_ ?_
          rotate_left
          focus (intro w' hSw; have hs := HSI.out w' hSw; go_split_ands; go_simp; try (first | exact rfl | omega | go_num | (intro hbd; exfalso; omega)))
          simp only [Act.put, List.setIfInBounds_toArray, List.set_cons_zero, List.set_cons_succ]
          refine AnyT.ld 8 26 ?_ _ rfl rfl (by kernel_rfl) (fun _ _ _ h => h) HS0.out rfl ?_ ?_
          rotate_left
          focus (intro w' hSw; have hs := HSI.out w' hSw; go_split_ands; go_simp; try (first | exact rfl | omega | go_num | (intro hbd; exfalso; omega)))
          simp only [Act.put, List.setIfInBounds_toArray, List.set_cons_zero, List.set_cons_succ]
          refine AnyT.ld 9 27 ?_ _ rfl rfl (by kernel_rfl) (fun _ _ _ h => h) HS0.out rfl ?_ ?_
          rotate_left
          focus (intro w' hSw; have hs := HSI.out w' hSw; go_split_ands; go_simp; try (first | exact rfl | omega | go_num | (intro hbd; exfalso; omega)))
          simp only [Act.put, List.setIfInBounds_toArray, List.set_cons_zero, List.set_cons_succ]
          refine AnyT.ld 10 28 ?_ _ rfl rfl (by kernel_rfl) (fun _ _ _ h => h) HS0.out rfl ?_ ?_
          rotate_left
          focus (intro w' hSw; have hs := HSI.out w' hSw; go_split_ands; go_simp; try (first | exact rfl | omega | go_num | (intro hbd; exfalso; omega)))
          simp only [Act.put, List.setIfInBounds_toArray, List.set_cons_zero, List.set_cons_succ]
          refine AnyT.ld 11 29 (.int .i64 j) _ rfl rfl (by kernel_rfl) (fun _ _ _ h => h) HS0.out rfl ?_ ?_
          focus (intro w' hSw; have hs := HSI.out w' hSw; go_split_ands; go_simp; try (first | exact rfl | omega | go_num | (intro hbd; exfalso; omega)))
          simp only [Act.put, List.setIfInBounds_toArray, List.set_cons_zero, List.set_cons_succ]
          refine AnyT.ld 12 30 ?_ _ rfl rfl (by kernel_rfl) (fun _ _ _ h => h) HS0.out rfl ?_ ?_
          rotate_left
          focus (intro w' hSw; have hs := HSI.out w' hSw; go_split_ands; go_simp; try (first | exact rfl | omega | go_num | (intro hbd; exfalso; omega)))
          simp only [Act.put, List.setIfInBounds_toArray, List.set_cons_zero, List.set_cons_succ]
          refine AnyT.ld 13 31 ?_ _ rfl rfl (by kernel_rfl) (fun _ _ _ h => h) HS0.out rfl ?_ ?_
          rotate_left
          focus (intro w' hSw; have hs := HSI.out w' hSw; go_split_ands; go_simp; try (first | exact rfl | omega | go_num | (intro hbd; exfalso; omega)))
          simp only [Act.put, List.setIfInBounds_toArray, List.set_cons_zero, List.set_cons_succ]
          refine AnyT.step 14 (by kernel_rfl) ?_
          intro o ho K hK
          simp only [List.getElem?_toArray, List.getElem?_cons_succ, List.getElem?_cons_zero, Option.some.injEq] at ho
          subst ho
          go_simp
          refine (HC.out _ HS0.out.2).mono ?_
          rintro e wx ⟨cc, rfl, hcc, hx⟩
          have HS1 : Hid (Blk wx g tInt (zcells l) ∧ Ext w wx) := ⟨HS0.out.1.ext hx, HS0.out.2.trans hx⟩
          clear HS0 hx
          have HS0 := HS1
          clear HS1
          refine hK.out _ _ (fun _ => HS0.out) ?_
          rcases lt' with _ | _
          · skip
            refine AnyT.ld 15 33 (.bool false) _ rfl rfl (by kernel_rfl) (fun _ _ _ h => h) HS0.out rfl ?_ ?_
            focus (intro w' hSw; have hs := HSI.out w' hSw; go_split_ands; go_simp; try (first | exact rfl | omega | go_num | (intro hbd; exfalso; omega)))
            simp only [Act.put, List.setIfInBounds_toArray, List.set_cons_zero, List.set_cons_succ]
            refine AnyT.ld 16 34 ?_ _ rfl rfl (by kernel_rfl) (fun _ _ _ h => h) HS0.out rfl ?_ ?_
            rotate_left
            focus (intro w' hSw; have hs := HSI.out w' hSw; go_split_ands; go_simp; try (first | exact rfl | omega | go_num | (intro hbd; exfalso; omega)))
            simp only [Act.put, List.setIfInBounds_toArray, List.set_cons_zero, List.set_cons_succ]
            refine AnyT.done (by kernel_rfl) ?_
            clear HSI
            have HQ' : Hid (outI lt (n - (i + 1)) (i + 1) l = R) := by rw [Hid, ← HZ.out, ← HIS.out rfl]
            go_wp2_with fail
            go_roundw
            case rel => exact ⟨i + 1, l, by omega, by omega, by go_num, HL, HP, HQ', HS0.out.1, HS0.out.2⟩
            case measure => simp [RowKit.intOf]; omega
          · skip
            refine AnyT.ld 15 33 (.bool true) _ rfl rfl (by kernel_rfl) (fun _ _ _ h => h) HS0.out rfl ?_ ?_
            focus (intro w' hSw; have hs := HSI.out w' hSw; go_split_ands; go_simp; try (first | exact rfl | omega | go_num | (intro hbd; exfalso; omega)))
            simp only [Act.put, List.setIfInBounds_toArray, List.set_cons_zero, List.set_cons_succ]
            refine AnyT.ld 16 34 ?_ _ rfl rfl (by kernel_rfl) (fun _ _ _ h => h) HS0.out rfl ?_ ?_
            rotate_left
            focus (intro w' hSw; have hs := HSI.out w' hSw; go_split_ands; go_simp; try (first | exact rfl | omega | go_num | (intro hbd; exfalso; omega)))
            simp only [Act.put, List.setIfInBounds_toArray, List.set_cons_zero, List.set_cons_succ]
            refine AnyT.done (by kernel_rfl) ?_
            clear HSI
            have HQ' := Lib.hid (HIG.out rfl)
            clear HIG HIS hcc
            have HB1 := Lib.hid HS0.out.1
            have HX1 := Lib.hid HS0.out.2
            clear HS0 HB HX
            go_upto_region 6 with fail
            have HB2 : Hid (Blk wx.drew g tInt (zcells l)) := HB1.out.drew
            have HX2 : Hid (Ext w wx.drew) := HX1.out.drew
            clear HB1 HX1
            obtain ⟨we, hwe⟩ : ∃ we, we = wx.drew := ⟨_, rfl⟩
            have HWE := Lib.hid hwe
            rw [← hwe] at HB2 HX2
            clear hwe
            obtain ⟨W', hW', ⟨u5, K5⟩, F5, O4, E4, L4, P4⟩ := HSW.out we HB2.out HX2.out
            have HW := Lib.hid hW'
            have k1 := Lib.hid (K1.out we HB2.out)
            have f1 := Lib.hid (HB2.out.frozen k)
            have L4' := Lib.hid (L4.out.trans HL.out)
            have P4' := Lib.hid (P4.out.trans HP.out)
            clear hW' HSW L4 P4
            obtain ⟨S, hSd⟩ : ∃ S : World → Prop, S = fun w' => w'.cell? ⟨g, k, none⟩ = some (.int .i64 z1) ∧ w'.cell? ⟨g, j, none⟩ = some (.int .i64 z2) := ⟨_, rfl⟩
            have HSI : Hid (∀ w', S w' → w'.cell? ⟨g, k, none⟩ = some (.int .i64 z1) ∧ w'.cell? ⟨g, j, none⟩ = some (.int .i64 z2)) := by rw [Hid, hSd]; exact fun _ h => h
            have HS0 : Hid (S we) := by rw [Hid, hSd]; exact ⟨k1.out, K2.out we HB2.out⟩
            clear hSd
            refine AnyT.start (S := S) (T := fun j => decide (j = 2 ∨ j = 3 ∨ j = 4 ∨ 15 ≤ j)) (by kernel_rfl) ?_
            rw [← HWE.out]
            clear HWE
            refine AnyT.loadM 2 39 (.slice (some ⟨g, 0, none⟩) n c) rfl (by kernel_rfl) (by kernel_rfl) (by kernel_rfl) (by kernel_rfl) (fun _ _ _ h => h) ?_ ?_
            · intro o ho
              simp only [List.getElem?_toArray, List.getElem?_cons_succ, List.getElem?_cons_zero, Option.some.injEq] at ho
              subst ho
              refine ⟨rfl, rfl, fun w' => ?_⟩
              go_simp
            simp only [Act.put, List.setIfInBounds_toArray, List.set_cons_zero, List.set_cons_succ]
            refine AnyT.loadM 3 40 (.int .i64 k) rfl (by kernel_rfl) (by kernel_rfl) (by kernel_rfl) (by kernel_rfl) (fun _ _ _ h => h) ?_ ?_
            · intro o ho
              simp only [List.getElem?_toArray, List.getElem?_cons_succ, List.getElem?_cons_zero, Option.some.injEq] at ho
              subst ho
              refine ⟨rfl, rfl, fun w' => ?_⟩
              go_simp
            simp only [Act.put, List.setIfInBounds_toArray, List.set_cons_zero, List.set_cons_succ]
            refine AnyT.loadM 4 41 (.int .i64 j) rfl (by kernel_rfl) (by kernel_rfl) (by kernel_rfl) (by kernel_rfl) (fun _ _ _ h => h) ?_ ?_
            · intro o ho
              simp only [List.getElem?_toArray, List.getElem?_cons_succ, List.getElem?_cons_zero, Option.some.injEq] at ho
              subst ho
              refine ⟨rfl, rfl, fun w' => ?_⟩
              go_simp
            simp only [Act.put, List.setIfInBounds_toArray, List.set_cons_zero, List.set_cons_succ]
            refine AnyT.loadL 0 37 (.slice (some ⟨g, 0, none⟩) n c) rfl (by kernel_rfl) (by kernel_rfl) (by kernel_rfl) (by kernel_rfl) (by kernel_rfl) (fun _ _ _ h => h) HS0.out ?_ ?_
            · intro o ho
              simp only [List.getElem?_toArray, List.getElem?_cons_zero, Option.some.injEq] at ho
              subst ho
              refine ⟨rfl, rfl, fun w' hSw => ?_⟩
              have hs := HSI.out w' hSw
              go_split_ands
              go_simp
            simp only [Act.put, List.setIfInBounds_toArray, List.set_cons_zero, List.set_cons_succ]
            refine AnyT.loadL 1 38 (.int .i64 k) rfl (by kernel_rfl) (by kernel_rfl) (by kernel_rfl) (by kernel_rfl) (by kernel_rfl) (fun _ _ _ h => h) HS0.out ?_ ?_
            · intro o ho
              simp only [List.getElem?_toArray, List.getElem?_cons_succ, List.getElem?_cons_zero, Option.some.injEq] at ho
              subst ho
              refine ⟨rfl, rfl, fun w' hSw => ?_⟩
              have hs := HSI.out w' hSw
              go_split_ands
              go_simp
            simp only [Act.put, List.setIfInBounds_toArray, List.set_cons_zero, List.set_cons_succ]
            refine AnyT.loadL 5 42 (.slice (some ⟨g, 0, none⟩) n c) rfl (by kernel_rfl) (by kernel_rfl) (by kernel_rfl) (by kernel_rfl) (by kernel_rfl) (fun _ _ _ h => h) HS0.out ?_ ?_
            · intro o ho
              simp only [List.getElem?_toArray, List.getElem?_cons_succ, List.getElem?_cons_zero, Option.some.injEq] at ho
              subst ho
              refine ⟨rfl, rfl, fun w' hSw => ?_⟩
              have hs := HSI.out w' hSw
              go_split_ands
              go_simp
            simp only [Act.put, List.setIfInBounds_toArray, List.set_cons_zero, List.set_cons_succ]
            refine AnyT.loadL 6 43 (.int .i64 k) rfl (by kernel_rfl) (by kernel_rfl) (by kernel_rfl) (by kernel_rfl) (by kernel_rfl) (fun _ _ _ h => h) HS0.out ?_ ?_
            · intro o ho
              simp only [List.getElem?_toArray, List.getElem?_cons_succ, List.getElem?_cons_zero, Option.some.injEq] at ho
              subst ho
              refine ⟨rfl, rfl, fun w' hSw => ?_⟩
              have hs := HSI.out w' hSw
              go_split_ands
              go_simp
            simp only [Act.put, List.setIfInBounds_toArray, List.set_cons_zero, List.set_cons_succ]
            refine AnyT.loadL 7 44 (.int .i64 j) rfl (by kernel_rfl) (by kernel_rfl) (by kernel_rfl) (by kernel_rfl) (by kernel_rfl) (fun _ _ _ h => h) HS0.out ?_ ?_
            · intro o ho
              simp only [List.getElem?_toArray, List.getElem?_cons_succ, List.getElem?_cons_zero, Option.some.injEq] at ho
              subst ho
              refine ⟨rfl, rfl, fun w' hSw => ?_⟩
              have hs := HSI.out w' hSw
              go_split_ands
              go_simp
            simp only [Act.put, List.setIfInBounds_toArray, List.set_cons_zero, List.set_cons_succ]
            refine AnyT.loadL 8 45 (.pointer (some ⟨g, j, none⟩)) rfl (by kernel_rfl) (by kernel_rfl) (by kernel_rfl) (by kernel_rfl) (by kernel_rfl) (fun _ _ _ h => h) HS0.out ?_ ?_
            · intro o ho
              simp only [List.getElem?_toArray, List.getElem?_cons_succ, List.getElem?_cons_zero, Option.some.injEq] at ho
              subst ho
              refine ⟨rfl, rfl, fun w' hSw => ?_⟩
              have hs := HSI.out w' hSw
              go_split_ands
              go_simp
            simp only [Act.put, List.setIfInBounds_toArray, List.set_cons_zero, List.set_cons_succ]
            refine AnyT.loadL 9 46 (.int .i64 z2) rfl (by kernel_rfl) (by kernel_rfl) (by kernel_rfl) (by kernel_rfl) (by kernel_rfl) (fun _ _ _ h => h) HS0.out ?_ ?_
            · intro o ho
              simp only [List.getElem?_toArray, List.getElem?_cons_succ, List.getElem?_cons_zero, Option.some.injEq] at ho
              subst ho
              refine ⟨rfl, rfl, fun w' hSw => ?_⟩
              have hs := HSI.out w' hSw
              go_split_ands
              go_simp
            simp only [Act.put, List.setIfInBounds_toArray, List.set_cons_zero, List.set_cons_succ]
            refine AnyT.loadL 10 47 (.slice (some ⟨g, 0, none⟩) n c) rfl (by kernel_rfl) (by kernel_rfl) (by kernel_rfl) (by kernel_rfl) (by kernel_rfl) (fun _ _ _ h => h) HS0.out ?_ ?_
            · intro o ho
              simp only [List.getElem?_toArray, List.getElem?_cons_succ, List.getElem?_cons_zero, Option.some.injEq] at ho
              subst ho
              refine ⟨rfl, rfl, fun w' hSw => ?_⟩
              have hs := HSI.out w' hSw
              go_split_ands
              go_simp
            simp only [Act.put, List.setIfInBounds_toArray, List.set_cons_zero, List.set_cons_succ]
            refine AnyT.loadL 11 48 (.int .i64 k) rfl (by kernel_rfl) (by kernel_rfl) (by kernel_rfl) (by kernel_rfl) (by kernel_rfl) (fun _ _ _ h => h) HS0.out ?_ ?_
            · intro o ho
              simp only [List.getElem?_toArray, List.getElem?_cons_succ, List.getElem?_cons_zero, Option.some.injEq] at ho
              subst ho
              refine ⟨rfl, rfl, fun w' hSw => ?_⟩
              have hs := HSI.out w' hSw
              go_split_ands
              go_simp
            simp only [Act.put, List.setIfInBounds_toArray, List.set_cons_zero, List.set_cons_succ]
            refine AnyT.loadL 12 49 (.pointer (some ⟨g, k, none⟩)) rfl (by kernel_rfl) (by kernel_rfl) (by kernel_rfl) (by kernel_rfl) (by kernel_rfl) (fun _ _ _ h => h) HS0.out ?_ ?_
            · intro o ho
              simp only [List.getElem?_toArray, List.getElem?_cons_succ, List.getElem?_cons_zero, Option.some.injEq] at ho
              subst ho
              refine ⟨rfl, rfl, fun w' hSw => ?_⟩
              have hs := HSI.out w' hSw
              go_split_ands
              go_simp
            simp only [Act.put, List.setIfInBounds_toArray, List.set_cons_zero, List.set_cons_succ]
            refine AnyT.loadL 13 50 (.int .i64 z1) rfl (by kernel_rfl) (by kernel_rfl) (by kernel_rfl) (by kernel_rfl) (by kernel_rfl) (fun _ _ _ h => h) HS0.out ?_ ?_
            · intro o ho
              simp only [List.getElem?_toArray, List.getElem?_cons_succ, List.getElem?_cons_zero, Option.some.injEq] at ho
              subst ho
              refine ⟨rfl, rfl, fun w' hSw => ?_⟩
              have hs := HSI.out w' hSw
              go_split_ands
              go_simp
            simp only [Act.put, List.setIfInBounds_toArray, List.set_cons_zero, List.set_cons_succ]
            refine AnyT.loadL 14 51 (.pointer (some ⟨g, k, none⟩)) rfl (by kernel_rfl) (by kernel_rfl) (by kernel_rfl) (by kernel_rfl) (by kernel_rfl) (fun _ _ _ h => h) HS0.out ?_ ?_
            · intro o ho
              simp only [List.getElem?_toArray, List.getElem?_cons_succ, List.getElem?_cons_zero, Option.some.injEq] at ho
              subst ho
              refine ⟨rfl, rfl, fun w' hSw => ?_⟩
              have hs := HSI.out w' hSw
              go_split_ands
              go_simp
            simp only [Act.put, List.setIfInBounds_toArray, List.set_cons_zero, List.set_cons_succ]
            have k1' := k1.out
            have f1' := f1.out
            refine AnyT.step 15 (by kernel_rfl) ?_
            intro o ho K hK
            simp only [List.getElem?_toArray, List.getElem?_cons_succ, List.getElem?_cons_zero, Option.some.injEq] at ho
            subst ho
            go_simp
            refine hK.out _ _ (fun h => by cases h) ?_
            clear k1' f1' k1 f1
            obtain ⟨W5, hW5⟩ : ∃ W5 : World, we.setCell ⟨g, k, none⟩ (.int .i64 z2) = W5 := ⟨_, rfl⟩
            rw [hW5] at K5 F5 HW ⊢
            clear hW5
            refine AnyT.step 16 (by kernel_rfl) ?_
            intro o ho K hK
            simp only [List.getElem?_toArray, List.getElem?_cons_succ, List.getElem?_cons_zero, Option.some.injEq] at ho
            subst ho
            go_simp
            refine hK.out _ _ (fun h => by cases h) ?_
            have k5 := K5.out
            have f5 := F5.out
            refine AnyT.step 17 (by kernel_rfl) ?_
            intro o ho K hK
            simp only [List.getElem?_toArray, List.getElem?_cons_succ, List.getElem?_cons_zero, Option.some.injEq] at ho
            subst ho
            go_simp
            refine hK.out _ _ (fun h => by cases h) ?_
            refine AnyT.done (by kernel_rfl) ?_
            rw [HW.out]
            clear k5 f5 HSI
            go_wp2_with fail
            go_roundw
            case rel => exact ⟨j, l', by have := HK.out; omega, rfl, L4', P4', HQ', O4, E4⟩
            case measure => have := HK.out; simp [RowKit.intOf]; omega
    · have hR : Hid (l1 = R) := by
        rw [Hid, ← HO1.out, show n - i = 0 by omega]; rfl
      go_wp2
      refine bodyPost_end (results_none rfl _ _ _) rfl ?_
      exact ⟨rfl, HX1.out, by rw [← hR.out]; exact HB1.out⟩
end Go.Proofs.YthalpbjkkfkheaaDoor
