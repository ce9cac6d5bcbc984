/- classtree: Total, over counts that are whole numbers. classtree: Impurity, over counts that are whole numbers. classtree: Major, over counts that are whole numbers. joinlearnlaw25.sane. Rows of tallies that a law builds; counts that are multiplied. -/
import Derived.Test.YteagmfbaebmplaaGreatDoorOrd
/- classtree: Total, over counts that are whole numbers. -/
namespace Go.Proofs.YteagmfbaebmplaaGreatDoor
open Go.RowKit Go.Lib

abbrev tTally : TypeId := 34
abbrev Tal : Type := List UInt8 × Nat
def tcell (x : Tal) : List Value := [.string ⟨x.1.toArray⟩, .string ⟨(ratText ((x.2 : Int) : Rat)).toArray⟩]
def tcells (l : List Tal) : List Value := (l.map tcell).flatten
theorem tcells_length (l : List Tal) : (tcells l).length = l.length * 2 := by
  induction l with
  | nil => rfl
  | cons x r ih => simp only [tcells, List.map_cons, List.flatten_cons, List.length_append, List.length_cons] at *; rw [ih]; simp [tcell]; omega
theorem tcells_append (a b : List Tal) : tcells (a ++ b) = tcells a ++ tcells b := by simp [tcells]
theorem tcells_get {l : List Tal} {k : Nat} (h : k < l.length) : (tcells l)[k * 2]? = some (.string ⟨l[k].1.toArray⟩) ∧ (tcells l)[k * 2 + 1]? = some (.string ⟨(ratText ((l[k].2 : Int) : Rat)).toArray⟩) := by
  have e : tcells l = tcells (l.take k) ++ (tcell l[k] ++ tcells (l.drop (k + 1))) := by
    have h1 : l = l.take k ++ (l[k] :: l.drop (k + 1)) := by rw [← List.drop_eq_getElem_cons h, List.take_append_drop]
    have h2 : tcells (l[k] :: l.drop (k + 1)) = tcell l[k] ++ tcells (l.drop (k + 1)) := by rw [tcells, List.map_cons, List.flatten_cons, tcells]
    rw [← h2, ← tcells_append, ← h1]
  have hl : (tcells (l.take k)).length = k * 2 := by rw [tcells_length, List.length_take, Nat.min_eq_left (by omega)]
  constructor
  · rw [e, List.getElem?_append_right (by omega), hl, Nat.sub_self]
    rfl
  · rw [e, List.getElem?_append_right (by omega), hl, show k * 2 + 1 - k * 2 = 1 by omega]
    rfl
/-- counts of at most 100, at most 100 of them -/
def Small (l : List Tal) : Prop := l.length ≤ 100 ∧ ∀ x ∈ l, x.2 ≤ 100
def total (l : List Tal) : Nat := (l.map (·.2)).sum
def squares (l : List Tal) : Nat := (l.map fun x => x.2 * x.2).sum
theorem total_snoc (l : List Tal) (x : Tal) : total (l ++ [x]) = total l + x.2 := by simp [total]
theorem squares_snoc (l : List Tal) (x : Tal) : squares (l ++ [x]) = squares l + x.2 * x.2 := by simp [squares]
theorem Small.take {l : List Tal} (h : Small l) (k : Nat) : Small (l.take k) := ⟨by rw [List.length_take]; have := h.1; omega, fun x hx => h.2 x (List.mem_of_mem_take hx)⟩
theorem total_le {l : List Tal} (h : Small l) : total l ≤ 10000 := by
  have : ∀ l : List Tal, (∀ x ∈ l, x.2 ≤ 100) → total l ≤ 100 * l.length := by
    intro l
    induction l with
    | nil => intro _; simp [total]
    | cons x r ih =>
      intro hx
      have h1 := ih (fun y hy => hx y (by simp [hy]))
      have h2 := hx x (by simp)
      simp only [total, List.map_cons, List.sum_cons, List.length_cons] at *
      omega
  have h1 := this l h.2
  have h2 := h.1
  omega
theorem squares_le {l : List Tal} (h : Small l) : squares l ≤ 1000000 := by
  have : ∀ l : List Tal, (∀ x ∈ l, x.2 ≤ 100) → squares l ≤ 10000 * l.length := by
    intro l
    induction l with
    | nil => intro _; simp [squares]
    | cons x r ih =>
      intro hx
      have h1 := ih (fun y hy => hx y (by simp [hy]))
      have h2 := hx x (by simp)
      have h3 : x.2 * x.2 ≤ 100 * 100 := Nat.mul_le_mul h2 h2
      simp only [squares, List.map_cons, List.sum_cons, List.length_cons] at *
      omega
  have h1 := this l h.2
  have h2 := h.1
  omega
theorem fit_nat {n e : Nat} (h : n < 10 ^ e) (he : 0 < e) : FitQ e ((n : Int) : Rat) := by
  refine ⟨by rw [int_rat_num, Int.natAbs_natCast]; exact h, ?_⟩
  rw [int_rat_den]
  exact Nat.one_lt_pow (by omega) (by decide)
theorem fit_8 {n : Nat} (h : n < 100000000) : FitQ 8 ((n : Int) : Rat) := fit_nat h (by decide)
theorem FitQ.up {e : Nat} {q : Rat} (h : FitQ e q) (he : e ≤ 400) : FitQ 400 q := h.mono he
theorem nat_add (a b : Nat) : ((a : Int) : Rat) + ((b : Int) : Rat) = (((a + b : Nat) : Int) : Rat) := by rw [Int.natCast_add, Rat.intCast_add]
theorem nat_mul (a b : Nat) : ((a : Int) : Rat) * ((b : Int) : Rat) = (((a * b : Nat) : Int) : Rat) := by rw [Int.natCast_mul, Rat.intCast_mul]

set_option maxRecDepth 100000 in
set_option maxHeartbeats 8000000 in
theorem ctotal_any (A : Option Addr) (l : List Tal) (c : Nat) (w : World) (hl : Small l) (hs : Sl w tTally A (tcells l)) (ht : Tab w) :
    Calls Tryz.prog 13 #[.slice A l.length c] w fun e w' => e = .returned (.string ⟨(ratText ((total l : Int) : Rat)).toArray⟩) ∧ Ext w w' := by
  have HS := Lib.hid hs
  have HL := Lib.hid hl
  have HT := Lib.hid ht
  have hlen := hl.1
  clear hs hl ht
  go_enter Tryz.func13, Tryz.ntmps13
  go_wp2_with fail
  refine (xzero_any w).mono ?_
  rintro e w1 ⟨v1, rfl, hv1, hx1⟩
  obtain ⟨b, A0, n, c0, b', A', n', c', rfl, H, H'⟩ := hv1.parts
  go_wp2_with fail
  refine box1 (P := fun W => Code.wp _ _ _ _ W) fun W HX HB => ?_
  have HX1 := Lib.hid (hx1.trans HX.out)
  have HV1 := Lib.hid (hv1.ext HX.out)
  have hg : w.heap.size ≤ w1.heap.size := hx1.size
  clear hx1 hv1 H H'
  go_loopw [5, 9] (fun _ v9 wr => ∃ (k : Nat) (b : Bool) (A0 : Option Addr) (n c0 : Nat) (b' : Bool) (A' : Option Addr) (n' c' : Nat), k ≤ l.length ∧ v9 = .int .i64 k ∧ Hid (Blk wr w1.heap.size tFrac [.bool b, .slice A0 n c0, .bool b', .slice A' n' c']) ∧ Hid (FracV wr (.agg #[.bool b, .slice A0 n c0, .bool b', .slice A' n' c']) ((total (l.take k) : Int) : Rat)) ∧ Hid (Ext w wr)) (fun _ v9 _ => l.length - (RowKit.intOf v9).toNat)
  case atStart => exact ⟨0, b, A0, n, c0, b', A', n', c', Nat.zero_le _, rfl, HB, HV1, HX1⟩
  case round =>
    obtain ⟨k, b, A0, n, c0, b', A', n', c', hk, rfl, HBS, HVS, HXS⟩ := hrel
    by_cases hkl : k < l.length
    · have hget := tcells_get hkl
      obtain ⟨g1, o1, rfl, _, hc1⟩ := (HS.out.ext HXS.out).at_ hget.1
      obtain ⟨g2, o2, e, _, hc2⟩ := (HS.out.ext HXS.out).at_ hget.2
      injection e with e
      injection e with e1 e2
      subst e1 e2
      have HF1 : Hid (FitQ 8 ((total (l.take k) : Int) : Rat)) := fit_8 (by have := total_le (HL.out.take k); omega)
      have HF2 : Hid (FitQ 8 ((l[k].2 : Int) : Rat)) := fit_8 (by have := HL.out.2 l[k] (by simp); omega)
      have HTK : Hid (((total (l.take k) : Int) : Rat) + ((l[k].2 : Int) : Rat) = ((total (l.take (k + 1)) : Int) : Rat)) := by rw [Hid, nat_add, List.take_succ_eq_append_getElem hkl, total_snoc]
      have RD := Lib.hid (fun w => xread_any ((l[k].2 : Int) : Rat) w (HF2.out.up (by decide)))
      generalize ((l[k].2 : Int) : Rat) = qk at *
      generalize ((total (l.take k) : Int) : Rat) = qs at *
      generalize hqn : ((total (l.take (k + 1)) : Int) : Rat) = qn at *
      have HQN := Lib.hid hqn
      clear hqn
      generalize ratText qk = tk at *
      generalize l[k].1 = cls at *
      rw [← Nat.add_assoc] at hc2
      clear hget
      go_wp2_with fail
      refine box1 (P := fun W => Code.wp _ _ _ _ W) fun W2 HX2 BX => ?_
      have BS2 := Lib.hid (HBS.out.ext HX2.out)
      have HXA := Lib.hid (HXS.out.trans HX2.out)
      have HVA := Lib.hid (HVS.out.ext HX2.out)
      obtain ⟨a0, a1, a2, a3⟩ := BS2.out.four
      obtain ⟨x0, x1⟩ := BX.out.two
      have hne : wr.heap.size ≠ w1.heap.size := by have := HBS.out.lt; omega
      clear hc1 hc2
      obtain ⟨S, hSd⟩ : ∃ S : World → Prop, S = fun w' => (w'.cell? ⟨w1.heap.size, 0, none⟩ = some (.bool b) ∧ w'.cell? ⟨w1.heap.size, 1, none⟩ = some (.slice A0 n c0) ∧ w'.cell? ⟨w1.heap.size, 2, none⟩ = some (.bool b') ∧ w'.cell? ⟨w1.heap.size, 3, none⟩ = some (.slice A' n' c')) ∧ w'.cell? ⟨wr.heap.size, 0, none⟩ = some (.string ⟨cls.toArray⟩) ∧ w'.cell? ⟨wr.heap.size, 1, none⟩ = some (.string ⟨tk.toArray⟩) := ⟨_, rfl⟩
      have HSD := Lib.hid hSd
      have HSI : Hid (∀ w', S w' → (w'.cell? ⟨w1.heap.size, 0, none⟩ = some (.bool b) ∧ w'.cell? ⟨w1.heap.size, 1, none⟩ = some (.slice A0 n c0) ∧ w'.cell? ⟨w1.heap.size, 2, none⟩ = some (.bool b') ∧ w'.cell? ⟨w1.heap.size, 3, none⟩ = some (.slice A' n' c')) ∧ w'.cell? ⟨wr.heap.size, 0, none⟩ = some (.string ⟨cls.toArray⟩) ∧ w'.cell? ⟨wr.heap.size, 1, none⟩ = some (.string ⟨tk.toArray⟩)) := by rw [Hid, hSd]; exact fun _ h => h
      have HS0 : Hid (S W2.drew) := by rw [Hid, hSd]; exact ⟨BS2.out.drew.four, BX.out.drew.two⟩
      clear hSd
      refine AnyT.start (S := S) (T := fun j => decide (5 ≤ j)) (by kernel_rfl) ?_
      refine AnyT.load 0 13 (.agg #[.bool b, .slice A0 n c0, .bool b', .slice A' n' c']) rfl (by kernel_rfl) (by kernel_rfl) (by kernel_rfl) (by kernel_rfl) (by kernel_rfl) (fun _ _ _ h => h) HS0.out ?_ ?_
      · intro o ho
        simp only [List.getElem?_toArray, List.getElem?_cons_zero, Option.some.injEq] at ho
        subst ho
        refine ⟨rfl, rfl, fun w' hSw => ?_⟩
        have hs := HSI.out w' hSw
        go_split_ands
        go_simp
      simp only [Act.put, List.setIfInBounds_toArray, List.set_cons_zero, List.set_cons_succ]
      refine AnyT.load 1 14 (.pointer (some ⟨wr.heap.size, 1, none⟩)) rfl (by kernel_rfl) (by kernel_rfl) (by kernel_rfl) (by kernel_rfl) (by kernel_rfl) (fun _ _ _ h => h) HS0.out ?_ ?_
      · intro o ho
        simp only [List.getElem?_toArray, List.getElem?_cons_succ, List.getElem?_cons_zero, Option.some.injEq] at ho
        subst ho
        refine ⟨rfl, rfl, fun w' hSw => ?_⟩
        have hs := HSI.out w' hSw
        go_split_ands
        go_simp
      simp only [Act.put, List.setIfInBounds_toArray, List.set_cons_zero, List.set_cons_succ]
      refine AnyT.load 2 15 (.string ⟨tk.toArray⟩) rfl (by kernel_rfl) (by kernel_rfl) (by kernel_rfl) (by kernel_rfl) (by kernel_rfl) (fun _ _ _ h => h) HS0.out ?_ ?_
      · intro o ho
        simp only [List.getElem?_toArray, List.getElem?_cons_succ, List.getElem?_cons_zero, Option.some.injEq] at ho
        subst ho
        refine ⟨rfl, rfl, fun w' hSw => ?_⟩
        have hs := HSI.out w' hSw
        go_split_ands
        go_simp
      simp only [Act.put, List.setIfInBounds_toArray, List.set_cons_zero, List.set_cons_succ]
      refine AnyT.step 3 (by kernel_rfl) ?_
      intro o ho K hK
      simp only [List.getElem?_toArray, List.getElem?_cons_succ, List.getElem?_cons_zero, Option.some.injEq] at ho
      subst ho
      go_simp
      refine (RD.out _).mono ?_
      rintro e w3 ⟨v3, rfl, hv3, hx3⟩
      have hy3 := (Ext.refl W2).drew.trans hx3
      have HS3 : Hid (S w3) := by rw [Hid, HSD.out]; exact ⟨(BS2.out.ext hy3).four, (BX.out.ext hy3).two⟩
      refine hK.out _ _ (fun _ => HS3.out) ?_
      refine AnyT.step 4 (by kernel_rfl) ?_
      intro o ho K hK
      simp only [List.getElem?_toArray, List.getElem?_cons_succ, List.getElem?_cons_zero, Option.some.injEq] at ho
      subst ho
      go_simp
      refine (fadd_any _ _ qs qk _ (HVA.out.ext hy3) hv3 HF1.out HF2.out (by decide)).mono ?_
      rintro e w4 ⟨v4, rfl, hv4, hx4⟩
      obtain ⟨r0, R0, r1, r2, s0, S0, s1, s2, rfl, _, _⟩ := hv4.parts
      have hy4 := hy3.trans hx4
      have HS4 : Hid (S w4) := by rw [Hid, HSD.out]; exact ⟨(BS2.out.ext hy4).four, (BX.out.ext hy4).two⟩
      refine hK.out _ _ (fun _ => HS4.out) ?_
      have BS4 := Lib.hid (BS2.out.ext hy4)
      obtain ⟨k0, k1, k2, k3⟩ := BS4.out.four
      obtain ⟨f0, f1, f2, f3⟩ := BS4.out.free4
      refine AnyT.step 5 (by kernel_rfl) ?_
      intro o ho K hK
      simp only [List.getElem?_toArray, List.getElem?_cons_succ, List.getElem?_cons_zero, Option.some.injEq] at ho
      subst ho
      go_simp
      refine hK.out _ _ (fun h => by cases h) ?_
      refine AnyT.done (by kernel_rfl) ?_
      rw [HTK.out] at hv4
      have HK4 := Lib.hid (BS4.out.kept4 (t := 100) (by decide) 0 1 2 3 (.bool r0) (.slice R0 r1 r2) (.bool s0) (.slice S0 s1 s2))
      have HV5 := Lib.hid (hv4.keep HK4.out)
      have BS5 := Lib.hid ((((BS4.out.set_ 0 (.bool r0)).set_ 1 (.slice R0 r1 r2)).set_ 2 (.bool s0)).set_ 3 (.slice S0 s1 s2))
      have HX5 := Lib.hid (((((HXA.out.trans hy4).setCell (p := ⟨w1.heap.size, 0, none⟩) hg (.bool r0)).setCell (p := ⟨w1.heap.size, 1, none⟩) hg (.slice R0 r1 r2)).setCell (p := ⟨w1.heap.size, 2, none⟩) hg (.bool s0)).setCell (p := ⟨w1.heap.size, 3, none⟩) hg (.slice S0 s1 s2))
      clear hv4 hx4 hy4 hy3 hx3 hv3 k0 k1 k2 k3 f0 f1 f2 f3
      go_wp2
      go_roundw
      case rel => exact ⟨k + 1, r0, R0, r1, r2, s0, S0, s1, s2, by omega, by go_num, BS5, by rw [Hid, HQN.out]; exact HV5.out, HX5⟩
      case measure => simp [RowKit.intOf]; omega
    · obtain rfl : k = l.length := by omega
      rw [List.take_of_length_le (Nat.le_refl _)] at HVS
      have HF1 : Hid (FitQ 400 ((total l : Int) : Rat)) := (fit_8 (by have := total_le HL.out; omega)).up (by decide)
      obtain ⟨k0, k1, k2, k3⟩ := HBS.out.four
      obtain ⟨q, hq⟩ : ∃ q : Rat, q = ((total l : Int) : Rat) := ⟨_, rfl⟩
      have HQ := Lib.hid hq
      rw [← hq] at HVS HF1
      clear hq
      go_wp2_with fail
      refine (xtext_any _ q wr HVS.out HF1.out (HT.out.ext HXS.out)).mono ?_
      rintro e w2 ⟨rfl, hx2⟩
      go_wp2
      go_ret
      exact ⟨by rw [← HQ.out]; rfl, HXS.out.trans hx2⟩
end Go.Proofs.YteagmfbaebmplaaGreatDoor
/- classtree: Impurity, over counts that are whole numbers. -/
namespace Go.Proofs.YteagmfbaebmplaaGreatDoor
open Go.RowKit Go.Lib

/-- the impurity of counts -/
def imp (l : List Tal) : Rat := ((total l : Int) : Rat) - ((squares l : Int) : Rat) / ((total l : Int) : Rat)
theorem imp_zero {l : List Tal} (h : total l = 0) : imp l = 0 := by
  unfold imp
  rw [h]
  have : ((( 0 : Nat) : Int) : Rat) = 0 := rfl
  rw [this, Rat.div_def, Rat.inv_zero, Rat.mul_zero, Rat.sub_eq_add_neg, Rat.zero_add, Rat.neg_zero]
theorem nat_num_pos {n : Nat} (h : 0 < n) : 0 < (((n : Int) : Rat)).num := by rw [int_rat_num]; omega
theorem imp_fit {l : List Tal} (h : Small l) (h0 : 0 < total l) : FitQ 25 (imp l) := by
  have h1 : FitQ 8 ((total l : Int) : Rat) := fit_8 (by have := total_le h; omega)
  have h2 : FitQ 8 ((squares l : Int) : Rat) := fit_8 (by have := squares_le h; omega)
  exact h1.sub (h2.div h1 (nat_num_pos h0))
/-- the cells of a box of four -/
def F4 (w' : World) (g : Nat) (a b c d : Value) : Prop := w'.cell? ⟨g, 0, none⟩ = some a ∧ w'.cell? ⟨g, 1, none⟩ = some b ∧ w'.cell? ⟨g, 2, none⟩ = some c ∧ w'.cell? ⟨g, 3, none⟩ = some d
set_option maxRecDepth 100000 in
set_option maxHeartbeats 8000000 in
theorem cimp_any (A : Option Addr) (l : List Tal) (c : Nat) (w : World) (hl : Small l) (hs : Sl w tTally A (tcells l)) (ht : Tab w) :
    Calls Tryz.prog 12 #[.slice A l.length c] w fun e w' => e = .returned (.string ⟨(ratText (imp l)).toArray⟩) ∧ Ext w w' := by
  have HS := Lib.hid hs
  have HL := Lib.hid hl
  have HT := Lib.hid ht
  have hlen := hl.1
  clear hs hl ht
  go_enter Tryz.func12, Tryz.ntmps12
  go_wp2_with fail
  refine (xzero_any w).mono ?_
  rintro e w0 ⟨v0, rfl, hv0, hx0⟩
  obtain ⟨a0, A0, a1, a2, b0, B0, b1, b2, rfl, _, _⟩ := hv0.parts
  go_wp2_with fail
  refine (xzero_any w0).mono ?_
  rintro e w1 ⟨v1, rfl, hv1, hx1⟩
  obtain ⟨c0, C0, c1, c2, d0, D0, d1, d2, rfl, _, _⟩ := hv1.parts
  go_wp2_with fail
  refine box2 (P := fun W => Code.wp _ _ _ _ W) fun W HX HBN HBQ => ?_
  have HX1 := Lib.hid (hx0.trans (hx1.trans HX.out))
  have HN1 := Lib.hid (hv0.ext (hx1.trans HX.out))
  have HQ1 := Lib.hid (hv1.ext HX.out)
  have hg : w.heap.size ≤ w1.heap.size := (hx0.trans hx1).size
  clear hx0 hx1 hv0 hv1
  go_loopw [6, 7, 12] (fun _ _ v12 wr => ∃ (k : Nat) (a0 : Bool) (A0 : Option Addr) (a1 a2 : Nat) (b0 : Bool) (B0 : Option Addr) (b1 b2 : Nat) (c0 : Bool) (C0 : Option Addr) (c1 c2 : Nat) (d0 : Bool) (D0 : Option Addr) (d1 d2 : Nat), k ≤ l.length ∧ v12 = .int .i64 k ∧ Hid (Blk wr w1.heap.size tFrac [.bool a0, .slice A0 a1 a2, .bool b0, .slice B0 b1 b2]) ∧ Hid (Blk wr (w1.heap.size + 1) tFrac [.bool c0, .slice C0 c1 c2, .bool d0, .slice D0 d1 d2]) ∧ Hid (FracV wr (.agg #[.bool a0, .slice A0 a1 a2, .bool b0, .slice B0 b1 b2]) ((total (l.take k) : Int) : Rat)) ∧ Hid (FracV wr (.agg #[.bool c0, .slice C0 c1 c2, .bool d0, .slice D0 d1 d2]) ((squares (l.take k) : Int) : Rat)) ∧ Hid (Ext w wr)) (fun _ _ v12 _ => l.length - (RowKit.intOf v12).toNat)
  case atStart => exact ⟨0, a0, A0, a1, a2, b0, B0, b1, b2, c0, C0, c1, c2, d0, D0, d1, d2, Nat.zero_le _, rfl, HBN, HBQ, HN1, HQ1, HX1⟩
  case round =>
    obtain ⟨k, a0, A0, a1, a2, b0, B0, b1, b2, c0, C0, c1, c2, d0, D0, d1, d2, hk, rfl, HBN, HBQ, HVN, HVQ, HXS⟩ := hrel
    by_cases hkl : k < l.length
    · have hget := tcells_get hkl
      obtain ⟨g1, o1, rfl, _, hc1⟩ := (HS.out.ext HXS.out).at_ hget.1
      obtain ⟨g2, o2, e, _, hc2⟩ := (HS.out.ext HXS.out).at_ hget.2
      injection e with e
      injection e with e1 e2
      subst e1 e2
      have HF1 : Hid (FitQ 8 ((total (l.take k) : Int) : Rat)) := fit_8 (by have := total_le (HL.out.take k); omega)
      have HF2 : Hid (FitQ 8 ((l[k].2 : Int) : Rat)) := fit_8 (by have := HL.out.2 l[k] (by simp); omega)
      have HF3 : Hid (FitQ 8 ((squares (l.take k) : Int) : Rat)) := fit_8 (by have := squares_le (HL.out.take k); omega)
      have HTK : Hid (((total (l.take k) : Int) : Rat) + ((l[k].2 : Int) : Rat) = ((total (l.take (k + 1)) : Int) : Rat)) := by rw [Hid, nat_add, List.take_succ_eq_append_getElem hkl, total_snoc]
      have HSK : Hid (((squares (l.take k) : Int) : Rat) + ((l[k].2 : Int) : Rat) * ((l[k].2 : Int) : Rat) = ((squares (l.take (k + 1)) : Int) : Rat)) := by rw [Hid, nat_mul, nat_add, List.take_succ_eq_append_getElem hkl, squares_snoc]
      have RD := Lib.hid (fun w => xread_any ((l[k].2 : Int) : Rat) w (HF2.out.up (by decide)))
      generalize ((l[k].2 : Int) : Rat) = qk at *
      generalize ((total (l.take k) : Int) : Rat) = qs at *
      generalize ((squares (l.take k) : Int) : Rat) = qq at *
      generalize ratText qk = tk at *
      generalize l[k].1 = cls at *
      rw [← Nat.add_assoc] at hc2
      clear hget
      go_upto_region 5 with fail
      refine box1 (P := fun W => Code.wp _ _ _ _ W) fun W2 HX2 BX => ?_
      obtain ⟨x0, x1⟩ := BX.out.two
      clear hc1 hc2
      go_wp2_with fail
      refine (RD.out W2).mono ?_
      rintro e w3 ⟨v3, rfl, hv3, hx3⟩
      obtain ⟨e0, E0, e1, e2, f0, F0, f1, f2, rfl, _, _⟩ := hv3.parts
      go_wp2_with fail
      refine box1 (P := fun W => Code.wp _ _ _ _ W) fun W4 HX4 BC => ?_
      have hy4 := HX2.out.trans (hx3.trans HX4.out)
      have BN4 := Lib.hid (HBN.out.ext hy4)
      have BQ4 := Lib.hid (HBQ.out.ext hy4)
      have HXA := Lib.hid (HXS.out.trans hy4)
      have HN4 := Lib.hid (HVN.out.ext hy4)
      have HQ4 := Lib.hid (HVQ.out.ext hy4)
      have HC4 := Lib.hid (hv3.ext HX4.out)
      clear hy4 hx3 hv3 x0 x1
      obtain ⟨S, hSd⟩ : ∃ S : World → Prop, S = fun w' => F4 w' w1.heap.size (.bool a0) (.slice A0 a1 a2) (.bool b0) (.slice B0 b1 b2) ∧ F4 w' (w1.heap.size + 1) (.bool c0) (.slice C0 c1 c2) (.bool d0) (.slice D0 d1 d2) ∧ F4 w' w3.heap.size (.bool e0) (.slice E0 e1 e2) (.bool f0) (.slice F0 f1 f2) := ⟨_, rfl⟩
      have HSD := Lib.hid hSd
      have HSI : Hid (∀ w', S w' → (w'.cell? ⟨w1.heap.size, 0, none⟩ = some (.bool a0) ∧ w'.cell? ⟨w1.heap.size, 1, none⟩ = some (.slice A0 a1 a2) ∧ w'.cell? ⟨w1.heap.size, 2, none⟩ = some (.bool b0) ∧ w'.cell? ⟨w1.heap.size, 3, none⟩ = some (.slice B0 b1 b2)) ∧ (w'.cell? ⟨w1.heap.size + 1, 0, none⟩ = some (.bool c0) ∧ w'.cell? ⟨w1.heap.size + 1, 1, none⟩ = some (.slice C0 c1 c2) ∧ w'.cell? ⟨w1.heap.size + 1, 2, none⟩ = some (.bool d0) ∧ w'.cell? ⟨w1.heap.size + 1, 3, none⟩ = some (.slice D0 d1 d2)) ∧ (w'.cell? ⟨w3.heap.size, 0, none⟩ = some (.bool e0) ∧ w'.cell? ⟨w3.heap.size, 1, none⟩ = some (.slice E0 e1 e2) ∧ w'.cell? ⟨w3.heap.size, 2, none⟩ = some (.bool f0) ∧ w'.cell? ⟨w3.heap.size, 3, none⟩ = some (.slice F0 f1 f2))) := by rw [Hid, hSd]; exact fun _ h => h
      have HSE : Hid (∀ w', Ext W4 w' → S w') := by rw [Hid, hSd]; exact fun w' h => ⟨(BN4.out.ext h).four, (BQ4.out.ext h).four, (BC.out.ext h).four⟩
      have HS0 : Hid (S W4.drew) := HSE.out _ (Ext.refl W4).drew
      clear hSd
      refine AnyT.start (S := S) (T := fun j => decide (8 ≤ j)) (by kernel_rfl) ?_
      refine AnyT.load 0 19 (.agg #[.bool a0, .slice A0 a1 a2, .bool b0, .slice B0 b1 b2]) rfl (by kernel_rfl) (by kernel_rfl) (by kernel_rfl) (by kernel_rfl) (by kernel_rfl) (fun _ _ _ h => h) HS0.out ?_ ?_
      · intro o ho
        simp only [List.getElem?_toArray, List.getElem?_cons_zero, Option.some.injEq] at ho
        subst ho
        refine ⟨rfl, rfl, fun w' hSw => ?_⟩
        have hs := HSI.out w' hSw
        go_split_ands
        go_simp
      simp only [Act.put, List.setIfInBounds_toArray, List.set_cons_zero, List.set_cons_succ]
      refine AnyT.load 1 20 (.agg #[.bool e0, .slice E0 e1 e2, .bool f0, .slice F0 f1 f2]) rfl (by kernel_rfl) (by kernel_rfl) (by kernel_rfl) (by kernel_rfl) (by kernel_rfl) (fun _ _ _ h => h) HS0.out ?_ ?_
      · intro o ho
        simp only [List.getElem?_toArray, List.getElem?_cons_succ, List.getElem?_cons_zero, Option.some.injEq] at ho
        subst ho
        refine ⟨rfl, rfl, fun w' hSw => ?_⟩
        have hs := HSI.out w' hSw
        go_split_ands
        go_simp
      simp only [Act.put, List.setIfInBounds_toArray, List.set_cons_zero, List.set_cons_succ]
      refine AnyT.load 3 22 (.agg #[.bool c0, .slice C0 c1 c2, .bool d0, .slice D0 d1 d2]) rfl (by kernel_rfl) (by kernel_rfl) (by kernel_rfl) (by kernel_rfl) (by kernel_rfl) (fun _ _ _ h => h) HS0.out ?_ ?_
      · intro o ho
        simp only [List.getElem?_toArray, List.getElem?_cons_succ, List.getElem?_cons_zero, Option.some.injEq] at ho
        subst ho
        refine ⟨rfl, rfl, fun w' hSw => ?_⟩
        have hs := HSI.out w' hSw
        go_split_ands
        go_simp
      simp only [Act.put, List.setIfInBounds_toArray, List.set_cons_zero, List.set_cons_succ]
      refine AnyT.load 4 23 (.agg #[.bool e0, .slice E0 e1 e2, .bool f0, .slice F0 f1 f2]) rfl (by kernel_rfl) (by kernel_rfl) (by kernel_rfl) (by kernel_rfl) (by kernel_rfl) (fun _ _ _ h => h) HS0.out ?_ ?_
      · intro o ho
        simp only [List.getElem?_toArray, List.getElem?_cons_succ, List.getElem?_cons_zero, Option.some.injEq] at ho
        subst ho
        refine ⟨rfl, rfl, fun w' hSw => ?_⟩
        have hs := HSI.out w' hSw
        go_split_ands
        go_simp
      simp only [Act.put, List.setIfInBounds_toArray, List.set_cons_zero, List.set_cons_succ]
      refine AnyT.load 5 24 (.agg #[.bool e0, .slice E0 e1 e2, .bool f0, .slice F0 f1 f2]) rfl (by kernel_rfl) (by kernel_rfl) (by kernel_rfl) (by kernel_rfl) (by kernel_rfl) (fun _ _ _ h => h) HS0.out ?_ ?_
      · intro o ho
        simp only [List.getElem?_toArray, List.getElem?_cons_succ, List.getElem?_cons_zero, Option.some.injEq] at ho
        subst ho
        refine ⟨rfl, rfl, fun w' hSw => ?_⟩
        have hs := HSI.out w' hSw
        go_split_ands
        go_simp
      simp only [Act.put, List.setIfInBounds_toArray, List.set_cons_zero, List.set_cons_succ]
      refine AnyT.step 2 (by kernel_rfl) ?_
      intro o ho K hK
      simp only [List.getElem?_toArray, List.getElem?_cons_succ, List.getElem?_cons_zero, Option.some.injEq] at ho
      subst ho
      go_simp
      refine (fadd_any _ _ qs qk _ (HN4.out.ext (Ext.refl _).drew) (HC4.out.ext (Ext.refl _).drew) HF1.out HF2.out (by decide)).mono ?_
      rintro e w5 ⟨v5, rfl, hv5, hx5⟩
      rw [HTK.out] at hv5
      obtain ⟨p0, P0, p1, p2, q0, Q0, q1, q2, rfl, _, _⟩ := hv5.parts
      have hy5 := (Ext.refl W4).drew.trans hx5
      refine hK.out _ _ (fun _ => HSE.out _ hy5) ?_
      refine AnyT.step 6 (by kernel_rfl) ?_
      intro o ho K hK
      simp only [List.getElem?_toArray, List.getElem?_cons_succ, List.getElem?_cons_zero, Option.some.injEq] at ho
      subst ho
      go_simp
      refine (fmul_any _ _ qk qk _ (HC4.out.ext hy5) (HC4.out.ext hy5) HF2.out HF2.out (by decide)).mono ?_
      rintro e w6 ⟨v6, rfl, hv6, hx6⟩
      have hy6 := hy5.trans hx6
      refine hK.out _ _ (fun _ => HSE.out _ hy6) ?_
      refine AnyT.step 7 (by kernel_rfl) ?_
      intro o ho K hK
      simp only [List.getElem?_toArray, List.getElem?_cons_succ, List.getElem?_cons_zero, Option.some.injEq] at ho
      subst ho
      go_simp
      refine (fadd_any _ _ qq (qk * qk) _ (HQ4.out.ext hy6) hv6 HF3.out (HF2.out.mul HF2.out) (by decide)).mono ?_
      rintro e w7 ⟨v7, rfl, hv7, hx7⟩
      rw [HSK.out] at hv7
      obtain ⟨r0, R0, r1, r2, s0, S0, s1, s2, rfl, _, _⟩ := hv7.parts
      have hy7 := hy6.trans hx7
      refine hK.out _ _ (fun _ => HSE.out _ hy7) ?_
      have BN7 := Lib.hid (BN4.out.ext hy7)
      have BQ7 := Lib.hid (BQ4.out.ext hy7)
      obtain ⟨k0, k1, k2, k3⟩ := BN7.out.four
      obtain ⟨f0', f1', f2', f3'⟩ := BN7.out.free4
      refine AnyT.step 8 (by kernel_rfl) ?_
      intro o ho K hK
      simp only [List.getElem?_toArray, List.getElem?_cons_succ, List.getElem?_cons_zero, Option.some.injEq] at ho
      subst ho
      go_simp
      refine hK.out _ _ (fun h => by cases h) ?_
      have BN8 := Lib.hid ((((BN7.out.set_ 0 (.bool p0)).set_ 1 (.slice P0 p1 p2)).set_ 2 (.bool q0)).set_ 3 (.slice Q0 q1 q2))
      have BQ8 := Lib.hid (BQ7.out.past4 (k := w1.heap.size) (by omega) (.bool p0) (.slice P0 p1 p2) (.bool q0) (.slice Q0 q1 q2))
      have HK8 := Lib.hid (BN7.out.kept4 (t := 100) (by decide) 0 1 2 3 (.bool p0) (.slice P0 p1 p2) (.bool q0) (.slice Q0 q1 q2))
      have HV8 := Lib.hid ((hv5.ext (hx6.trans hx7)).keep HK8.out)
      have HW8 := Lib.hid (hv7.keep HK8.out)
      have HX8 := Lib.hid (((((HXA.out.trans hy7).setCell (p := ⟨w1.heap.size, 0, none⟩) hg (.bool p0)).setCell (p := ⟨w1.heap.size, 1, none⟩) hg (.slice P0 p1 p2)).setCell (p := ⟨w1.heap.size, 2, none⟩) hg (.bool q0)).setCell (p := ⟨w1.heap.size, 3, none⟩) hg (.slice Q0 q1 q2))
      clear k0 k1 k2 k3 f0' f1' f2' f3' hv5 hx5 hy5 hv6 hx6 hy6 hv7 hx7 hy7 HK8
      obtain ⟨W8, hW8⟩ : ∃ W8 : World, (((w7.setCell ⟨w1.heap.size, 0, none⟩ (.bool p0)).setCell ⟨w1.heap.size, 1, none⟩ (.slice P0 p1 p2)).setCell ⟨w1.heap.size, 2, none⟩ (.bool q0)).setCell ⟨w1.heap.size, 3, none⟩ (.slice Q0 q1 q2) = W8 := ⟨_, rfl⟩
      rw [hW8] at BN8 BQ8 HV8 HW8 HX8 ⊢
      clear hW8
      obtain ⟨k0, k1, k2, k3⟩ := BQ8.out.four
      obtain ⟨f0', f1', f2', f3'⟩ := BQ8.out.free4
      refine AnyT.step 9 (by kernel_rfl) ?_
      intro o ho K hK
      simp only [List.getElem?_toArray, List.getElem?_cons_succ, List.getElem?_cons_zero, Option.some.injEq] at ho
      subst ho
      go_simp
      refine hK.out _ _ (fun h => by cases h) ?_
      refine AnyT.done (by kernel_rfl) ?_
      have HK9 := Lib.hid (BQ8.out.kept4 (t := 100) (by decide) 0 1 2 3 (.bool r0) (.slice R0 r1 r2) (.bool s0) (.slice S0 s1 s2))
      have HV9 := Lib.hid (HV8.out.keep HK9.out)
      have HW9 := Lib.hid (HW8.out.keep HK9.out)
      have BN9 := Lib.hid (BN8.out.past4 (k := w1.heap.size + 1) (by omega) (.bool r0) (.slice R0 r1 r2) (.bool s0) (.slice S0 s1 s2))
      have BQ9 := Lib.hid ((((BQ8.out.set_ 0 (.bool r0)).set_ 1 (.slice R0 r1 r2)).set_ 2 (.bool s0)).set_ 3 (.slice S0 s1 s2))
      have HX9 := Lib.hid ((((HX8.out.setCell (p := ⟨w1.heap.size + 1, 0, none⟩) (Nat.le_succ_of_le hg) (.bool r0)).setCell (p := ⟨w1.heap.size + 1, 1, none⟩) (Nat.le_succ_of_le hg) (.slice R0 r1 r2)).setCell (p := ⟨w1.heap.size + 1, 2, none⟩) (Nat.le_succ_of_le hg) (.bool s0)).setCell (p := ⟨w1.heap.size + 1, 3, none⟩) (Nat.le_succ_of_le hg) (.slice S0 s1 s2))
      clear k0 k1 k2 k3 f0' f1' f2' f3'
      go_wp2
      go_roundw
      case rel => exact ⟨k + 1, p0, P0, p1, p2, q0, Q0, q1, q2, r0, R0, r1, r2, s0, S0, s1, s2, by omega, by go_num, BN9, BQ9, HV9, HW9, HX9⟩
      case measure => simp [RowKit.intOf]; omega
    · obtain rfl : k = l.length := by omega
      rw [List.take_of_length_le (Nat.le_refl _)] at HVN HVQ
      have HF1 : Hid (FitQ 8 ((total l : Int) : Rat)) := fit_8 (by have := total_le HL.out; omega)
      have HF2 : Hid (FitQ 8 ((squares l : Int) : Rat)) := fit_8 (by have := squares_le HL.out; omega)
      obtain ⟨k0, k1, k2, k3⟩ := HBN.out.four
      obtain ⟨j0, j1, j2, j3⟩ := HBQ.out.four
      have HSG : Hid ((((total l : Int) : Rat)).num.sign = if total l = 0 then 0 else 1) := by
        rw [Hid, int_rat_num]
        split
        · next h => rw [h]; rfl
        · next h => exact Int.sign_eq_one_of_pos (by omega)
      have HP : Hid (0 < total l → 0 < ((((total l : Int) : Rat)).num)) := fun h => nat_num_pos h
      have HI : Hid (imp l = ((total l : Int) : Rat) - ((squares l : Int) : Rat) / ((total l : Int) : Rat)) := rfl
      have HIF : Hid (0 < total l → FitQ 400 (imp l)) := fun h => (imp_fit HL.out h).up (by decide)
      generalize ((total l : Int) : Rat) = qs at *
      generalize ((squares l : Int) : Rat) = qq at *
      go_upto_region 8 with fail
      go_wp2_with fail
      refine (fsign_any _ qs wr HVN.out HF1.out (by decide)).mono ?_
      rintro e w2 ⟨rfl, hx2⟩
      rw [HSG.out]
      by_cases hz : total l = 0
      · rw [if_pos hz]
        go_wp2
        go_ret
        exact ⟨by rw [imp_zero hz, ratText_zero.2 rfl]; rfl, HXS.out.trans hx2⟩
      · rw [if_neg hz]
        have hz' : 0 < total l := by omega
        have HX2 := Lib.hid (HXS.out.trans hx2)
        have HN2 := Lib.hid (HVN.out.ext hx2)
        have HQ2 := Lib.hid (HVQ.out.ext hx2)
        have BN2 := Lib.hid (HBN.out.ext hx2)
        have BQ2 := Lib.hid (HBQ.out.ext hx2)
        have HFI := Lib.hid (HIF.out hz')
        have HPP := Lib.hid (HP.out hz')
        have HFD := Lib.hid (HF2.out.div HF1.out HPP.out)
        rw [HI.out] at HFI
        clear hx2 HIF HP HSG hz hz' k0 k1 k2 k3 j0 j1 j2 j3 HXS HVN HVQ
        go_wp2_with fail
        obtain ⟨S, hSd⟩ : ∃ S : World → Prop, S = fun w' => F4 w' w1.heap.size (.bool a0) (.slice A0 a1 a2) (.bool b0) (.slice B0 b1 b2) ∧ F4 w' (w1.heap.size + 1) (.bool c0) (.slice C0 c1 c2) (.bool d0) (.slice D0 d1 d2) := ⟨_, rfl⟩
        have HSI : Hid (∀ w', S w' → (w'.cell? ⟨w1.heap.size, 0, none⟩ = some (.bool a0) ∧ w'.cell? ⟨w1.heap.size, 1, none⟩ = some (.slice A0 a1 a2) ∧ w'.cell? ⟨w1.heap.size, 2, none⟩ = some (.bool b0) ∧ w'.cell? ⟨w1.heap.size, 3, none⟩ = some (.slice B0 b1 b2)) ∧ (w'.cell? ⟨w1.heap.size + 1, 0, none⟩ = some (.bool c0) ∧ w'.cell? ⟨w1.heap.size + 1, 1, none⟩ = some (.slice C0 c1 c2) ∧ w'.cell? ⟨w1.heap.size + 1, 2, none⟩ = some (.bool d0) ∧ w'.cell? ⟨w1.heap.size + 1, 3, none⟩ = some (.slice D0 d1 d2))) := by rw [Hid, hSd]; exact fun _ h => h
        have HSE : Hid (∀ w', Ext w2 w' → S w') := by rw [Hid, hSd]; exact fun w' h => ⟨(BN2.out.ext h).four, (BQ2.out.ext h).four⟩
        have HS0 : Hid (S w2.drew) := HSE.out _ (Ext.refl w2).drew
        clear hSd
        refine AnyT.start (S := S) (T := fun j => decide (7 ≤ j)) (by kernel_rfl) ?_
        refine AnyT.load 0 31 (.agg #[.bool a0, .slice A0 a1 a2, .bool b0, .slice B0 b1 b2]) rfl (by kernel_rfl) (by kernel_rfl) (by kernel_rfl) (by kernel_rfl) (by kernel_rfl) (fun _ _ _ h => h) HS0.out ?_ ?_
        · intro o ho
          simp only [List.getElem?_toArray, List.getElem?_cons_zero, Option.some.injEq] at ho
          subst ho
          refine ⟨rfl, rfl, fun w' hSw => ?_⟩
          have hs := HSI.out w' hSw
          go_split_ands
          go_simp
        simp only [Act.put, List.setIfInBounds_toArray, List.set_cons_zero, List.set_cons_succ]
        refine AnyT.load 1 32 (.agg #[.bool c0, .slice C0 c1 c2, .bool d0, .slice D0 d1 d2]) rfl (by kernel_rfl) (by kernel_rfl) (by kernel_rfl) (by kernel_rfl) (by kernel_rfl) (fun _ _ _ h => h) HS0.out ?_ ?_
        · intro o ho
          simp only [List.getElem?_toArray, List.getElem?_cons_succ, List.getElem?_cons_zero, Option.some.injEq] at ho
          subst ho
          refine ⟨rfl, rfl, fun w' hSw => ?_⟩
          have hs := HSI.out w' hSw
          go_split_ands
          go_simp
        simp only [Act.put, List.setIfInBounds_toArray, List.set_cons_zero, List.set_cons_succ]
        refine AnyT.load 2 33 (.agg #[.bool a0, .slice A0 a1 a2, .bool b0, .slice B0 b1 b2]) rfl (by kernel_rfl) (by kernel_rfl) (by kernel_rfl) (by kernel_rfl) (by kernel_rfl) (fun _ _ _ h => h) HS0.out ?_ ?_
        · intro o ho
          simp only [List.getElem?_toArray, List.getElem?_cons_succ, List.getElem?_cons_zero, Option.some.injEq] at ho
          subst ho
          refine ⟨rfl, rfl, fun w' hSw => ?_⟩
          have hs := HSI.out w' hSw
          go_split_ands
          go_simp
        simp only [Act.put, List.setIfInBounds_toArray, List.set_cons_zero, List.set_cons_succ]
        refine AnyT.step 3 (by kernel_rfl) ?_
        intro o ho K hK
        simp only [List.getElem?_toArray, List.getElem?_cons_succ, List.getElem?_cons_zero, Option.some.injEq] at ho
        subst ho
        go_simp
        refine (fdiv_any _ _ qq qs _ (HQ2.out.ext (Ext.refl _).drew) (HN2.out.ext (Ext.refl _).drew) HF2.out HF1.out (by decide) HPP.out).mono ?_
        rintro e w3 ⟨v3, rfl, hv3, hx3⟩
        have hy3 := (Ext.refl w2).drew.trans hx3
        refine hK.out _ _ (fun _ => HSE.out _ hy3) ?_
        refine AnyT.step 4 (by kernel_rfl) ?_
        intro o ho K hK
        simp only [List.getElem?_toArray, List.getElem?_cons_succ, List.getElem?_cons_zero, Option.some.injEq] at ho
        subst ho
        go_simp
        refine (fsub_any _ _ qs (qq / qs) _ (HN2.out.ext hy3) hv3 HF1.out HFD.out (by decide)).mono ?_
        rintro e w4 ⟨v4, rfl, hv4, hx4⟩
        have hy4 := hy3.trans hx4
        refine hK.out _ _ (fun _ => HSE.out _ hy4) ?_
        refine AnyT.step 5 (by kernel_rfl) ?_
        intro o ho K hK
        simp only [List.getElem?_toArray, List.getElem?_cons_succ, List.getElem?_cons_zero, Option.some.injEq] at ho
        subst ho
        go_simp
        refine (xtext_any _ (qs - qq / qs) _ hv4 HFI.out (HT.out.ext (HX2.out.trans hy4))).mono ?_
        rintro e w5 ⟨rfl, hx5⟩
        have hy5 := hy4.trans hx5
        refine hK.out _ _ (fun _ => HSE.out _ hy5) ?_
        refine AnyT.step 6 (by kernel_rfl) ?_
        intro o ho K hK
        simp only [List.getElem?_toArray, List.getElem?_cons_succ, List.getElem?_cons_zero, Option.some.injEq] at ho
        subst ho
        go_simp
        refine hK.out _ _ (fun _ => HSE.out _ hy5) ?_
        refine AnyT.done (by kernel_rfl) ?_
        have HXX := Lib.hid (HX2.out.trans hy5)
        go_wp2
        go_ret
        exact ⟨by rw [HI.out]; rfl, HXX.out⟩
end Go.Proofs.YteagmfbaebmplaaGreatDoor
/- classtree: Major, over counts that are whole numbers. -/
namespace Go.Proofs.YteagmfbaebmplaaGreatDoor
open Go.RowKit Go.Lib

/-- the first of the greatest -/
def major : List Tal → Tal
  | [] => ([], 0)
  | x :: r => r.foldl (fun b y => if b.2 < y.2 then y else b) x
theorem major_snoc (l : List Tal) (x : Tal) : major (l ++ [x]) = if l.length = 0 ∨ (major l).2 < x.2 then x else major l := by
  cases l with
  | nil => simp [major]
  | cons y r => simp [major, List.foldl_append]
theorem major_mem {l : List Tal} (h : l ≠ []) : major l ∈ l := by
  cases l with
  | nil => exact absurd rfl h
  | cons x r =>
    clear h
    show r.foldl (fun b y => if b.2 < y.2 then y else b) x ∈ x :: r
    induction r generalizing x with
    | nil => simp
    | cons y r ih =>
      rw [List.foldl_cons]
      split
      · have := ih y
        rcases List.mem_cons.1 this with h | h
        · rw [h]; simp
        · simp [h]
      · have := ih x
        rcases List.mem_cons.1 this with h | h
        · rw [h]; simp
        · simp [h]
theorem major_le {l : List Tal} (h : Small l) : (major l).2 ≤ 100 := by
  by_cases hl : l = []
  · subst hl; simp [major]
  · exact h.2 _ (major_mem hl)
theorem cmp_nat (a b : Nat) : cmpQ ((a : Int) : Rat) ((b : Int) : Rat) = ((a : Int) - b).sign := by
  unfold cmpQ
  rw [int_rat_num, int_rat_num, int_rat_den, int_rat_den]
  simp
set_option maxRecDepth 100000 in
set_option maxHeartbeats 8000000 in
theorem cmajor_any (A : Option Addr) (l : List Tal) (c : Nat) (w : World) (hl : Small l) (hs : Sl w tTally A (tcells l)) :
    Calls Tryz.prog 14 #[.slice A l.length c] w fun e w' => e = .returned (.string ⟨(major l).1.toArray⟩) ∧ Ext w w' := by
  have HS := Lib.hid hs
  have HL := Lib.hid hl
  have hlen := hl.1
  clear hs hl
  go_enter Tryz.func14, Tryz.ntmps14
  go_wp2_with fail
  refine (xzero_any w).mono ?_
  rintro e w1 ⟨v1, rfl, hv1, hx1⟩
  obtain ⟨a0, A0, a1, a2, b0, B0, b1, b2, rfl, _, _⟩ := hv1.parts
  go_wp2_with fail
  refine box1 (P := fun W => Code.wp _ _ _ _ W) fun W HX HB => ?_
  have HX1 := Lib.hid (hx1.trans HX.out)
  have HV1 := Lib.hid (hv1.ext HX.out)
  have hg : w.heap.size ≤ w1.heap.size := hx1.size
  clear hx1 hv1
  go_loopw [3, 5, 6, 7, 11] (fun v3 _ _ _ v11 wr => ∃ (k : Nat) (a0 : Bool) (A0 : Option Addr) (a1 a2 : Nat) (b0 : Bool) (B0 : Option Addr) (b1 b2 : Nat), k ≤ l.length ∧ v11 = .int .i64 k ∧ v3 = .string ⟨(major (l.take k)).1.toArray⟩ ∧ Hid (Blk wr w1.heap.size tFrac [.bool a0, .slice A0 a1 a2, .bool b0, .slice B0 b1 b2]) ∧ Hid (FracV wr (.agg #[.bool a0, .slice A0 a1 a2, .bool b0, .slice B0 b1 b2]) (((major (l.take k)).2 : Int) : Rat)) ∧ Hid (Ext w wr)) (fun _ _ _ _ v11 _ => l.length - (RowKit.intOf v11).toNat)
  case atStart => exact ⟨0, a0, A0, a1, a2, b0, B0, b1, b2, Nat.zero_le _, rfl, rfl, HB, HV1, HX1⟩
  case round =>
    obtain ⟨k, a0, A0, a1, a2, b0, B0, b1, b2, hk, rfl, rfl, HBN, HVN, HXS⟩ := hrel
    by_cases hkl : k < l.length
    · have hget := tcells_get hkl
      obtain ⟨g1, o1, rfl, _, hc1⟩ := (HS.out.ext HXS.out).at_ hget.1
      obtain ⟨g2, o2, e, _, hc2⟩ := (HS.out.ext HXS.out).at_ hget.2
      injection e with e
      injection e with e1 e2
      subst e1 e2
      have HF1 : Hid (FitQ 8 (((major (l.take k)).2 : Int) : Rat)) := fit_8 (by have := major_le (HL.out.take k); omega)
      have HF2 : Hid (FitQ 8 ((l[k].2 : Int) : Rat)) := fit_8 (by have := HL.out.2 l[k] (by simp); omega)
      have HMK : Hid (major (l.take (k + 1)) = if k = 0 ∨ (major (l.take k)).2 < l[k].2 then l[k] else major (l.take k)) := by
        rw [Hid, List.take_succ_eq_append_getElem hkl, major_snoc, List.length_take, Nat.min_eq_left (by omega)]
      have HCM : Hid (cmpQ ((l[k].2 : Int) : Rat) (((major (l.take k)).2 : Int) : Rat) = ((l[k].2 : Int) - ((major (l.take k)).2 : Int)).sign) := cmp_nat _ _
      have RD := Lib.hid (fun w => xread_any ((l[k].2 : Int) : Rat) w (HF2.out.up (by decide)))
      generalize hm : major (l.take k) = m at *
      clear hm
      obtain ⟨mc, mn⟩ := m
      generalize hx : l[k] = x at *
      clear hx
      obtain ⟨xc, xn⟩ := x
      simp only at HF1 HF2 HMK HCM RD HVN hc1 hc2
      obtain ⟨qk, hqk⟩ : ∃ q : Rat, ((xn : Int) : Rat) = q := ⟨_, rfl⟩
      obtain ⟨qm, hqm⟩ : ∃ q : Rat, ((mn : Int) : Rat) = q := ⟨_, rfl⟩
      rw [hqk] at HF2 RD HCM hc2
      rw [hqm] at HF1 HCM HVN
      have HQK := Lib.hid hqk
      have HQM := Lib.hid hqm
      clear hqk hqm
      rw [← Nat.add_assoc] at hc2
      clear hget
      go_upto_region 5 with fail
      refine box1 (P := fun W => Code.wp _ _ _ _ W) fun W2 HX2 BX => ?_
      obtain ⟨x0, x1⟩ := BX.out.two
      clear hc1 hc2
      go_wp2_with fail
      refine (RD.out W2).mono ?_
      rintro e w3 ⟨v3, rfl, hv3, hx3⟩
      obtain ⟨e0, E0, e1, e2, f0, F0, f1, f2, rfl, _, _⟩ := hv3.parts
      go_upto_region 6 with fail
      refine box1 (P := fun W => Code.wp _ _ _ _ W) fun W4 HX4 BC => ?_
      have hy4 := HX2.out.trans (hx3.trans HX4.out)
      have BN4 := Lib.hid (HBN.out.ext hy4)
      have BX4 := Lib.hid (BX.out.ext (hx3.trans HX4.out))
      have HXA := Lib.hid (HXS.out.trans hy4)
      have HN4 := Lib.hid (HVN.out.ext hy4)
      have HC4 := Lib.hid (hv3.ext HX4.out)
      have hne1 : w1.heap.size < wr.heap.size := HBN.out.lt
      have hne2 : w1.heap.size < w3.heap.size := by have := HX2.out.size; have := hx3.size; omega
      clear hy4 hx3 hv3 x0 x1 BX HX2 HX4
      obtain ⟨k0, k1, k2, k3⟩ := BN4.out.four
      obtain ⟨j0, j1, j2, j3⟩ := BC.out.four
      by_cases hk0 : k = 0
      · subst hk0
        have HMT := Lib.hid (HMK.out.trans (if_pos (Or.inl rfl)))
        go_upto_region 7 with fail
        obtain ⟨S, hSd⟩ : ∃ S : World → Prop, S = fun w' => F4 w' w3.heap.size (.bool e0) (.slice E0 e1 e2) (.bool f0) (.slice F0 f1 f2) ∧ w'.cell? ⟨wr.heap.size, 0, none⟩ = some (.string ⟨xc.toArray⟩) := ⟨_, rfl⟩
        have HSI : Hid (∀ w', S w' → (w'.cell? ⟨w3.heap.size, 0, none⟩ = some (.bool e0) ∧ w'.cell? ⟨w3.heap.size, 1, none⟩ = some (.slice E0 e1 e2) ∧ w'.cell? ⟨w3.heap.size, 2, none⟩ = some (.bool f0) ∧ w'.cell? ⟨w3.heap.size, 3, none⟩ = some (.slice F0 f1 f2)) ∧ w'.cell? ⟨wr.heap.size, 0, none⟩ = some (.string ⟨xc.toArray⟩)) := by rw [Hid, hSd]; exact fun _ h => h
        have HSE : Hid (∀ w', Ext W4 w' → S w') := by rw [Hid, hSd]; exact fun w' h => ⟨(BC.out.ext h).four, (BX4.out.ext h).two.1⟩
        have HS0 : Hid (S W4.drew) := HSE.out _ (Ext.refl W4).drew
        clear hSd
        have BN5 := Lib.hid (BN4.out.ext (Ext.refl W4).drew)
        have HC5 := Lib.hid (HC4.out.ext (Ext.refl W4).drew)
        have HX5 := Lib.hid (HXA.out.trans (Ext.refl W4).drew)
        refine AnyT.start (S := S) (T := fun j => decide (4 ≤ j)) (by kernel_rfl) ?_
        refine AnyT.load 0 27 (.pointer (some ⟨wr.heap.size, 0, none⟩)) rfl (by kernel_rfl) (by kernel_rfl) (by kernel_rfl) (by kernel_rfl) (by kernel_rfl) (fun _ _ _ h => h) HS0.out ?_ ?_
        · intro o ho
          simp only [List.getElem?_toArray, List.getElem?_cons_zero, Option.some.injEq] at ho
          subst ho
          refine ⟨rfl, rfl, fun w' hSw => ?_⟩
          have hs := HSI.out w' hSw
          go_split_ands
          go_simp
        simp only [Act.put, List.setIfInBounds_toArray, List.set_cons_zero, List.set_cons_succ]
        refine AnyT.load 1 28 (.string ⟨xc.toArray⟩) rfl (by kernel_rfl) (by kernel_rfl) (by kernel_rfl) (by kernel_rfl) (by kernel_rfl) (fun _ _ _ h => h) HS0.out ?_ ?_
        · intro o ho
          simp only [List.getElem?_toArray, List.getElem?_cons_succ, List.getElem?_cons_zero, Option.some.injEq] at ho
          subst ho
          refine ⟨rfl, rfl, fun w' hSw => ?_⟩
          have hs := HSI.out w' hSw
          go_split_ands
          go_simp
        simp only [Act.put, List.setIfInBounds_toArray, List.set_cons_zero, List.set_cons_succ]
        refine AnyT.load 2 29 (.agg #[.bool e0, .slice E0 e1 e2, .bool f0, .slice F0 f1 f2]) rfl (by kernel_rfl) (by kernel_rfl) (by kernel_rfl) (by kernel_rfl) (by kernel_rfl) (fun _ _ _ h => h) HS0.out ?_ ?_
        · intro o ho
          simp only [List.getElem?_toArray, List.getElem?_cons_succ, List.getElem?_cons_zero, Option.some.injEq] at ho
          subst ho
          refine ⟨rfl, rfl, fun w' hSw => ?_⟩
          have hs := HSI.out w' hSw
          go_split_ands
          go_simp
        simp only [Act.put, List.setIfInBounds_toArray, List.set_cons_zero, List.set_cons_succ]
        refine AnyT.step 3 (by kernel_rfl) ?_
        intro o ho K hK
        simp only [List.getElem?_toArray, List.getElem?_cons_succ, List.getElem?_cons_zero, Option.some.injEq] at ho
        subst ho
        go_simp
        refine hK.out _ _ (fun _ => HS0.out) ?_
        obtain ⟨W5, hW5⟩ : ∃ W5 : World, W4.drew = W5 := ⟨_, rfl⟩
        rw [hW5] at BN5 HC5 HX5 ⊢
        clear hW5
        obtain ⟨k0, k1, k2, k3⟩ := BN5.out.four
        obtain ⟨f0', f1', f2', f3'⟩ := BN5.out.free4
        refine AnyT.step 4 (by kernel_rfl) ?_
        intro o ho K hK
        simp only [List.getElem?_toArray, List.getElem?_cons_succ, List.getElem?_cons_zero, Option.some.injEq] at ho
        subst ho
        go_simp
        refine hK.out _ _ (fun h => by cases h) ?_
        refine AnyT.done (by kernel_rfl) ?_
        have HK9 := Lib.hid (BN5.out.kept4 (t := 100) (by decide) 0 1 2 3 (.bool e0) (.slice E0 e1 e2) (.bool f0) (.slice F0 f1 f2))
        have HV9 := Lib.hid (HC5.out.keep HK9.out)
        have BN9 := Lib.hid ((((BN5.out.set_ 0 (.bool e0)).set_ 1 (.slice E0 e1 e2)).set_ 2 (.bool f0)).set_ 3 (.slice F0 f1 f2))
        have HX9 := Lib.hid ((((HX5.out.setCell (p := ⟨w1.heap.size, 0, none⟩) hg (.bool e0)).setCell (p := ⟨w1.heap.size, 1, none⟩) hg (.slice E0 e1 e2)).setCell (p := ⟨w1.heap.size, 2, none⟩) hg (.bool f0)).setCell (p := ⟨w1.heap.size, 3, none⟩) hg (.slice F0 f1 f2))
        clear k0 k1 k2 k3 f0' f1' f2' f3'
        go_wp2
        go_roundw
        case rel => exact ⟨_, e0, E0, e1, e2, f0, F0, f1, f2, hkl, by go_num, by rw [HMT.out], BN9, by rw [HMT.out, Hid, HQK.out]; exact HV9.out, HX9⟩
        case measure => simp [RowKit.intOf]; omega
      · have hkd : ((k : Int) == 0) = false := by simpa using hk0
        go_wp2_with fail
        refine (fcompare_any _ _ qk qm _ HC4.out HN4.out HF2.out HF1.out (by decide)).mono ?_
        rintro e w5 ⟨rfl, hx5⟩
        rw [HCM.out]
        have BNQ := Lib.hid (BN4.out.ext hx5)
        have BXQ := Lib.hid (BX4.out.ext hx5)
        have BCQ := Lib.hid (BC.out.ext hx5)
        have HCQ := Lib.hid (HC4.out.ext hx5)
        have HNQ := Lib.hid (HN4.out.ext hx5)
        have HXQ := Lib.hid (HXA.out.trans hx5)
        clear hx5 k0 k1 k2 k3 j0 j1 j2 j3
        by_cases hm : mn < xn
        · have HMT := Lib.hid (HMK.out.trans (if_pos (Or.inr hm)))
          have hsg : ((xn : Int) - (mn : Int)).sign = 1 := Int.sign_eq_one_of_pos (by omega)
          rw [hsg]
          go_upto_region 7 with fail
          obtain ⟨S, hSd⟩ : ∃ S : World → Prop, S = fun w' => F4 w' w3.heap.size (.bool e0) (.slice E0 e1 e2) (.bool f0) (.slice F0 f1 f2) ∧ w'.cell? ⟨wr.heap.size, 0, none⟩ = some (.string ⟨xc.toArray⟩) := ⟨_, rfl⟩
          have HSI : Hid (∀ w', S w' → (w'.cell? ⟨w3.heap.size, 0, none⟩ = some (.bool e0) ∧ w'.cell? ⟨w3.heap.size, 1, none⟩ = some (.slice E0 e1 e2) ∧ w'.cell? ⟨w3.heap.size, 2, none⟩ = some (.bool f0) ∧ w'.cell? ⟨w3.heap.size, 3, none⟩ = some (.slice F0 f1 f2)) ∧ w'.cell? ⟨wr.heap.size, 0, none⟩ = some (.string ⟨xc.toArray⟩)) := by rw [Hid, hSd]; exact fun _ h => h
          have HSE : Hid (∀ w', Ext w5 w' → S w') := by rw [Hid, hSd]; exact fun w' h => ⟨(BCQ.out.ext h).four, (BXQ.out.ext h).two.1⟩
          have HS0 : Hid (S w5.drew) := HSE.out _ (Ext.refl w5).drew
          clear hSd
          have BN5 := Lib.hid (BNQ.out.ext (Ext.refl w5).drew)
          have HC5 := Lib.hid (HCQ.out.ext (Ext.refl w5).drew)
          have HX5 := Lib.hid (HXQ.out.trans (Ext.refl w5).drew)
          refine AnyT.start (S := S) (T := fun j => decide (4 ≤ j)) (by kernel_rfl) ?_
          refine AnyT.load 0 27 (.pointer (some ⟨wr.heap.size, 0, none⟩)) rfl (by kernel_rfl) (by kernel_rfl) (by kernel_rfl) (by kernel_rfl) (by kernel_rfl) (fun _ _ _ h => h) HS0.out ?_ ?_
          · intro o ho
            simp only [List.getElem?_toArray, List.getElem?_cons_zero, Option.some.injEq] at ho
            subst ho
            refine ⟨rfl, rfl, fun w' hSw => ?_⟩
            have hs := HSI.out w' hSw
            go_split_ands
            go_simp
          simp only [Act.put, List.setIfInBounds_toArray, List.set_cons_zero, List.set_cons_succ]
          refine AnyT.load 1 28 (.string ⟨xc.toArray⟩) rfl (by kernel_rfl) (by kernel_rfl) (by kernel_rfl) (by kernel_rfl) (by kernel_rfl) (fun _ _ _ h => h) HS0.out ?_ ?_
          · intro o ho
            simp only [List.getElem?_toArray, List.getElem?_cons_succ, List.getElem?_cons_zero, Option.some.injEq] at ho
            subst ho
            refine ⟨rfl, rfl, fun w' hSw => ?_⟩
            have hs := HSI.out w' hSw
            go_split_ands
            go_simp
          simp only [Act.put, List.setIfInBounds_toArray, List.set_cons_zero, List.set_cons_succ]
          refine AnyT.load 2 29 (.agg #[.bool e0, .slice E0 e1 e2, .bool f0, .slice F0 f1 f2]) rfl (by kernel_rfl) (by kernel_rfl) (by kernel_rfl) (by kernel_rfl) (by kernel_rfl) (fun _ _ _ h => h) HS0.out ?_ ?_
          · intro o ho
            simp only [List.getElem?_toArray, List.getElem?_cons_succ, List.getElem?_cons_zero, Option.some.injEq] at ho
            subst ho
            refine ⟨rfl, rfl, fun w' hSw => ?_⟩
            have hs := HSI.out w' hSw
            go_split_ands
            go_simp
          simp only [Act.put, List.setIfInBounds_toArray, List.set_cons_zero, List.set_cons_succ]
          refine AnyT.step 3 (by kernel_rfl) ?_
          intro o ho K hK
          simp only [List.getElem?_toArray, List.getElem?_cons_succ, List.getElem?_cons_zero, Option.some.injEq] at ho
          subst ho
          go_simp
          refine hK.out _ _ (fun _ => HS0.out) ?_
          obtain ⟨W5, hW5⟩ : ∃ W5 : World, w5.drew = W5 := ⟨_, rfl⟩
          rw [hW5] at BN5 HC5 HX5 ⊢
          clear hW5
          obtain ⟨k0, k1, k2, k3⟩ := BN5.out.four
          obtain ⟨f0', f1', f2', f3'⟩ := BN5.out.free4
          refine AnyT.step 4 (by kernel_rfl) ?_
          intro o ho K hK
          simp only [List.getElem?_toArray, List.getElem?_cons_succ, List.getElem?_cons_zero, Option.some.injEq] at ho
          subst ho
          go_simp
          refine hK.out _ _ (fun h => by cases h) ?_
          refine AnyT.done (by kernel_rfl) ?_
          have HK9 := Lib.hid (BN5.out.kept4 (t := 100) (by decide) 0 1 2 3 (.bool e0) (.slice E0 e1 e2) (.bool f0) (.slice F0 f1 f2))
          have HV9 := Lib.hid (HC5.out.keep HK9.out)
          have BN9 := Lib.hid ((((BN5.out.set_ 0 (.bool e0)).set_ 1 (.slice E0 e1 e2)).set_ 2 (.bool f0)).set_ 3 (.slice F0 f1 f2))
          have HX9 := Lib.hid ((((HX5.out.setCell (p := ⟨w1.heap.size, 0, none⟩) hg (.bool e0)).setCell (p := ⟨w1.heap.size, 1, none⟩) hg (.slice E0 e1 e2)).setCell (p := ⟨w1.heap.size, 2, none⟩) hg (.bool f0)).setCell (p := ⟨w1.heap.size, 3, none⟩) hg (.slice F0 f1 f2))
          clear k0 k1 k2 k3 f0' f1' f2' f3'
          go_wp2
          go_roundw
          case rel => exact ⟨_, e0, E0, e1, e2, f0, F0, f1, f2, hkl, by go_num, by rw [HMT.out], BN9, by rw [HMT.out, Hid, HQK.out]; exact HV9.out, HX9⟩
          case measure => simp [RowKit.intOf]; omega
        · have HMT := Lib.hid (HMK.out.trans (if_neg (by omega)))
          have hsg : decide (((xn : Int) - (mn : Int)).sign > 0) = false := by rw [decide_eq_false_iff_not]; have := sign_pos_iff ((xn : Int) - mn); omega
          go_wp2
          go_roundw
          case rel => exact ⟨_, a0, A0, a1, a2, b0, B0, b1, b2, hkl, by go_num, by rw [HMT.out], BNQ, by rw [HMT.out, Hid, HQM.out]; exact HNQ.out, HXQ⟩
          case measure => simp [RowKit.intOf]; omega
    · obtain rfl : k = l.length := by omega
      rw [List.take_of_length_le (Nat.le_refl _)]
      go_wp2
      go_ret
      exact ⟨rfl, HXS.out⟩
end Go.Proofs.YteagmfbaebmplaaGreatDoor
/- joinlearnlaw25.sane. -/
namespace Go.Proofs.YteagmfbaebmplaaGreatDoor
open Go.RowKit Go.Lib

theorem ratText_small {n : Nat} (h : n < 10) : ratText ((n : Int) : Rat) = [UInt8.ofNat (48 + n)] := by
  rw [ratText_z, decZ_nat, dec_small h]
/-- the counts of the first look -/
def sane0 : List Tal := [([97], 3), ([98], 1)]
theorem sane0_small : Small sane0 := ⟨by decide, by decide⟩
theorem sane0_cells : tcells sane0 = [.string ⟨#[97]⟩, .string ⟨#[51]⟩, .string ⟨#[98]⟩, .string ⟨#[49]⟩] := by
  have h3 : ratText (((3 : Nat) : Int) : Rat) = [51] := ratText_small (by decide)
  have h1 : ratText (((1 : Nat) : Int) : Rat) = [49] := ratText_small (by decide)
  show ([.string ⟨#[97]⟩, .string ⟨(ratText (((3 : Nat) : Int) : Rat)).toArray⟩, .string ⟨#[98]⟩, .string ⟨(ratText (((1 : Nat) : Int) : Rat)).toArray⟩] : List Value) = _
  rw [h3, h1]
theorem sane0_imp : ratText (imp sane0) = [51, 47, 50] := by
  have h : imp sane0 = (3 : Rat) / 2 := by
    have h1 : total sane0 = 4 := rfl
    have h2 : squares sane0 = 10 := rfl
    unfold imp
    rw [h1, h2]
    exact of_decide_eq_true (by kernel_rfl)
  rw [h]
  have hn : ((3 : Rat) / 2).num = ((3 : Nat) : Int) := by kernel_rfl
  have hd : ((3 : Rat) / 2).den = 2 := by kernel_rfl
  rw [ratText_frac (by rw [hd]; decide), hn, hd, decZ_nat, dec_small (by decide), dec_small (by decide)]
  rfl
theorem sane0_total : ratText ((total sane0 : Int) : Rat) = [52] := ratText_small (by decide)
theorem sane0_major : (major sane0).1 = [97] := rfl
set_option maxRecDepth 100000 in
set_option maxHeartbeats 8000000 in
theorem sane_any (w : World) (ht : Tab w) : Calls Tryz.prog 6 #[] w fun e w' => e = .returned (.bool true) ∧ Ext w w' := by
  have HT := Lib.hid ht
  have HI := Lib.hid (fun A c w hs ht => cimp_any A sane0 c w sane0_small hs ht)
  have HC := Lib.hid (fun A c w hs ht => ctotal_any A sane0 c w sane0_small hs ht)
  have HM := Lib.hid (fun A c w hs => cmajor_any A sane0 c w sane0_small hs)
  rw [sane0_cells, sane0_imp] at HI
  rw [sane0_cells, sane0_total] at HC
  rw [sane0_cells, sane0_major] at HM
  have hl : sane0.length = 2 := rfl
  rw [hl] at HI HC HM
  clear ht hl
  go_enter Tryz.func6, Tryz.ntmps6
  go_wp2_with fail
  have BS := Lib.hid (Blk.new w tTally [.string ⟨#[97]⟩, .string ⟨#[51]⟩, .string ⟨#[98]⟩, .string ⟨#[49]⟩])
  refine (HI.out (some ⟨w.heap.size, 0, none⟩) 2 _ (BS.out.sl 0) (HT.out.ext ((Ext.refl w).alloc _))).mono ?_
  rintro e w1 ⟨rfl, hx1⟩
  have BS1 := Lib.hid (BS.out.ext hx1)
  have HX1 := Lib.hid (((Ext.refl w).alloc _).trans hx1)
  clear hx1
  go_wp2_with fail
  refine (HM.out (some ⟨w.heap.size, 0, none⟩) 2 _ (BS1.out.sl 0)).mono ?_
  rintro e w2 ⟨rfl, hx2⟩
  have BS2 := Lib.hid (BS1.out.ext hx2)
  have HX2 := Lib.hid (HX1.out.trans hx2)
  clear hx2
  go_wp2_with fail
  refine (HC.out (some ⟨w.heap.size, 0, none⟩) 2 _ (BS2.out.sl 0) (HT.out.ext HX2.out)).mono ?_
  rintro e w3 ⟨rfl, hx3⟩
  go_wp2
  go_ret
  exact ⟨rfl, HX2.out.trans hx3⟩
end Go.Proofs.YteagmfbaebmplaaGreatDoor
/- Rows of tallies that a law builds; counts that are multiplied. -/
namespace Go.Proofs.YteagmfbaebmplaaGreatDoor
open Go.RowKit Go.Lib

abbrev tTallies : TypeId := 30
theorem tal_info : (Tryz.prog.info? tTally).map (fun i => (i.zero, i.size, i.bytes)) = some (some (.agg #[.string ⟨#[]⟩, .string ⟨#[]⟩]), 2, 32) := by kernel_rfl
theorem tal_slice : SliceTy Tryz.prog tTallies tTally 2 32 := .mk' (by kernel_rfl) tal_info rfl (by decide) (by decide)
/-- a row of tallies that is owned from base on -/
def Own (w : World) (base : Nat) (v : Value) (l : List Tal) : Prop := w.ownsRow base tTally 2 v l.length (tcells l)
def Apart (v u : Value) : Prop := ∀ g, v.ownBlock = some g → u.ownBlock ≠ some g
theorem Apart.symm {v u : Value} (h : Apart v u) : Apart u v := fun g h1 h2 => h g h2 h1
theorem apart_nil (u : Value) : Apart (.slice none 0 0) u := fun g h => by cases h
theorem Own.nil (w : World) (base : Nat) : Own w base (.slice none 0 0) [] := World.ownsRow_nil _ _ _ _
theorem Own.grown {w w' : World} {base : Nat} {v : Value} {l : List Tal} {row : Option Nat} (h : Own w base v l) (hg : w.grownBy w' row) (hr : ∀ k, row = some k → v.ownBlock ≠ some k) : Own w' base v l := by
  refine World.ownsRow.kept h hg ?_
  cases row with
  | none => cases v.ownBlock <;> simp
  | some k => exact .inr (hr k rfl)
theorem Own.only {w w' : World} {base g : Nat} {v : Value} {l : List Tal} (h : Own w base v l) (hg : Only g w w') (hl : g < base) : Own w' base v l :=
  h.grown hg fun k hk he => by
    injection hk with hk
    have := (World.ownsRow.lt h k he).1
    omega
theorem Own.ext {w w' : World} {base : Nat} {v : Value} {l : List Tal} (h : Own w base v l) (hx : Ext w w') : Own w' base v l :=
  h.grown (row := none) ⟨hx.os, hx.tape, hx.output, hx.size, fun k hk _ => hx.block k hk⟩ (fun k hk => by cases hk)
theorem Own.other {w w' : World} {base : Nat} {v u : Value} {l : List Tal} (h : Own w base u l) (hg : w.grownBy w' v.ownBlock) (ha : Apart v u) : Own w' base u l :=
  h.grown hg fun k hk he => ha k hk he
theorem Apart.step {w : World} {base : Nat} {v u v' : Value} {l : List Tal} (ha : Apart v u) (h : Own w base u l) (hv : v'.ownBlock = v.ownBlock ∨ v'.ownBlock = some (w.heap.size + 1)) : Apart v' u := by
  intro g h1 h2
  rcases hv with hv | hv
  · exact ha g (by rw [← hv]; exact h1) h2
  · rw [hv] at h1
    injection h1 with h1
    have := (World.ownsRow.lt h g h2).2
    omega
theorem tcells_snoc (l : List Tal) (c : List UInt8) (n : Nat) : tcells (l ++ [(c, n)]) = tcells l ++ [.string ⟨c.toArray⟩, .string ⟨(ratText ((n : Int) : Rat)).toArray⟩] := by rw [tcells_append]; rfl
theorem Own.snoc {w : World} {base : Nat} {v : Value} {l : List Tal} {c : List UInt8} {n : Nat} (h : w.ownsRow base tTally 2 v (l.length + 1) (tcells l ++ [.string ⟨c.toArray⟩, .string ⟨(ratText ((n : Int) : Rat)).toArray⟩])) : Own w base v (l ++ [(c, n)]) := by
  rw [Own, List.length_append, tcells_snoc]
  exact h
theorem Own.parts {w : World} {base : Nat} {v : Value} {l : List Tal} (h : Own w base v l) : ∃ A c, v = .slice A l.length c ∧ Sl w tTally A (tcells l) := by
  obtain ⟨A, c, h1, _, _, h2⟩ := own_parts h
  exact ⟨A, c, h1, h2⟩

/-- counts that are all multiplied -/
def scale (n : Nat) (l : List Tal) : List Tal := l.map fun x => (x.1, x.2 * n)
theorem scale_snoc (n : Nat) (l : List Tal) (c : List UInt8) (m : Nat) : scale n (l ++ [(c, m)]) = scale n l ++ [(c, m * n)] := by simp [scale]
theorem scale_length (n : Nat) (l : List Tal) : (scale n l).length = l.length := by simp [scale]
theorem total_scale (n : Nat) (l : List Tal) : total (scale n l) = total l * n := by
  induction l with
  | nil => simp [scale, total]
  | cons x r ih =>
    simp only [scale, total, List.map_cons, List.sum_cons, Nat.add_mul] at *
    rw [ih]
theorem squares_scale (n : Nat) (l : List Tal) : squares (scale n l) = squares l * (n * n) := by
  induction l with
  | nil => simp [scale, squares]
  | cons x r ih =>
    simp only [scale, squares, List.map_cons, List.sum_cons, Nat.add_mul] at *
    rw [ih]
    congr 1
    exact Nat.mul_mul_mul_comm _ _ _ _
theorem imp_scale {n : Nat} (hn : 0 < n) (l : List Tal) : imp (scale n l) = imp l * ((n : Int) : Rat) := by
  unfold imp
  rw [total_scale, squares_scale, ← nat_mul, ← nat_mul, ← nat_mul]
  have h1 : ((n : Int) : Rat) ≠ 0 := by
    intro h
    have := congrArg Rat.num h
    rw [int_rat_num] at this
    have h0 : (0 : Rat).num = 0 := rfl
    omega
  generalize ((n : Int) : Rat) = a at *
  generalize ((total l : Int) : Rat) = t at *
  generalize ((squares l : Int) : Rat) = s at *
  rw [Rat.div_def, Rat.div_def, Rat.inv_mul_rev]
  have : s * (a * a) * (a⁻¹ * t⁻¹) = s * t⁻¹ * a * (a * a⁻¹) := by grind
  rw [this, Rat.mul_inv_cancel a h1]
  grind
theorem major_scale {n : Nat} (hn : 0 < n) (l : List Tal) : (major (scale n l)).1 = (major l).1 := by
  cases l with
  | nil => rfl
  | cons x r =>
    have : ∀ (r : List Tal) (x : Tal), (scale n r).foldl (fun b y => if b.2 < y.2 then y else b) (x.1, x.2 * n) = ((r.foldl (fun b y => if b.2 < y.2 then y else b) x).1, (r.foldl (fun b y => if b.2 < y.2 then y else b) x).2 * n) := by
      intro r
      induction r with
      | nil => intro x; rfl
      | cons y r ih =>
        intro x
        have e : scale n (y :: r) = (y.1, y.2 * n) :: scale n r := rfl
        rw [e, List.foldl_cons, List.foldl_cons]
        by_cases h : x.2 < y.2
        · rw [if_pos h, if_pos (show x.2 * n < y.2 * n from Nat.mul_lt_mul_of_pos_right h hn)]
          exact ih y
        · rw [if_neg h, if_neg (show ¬ x.2 * n < y.2 * n from Nat.not_lt.2 (Nat.mul_le_mul_right n (by omega)))]
          exact ih x
    have h := congrArg Prod.fst (this r x)
    exact h
theorem Small.of {l : List Tal} (h : l.length ≤ 3) (hx : ∀ x ∈ l, x.2 ≤ 100) : Small l := ⟨by omega, hx⟩
theorem scale_small {l : List Tal} {n : Nat} (h : l.length ≤ 3) (hx : ∀ x ∈ l, x.2 ≤ 8) (hn : n ≤ 9) : Small (scale n l) := by
  refine .of (by rw [scale_length]; exact h) ?_
  intro x hx'
  simp only [scale, List.mem_map] at hx'
  obtain ⟨y, hy, rfl⟩ := hx'
  have h1 := hx y hy
  have h2 : y.2 * n ≤ 8 * 9 := Nat.mul_le_mul h1 hn
  show y.2 * n ≤ 100
  omega
end Go.Proofs.YteagmfbaebmplaaGreatDoor
