/- cluster.compare, cluster.Run's closure, slices.EqualFunc at it, cluster.Run. -/
import Derived.Test.YtlfcicfebhjchaaGreatDoorCPlain
import Derived.BigQuiet
namespace Go.Proofs.YtlfcicfebhjchaaGreatDoor
open Go.RowKit Go.Lib

theorem cmpQ_zero {p q : Rat} : cmpQ p q = 0 ↔ p = q := by
  constructor
  · intro h
    have h1 : ¬ p < q := fun e => by have := cmpQ_lt.2 e; omega
    have h2 : ¬ q < p := fun e => by have := cmpQ_gt.2 e; omega
    grind
  · rintro rfl
    have h1 : ¬ cmpQ p p < 0 := fun e => by have := cmpQ_lt.1 e; grind
    have h2 : ¬ 0 < cmpQ p p := fun e => by have := cmpQ_gt.1 e; grind
    omega
theorem upon_method {P : Program} {o : Oper} {a : Act} {K : Act → World → Prop} {Q : Exit → Act → World → Prop} {m : Sem (FuncId × Value)} {k : FuncId × Value → World → Result Next} {w : World} (f : FuncId) (v : Value) (h : Sem.run P m w = .ok (f, v) w) (h' : o.upon P a K Q (k (f, v) w)) : o.upon P a K Q ((Sem.run P m w).andThen k) := by
  rw [h]
  exact h'
theorem call_compare (v u : Value) (w : World) : Sem.run Tryz.prog (callFunc 43 #[v, u]) w = .ok (.enter 43 #[v, u]) w := by kernel_rfl
set_option maxRecDepth 100000 in
set_option maxHeartbeats 4000000 in
theorem compareL_any (va vb : Value) (a b : List Rat) (w : World) (ha : FL w va a) (hb : FL w vb b) (hl : a.length = b.length) (fa : ∀ q ∈ a, FitQ 5000 q) (fb : ∀ q ∈ b, FitQ 5000 q) :
    Calls Tryz.prog 49 #[va, vb] w fun e w' => ∃ z, (z = 0 ↔ a = b) ∧ e = .returned (.int .i64 z) ∧ Ext w w' := by
  obtain ⟨A, ca, rfl, _, hca, HA⟩ := ha.parts
  obtain ⟨B, cb, rfl, _, hcb, HB⟩ := hb.parts
  have hca : ca ≤ 9223372036854775807 := by unfold maxLen at hca; omega
  have hcb : cb ≤ 9223372036854775807 := by unfold maxLen at hcb; omega
  have HLN := Lib.hid hl
  have FA := Lib.hid fa
  have FB := Lib.hid fb
  have hmin : min (a.length : Int) b.length = a.length := by omega
  clear ha hb hl fa fb
  go_enter Tryz.func49, Tryz.ntmps49
  go_wp2_with fail
  clear hmin
  go_loopw [5, 6, 12] (fun _ _ v12 wr => ∃ k : Nat, k ≤ a.length ∧ v12 = .int .i64 k ∧ Hid (a.take k = b.take k) ∧ Hid (Ext w wr)) (fun _ _ v12 _ => a.length - (RowKit.intOf v12).toNat)
  case atStart => exact ⟨0, Nat.zero_le _, rfl, rfl, Ext.refl _⟩
  case round =>
    obtain ⟨k, hk, rfl, HTK, HXr⟩ := hrel
    by_cases hkl : k < a.length
    · have hkm : k < b.length := by have := HLN.out; omega
      obtain ⟨g1, o1, x0, X0, x1, x2, y0, Y0, y1, y2, rfl, hg1, V1, p0, p1, p2, p3⟩ := FL.get (FL.ext HA.out HXr.out) hkl
      obtain ⟨g2, o2, z0, Z0, z1, z2, t0, T0, t1, t2, rfl, hg2, V2, q0, q1, q2, q3⟩ := FL.get (FL.ext HB.out HXr.out) hkm
      have HC1 : Hid (∀ w', Ext wr w' → (w'.cell? ⟨g1, o1 + k * 4, none⟩ = some (.bool x0) ∧ w'.cell? ⟨g1, o1 + k * 4 + 1, none⟩ = some (.slice X0 x1 x2) ∧ w'.cell? ⟨g1, o1 + k * 4 + 2, none⟩ = some (.bool y0) ∧ w'.cell? ⟨g1, o1 + k * 4 + 3, none⟩ = some (.slice Y0 y1 y2)) ∧ (w'.cell? ⟨g2, o2 + k * 4, none⟩ = some (.bool z0) ∧ w'.cell? ⟨g2, o2 + k * 4 + 1, none⟩ = some (.slice Z0 z1 z2) ∧ w'.cell? ⟨g2, o2 + k * 4 + 2, none⟩ = some (.bool t0) ∧ w'.cell? ⟨g2, o2 + k * 4 + 3, none⟩ = some (.slice T0 t1 t2))) := fun w' hx => ⟨⟨(hx.cell hg1).trans p0, (hx.cell hg1).trans p1, (hx.cell hg1).trans p2, (hx.cell hg1).trans p3⟩, (hx.cell hg2).trans q0, (hx.cell hg2).trans q1, (hx.cell hg2).trans q2, (hx.cell hg2).trans q3⟩
      have F1 := Lib.hid (FA.out _ (List.getElem_mem hkl))
      have F2 := Lib.hid (FB.out _ (List.getElem_mem hkm))
      have HN : Hid (¬ a[k] = b[k] → ¬ a = b) := ne_next HLN.out hkl
      have HS : Hid (a[k] = b[k] → a.take (k + 1) = b.take (k + 1)) := take_next HLN.out hkl HTK.out
      generalize a[k] = x at *
      generalize b[k] = y at *
      clear p0 p1 p2 p3 q0 q1 q2 q3
      go_upto_region 4 with fail
      obtain ⟨S, hSd⟩ : ∃ S : World → Prop, S = fun w' => (w'.cell? ⟨g1, o1 + k * 4, none⟩ = some (.bool x0) ∧ w'.cell? ⟨g1, o1 + k * 4 + 1, none⟩ = some (.slice X0 x1 x2) ∧ w'.cell? ⟨g1, o1 + k * 4 + 2, none⟩ = some (.bool y0) ∧ w'.cell? ⟨g1, o1 + k * 4 + 3, none⟩ = some (.slice Y0 y1 y2)) ∧ (w'.cell? ⟨g2, o2 + k * 4, none⟩ = some (.bool z0) ∧ w'.cell? ⟨g2, o2 + k * 4 + 1, none⟩ = some (.slice Z0 z1 z2) ∧ w'.cell? ⟨g2, o2 + k * 4 + 2, none⟩ = some (.bool t0) ∧ w'.cell? ⟨g2, o2 + k * 4 + 3, none⟩ = some (.slice T0 t1 t2)) := ⟨_, rfl⟩
      have HSI : Hid (∀ w', S w' → (w'.cell? ⟨g1, o1 + k * 4, none⟩ = some (.bool x0) ∧ w'.cell? ⟨g1, o1 + k * 4 + 1, none⟩ = some (.slice X0 x1 x2) ∧ w'.cell? ⟨g1, o1 + k * 4 + 2, none⟩ = some (.bool y0) ∧ w'.cell? ⟨g1, o1 + k * 4 + 3, none⟩ = some (.slice Y0 y1 y2)) ∧ (w'.cell? ⟨g2, o2 + k * 4, none⟩ = some (.bool z0) ∧ w'.cell? ⟨g2, o2 + k * 4 + 1, none⟩ = some (.slice Z0 z1 z2) ∧ w'.cell? ⟨g2, o2 + k * 4 + 2, none⟩ = some (.bool t0) ∧ w'.cell? ⟨g2, o2 + k * 4 + 3, none⟩ = some (.slice T0 t1 t2))) := by rw [Hid, hSd]; exact fun _ h => h
      have HSE : Hid (∀ w', Ext wr w' → S w') := by rw [Hid, hSd]; exact fun w' h => HC1.out w' h
      have HS0 : Hid (S wr.drew) := HSE.out _ (Ext.refl wr).drew
      clear hSd
      refine AnyT.start (S := S) (T := fun _ => false) (by kernel_rfl) ?_
      refine AnyT.load 0 15 (.slice (some ⟨g1, o1, none⟩) a.length ca) rfl (by kernel_rfl) (by kernel_rfl) (by kernel_rfl) (by kernel_rfl) (by kernel_rfl) (fun _ _ _ h => h) HS0.out ?_ ?_
      · intro o ho
        simp only [List.getElem?_toArray, List.getElem?_cons_zero, Option.some.injEq] at ho
        subst ho
        refine ⟨rfl, rfl, fun w' hSw => ?_⟩
        have hs := HSI.out w' hSw
        go_split_ands
        go_simp
      simp only [Act.put, List.setIfInBounds_toArray, List.set_cons_zero, List.set_cons_succ]
      refine AnyT.load 1 16 (.int .i64 k) rfl (by kernel_rfl) (by kernel_rfl) (by kernel_rfl) (by kernel_rfl) (by kernel_rfl) (fun _ _ _ h => h) HS0.out ?_ ?_
      · intro o ho
        simp only [List.getElem?_toArray, List.getElem?_cons_succ, List.getElem?_cons_zero, Option.some.injEq] at ho
        subst ho
        refine ⟨rfl, rfl, fun w' hSw => ?_⟩
        have hs := HSI.out w' hSw
        go_split_ands
        go_simp
      simp only [Act.put, List.setIfInBounds_toArray, List.set_cons_zero, List.set_cons_succ]
      refine AnyT.load 2 17 (.pointer (some ⟨g1, o1 + k * 4, none⟩)) rfl (by kernel_rfl) (by kernel_rfl) (by kernel_rfl) (by kernel_rfl) (by kernel_rfl) (fun _ _ _ h => h) HS0.out ?_ ?_
      · intro o ho
        simp only [List.getElem?_toArray, List.getElem?_cons_succ, List.getElem?_cons_zero, Option.some.injEq] at ho
        subst ho
        refine ⟨rfl, rfl, fun w' hSw => ?_⟩
        have hs := HSI.out w' hSw
        go_split_ands
        go_simp
      simp only [Act.put, List.setIfInBounds_toArray, List.set_cons_zero, List.set_cons_succ]
      refine AnyT.load 3 18 (.agg #[.bool x0, .slice X0 x1 x2, .bool y0, .slice Y0 y1 y2]) rfl (by kernel_rfl) (by kernel_rfl) (by kernel_rfl) (by kernel_rfl) (by kernel_rfl) (fun _ _ _ h => h) HS0.out ?_ ?_
      · intro o ho
        simp only [List.getElem?_toArray, List.getElem?_cons_succ, List.getElem?_cons_zero, Option.some.injEq] at ho
        subst ho
        refine ⟨rfl, rfl, fun w' hSw => ?_⟩
        have hs := HSI.out w' hSw
        go_split_ands
        go_simp
      simp only [Act.put, List.setIfInBounds_toArray, List.set_cons_zero, List.set_cons_succ]
      refine AnyT.load 4 19 (.iface tFrac (.agg #[.bool x0, .slice X0 x1 x2, .bool y0, .slice Y0 y1 y2])) rfl (by kernel_rfl) (by kernel_rfl) (by kernel_rfl) (by kernel_rfl) (by kernel_rfl) (fun _ _ _ h => h) HS0.out ?_ ?_
      · intro o ho
        simp only [List.getElem?_toArray, List.getElem?_cons_succ, List.getElem?_cons_zero, Option.some.injEq] at ho
        subst ho
        refine ⟨rfl, rfl, fun w' hSw => ?_⟩
        have hs := HSI.out w' hSw
        go_split_ands
        go_simp
      simp only [Act.put, List.setIfInBounds_toArray, List.set_cons_zero, List.set_cons_succ]
      refine AnyT.load 5 20 (.slice (some ⟨g2, o2, none⟩) b.length cb) rfl (by kernel_rfl) (by kernel_rfl) (by kernel_rfl) (by kernel_rfl) (by kernel_rfl) (fun _ _ _ h => h) HS0.out ?_ ?_
      · intro o ho
        simp only [List.getElem?_toArray, List.getElem?_cons_succ, List.getElem?_cons_zero, Option.some.injEq] at ho
        subst ho
        refine ⟨rfl, rfl, fun w' hSw => ?_⟩
        have hs := HSI.out w' hSw
        go_split_ands
        go_simp
      simp only [Act.put, List.setIfInBounds_toArray, List.set_cons_zero, List.set_cons_succ]
      refine AnyT.load 6 21 (.int .i64 k) rfl (by kernel_rfl) (by kernel_rfl) (by kernel_rfl) (by kernel_rfl) (by kernel_rfl) (fun _ _ _ h => h) HS0.out ?_ ?_
      · intro o ho
        simp only [List.getElem?_toArray, List.getElem?_cons_succ, List.getElem?_cons_zero, Option.some.injEq] at ho
        subst ho
        refine ⟨rfl, rfl, fun w' hSw => ?_⟩
        have hs := HSI.out w' hSw
        go_split_ands
        go_simp
      simp only [Act.put, List.setIfInBounds_toArray, List.set_cons_zero, List.set_cons_succ]
      refine AnyT.load 7 22 (.pointer (some ⟨g2, o2 + k * 4, none⟩)) rfl (by kernel_rfl) (by kernel_rfl) (by kernel_rfl) (by kernel_rfl) (by kernel_rfl) (fun _ _ _ h => h) HS0.out ?_ ?_
      · intro o ho
        simp only [List.getElem?_toArray, List.getElem?_cons_succ, List.getElem?_cons_zero, Option.some.injEq] at ho
        subst ho
        refine ⟨rfl, rfl, fun w' hSw => ?_⟩
        have hs := HSI.out w' hSw
        go_split_ands
        go_simp
      simp only [Act.put, List.setIfInBounds_toArray, List.set_cons_zero, List.set_cons_succ]
      refine AnyT.load 8 23 (.agg #[.bool z0, .slice Z0 z1 z2, .bool t0, .slice T0 t1 t2]) rfl (by kernel_rfl) (by kernel_rfl) (by kernel_rfl) (by kernel_rfl) (by kernel_rfl) (fun _ _ _ h => h) HS0.out ?_ ?_
      · intro o ho
        simp only [List.getElem?_toArray, List.getElem?_cons_succ, List.getElem?_cons_zero, Option.some.injEq] at ho
        subst ho
        refine ⟨rfl, rfl, fun w' hSw => ?_⟩
        have hs := HSI.out w' hSw
        go_split_ands
        go_simp
      simp only [Act.put, List.setIfInBounds_toArray, List.set_cons_zero, List.set_cons_succ]
      refine AnyT.step 9 (by kernel_rfl) ?_
      intro o ho K hK
      simp only [List.getElem?_toArray, List.getElem?_cons_succ, List.getElem?_cons_zero, Option.some.injEq] at ho
      subst ho
      go_simp
      refine upon_method 43 (.agg #[.bool x0, .slice X0 x1 x2, .bool y0, .slice Y0 y1 y2]) (by kernel_rfl) ?_
      simp only [call_compare, Oper.upon_enter]
      refine (fcompare_any _ _ x y _ (V1.out.ext (Ext.refl wr).drew) (V2.out.ext (Ext.refl wr).drew) F1.out F2.out (by decide)).mono ?_
      rintro e w5 ⟨rfl, hx5⟩
      have hy5 := (Ext.refl wr).drew.trans hx5
      refine hK.out _ _ (fun _ => HSE.out _ hy5) ?_
      have HX5 := Lib.hid (HXr.out.trans hy5)
      have HS5 := Lib.hid (HSE.out _ hy5)
      clear hx5 hy5
      by_cases hxy : x = y
      · have HZ := Lib.hid (cmpQ_zero.2 hxy)
        have HS1 := Lib.hid (HS.out hxy)
        clear hxy
        rw [HZ.out]
        refine AnyT.step 10 (by kernel_rfl) ?_
        intro o ho K hK
        simp only [List.getElem?_toArray, List.getElem?_cons_succ, List.getElem?_cons_zero, Option.some.injEq] at ho
        subst ho
        go_simp
        refine hK.out _ _ (fun _ => HS5.out) ?_
        refine AnyT.done (by kernel_rfl) ?_
        go_wp2_with fail
        go_roundw
        case rel => exact ⟨k + 1, by omega, by go_num, HS1, HX5⟩
        case measure => simp [RowKit.intOf]; omega
      · have HNZ : Hid (¬ cmpQ x y = 0) := fun h => hxy (cmpQ_zero.1 h)
        have HNE := Lib.hid (HN.out hxy)
        have hd : (cmpQ x y != 0) = true := by rw [bne_iff_ne]; exact HNZ.out
        clear hxy
        generalize cmpQ x y = cq at *
        refine AnyT.step 10 (by kernel_rfl) ?_
        intro o ho K hK
        simp only [List.getElem?_toArray, List.getElem?_cons_succ, List.getElem?_cons_zero, Option.some.injEq] at ho
        subst ho
        go_simp
        refine hK.out _ _ (fun _ => HS5.out) ?_
        refine AnyT.done (by kernel_rfl) ?_
        go_wp2
        go_ret
        exact ⟨cq, ⟨fun h => absurd h HNZ.out, fun h => absurd h HNE.out⟩, rfl, HX5.out⟩
    · obtain rfl : k = a.length := by omega
      have h1 := HTK.out
      rw [List.take_of_length_le (Nat.le_refl _), List.take_of_length_le (by have := HLN.out; omega)] at h1
      have HE : Hid (a = b) := h1
      have HLI : Hid ((a.length : Int) - b.length = 0) := by rw [Hid, HLN.out]; omega
      clear h1
      go_wp2
      go_ret
      exact ⟨_, ⟨fun _ => HE.out, fun _ => HLI.out⟩, rfl, HXr.out⟩
set_option maxRecDepth 100000 in
theorem closure_any (va vb : Value) (a b : List Rat) (w : World) (ha : FL w va a) (hb : FL w vb b) (hl : a.length = b.length) (fa : ∀ q ∈ a, FitQ 5000 q) (fb : ∀ q ∈ b, FitQ 5000 q) :
    Calls Tryz.prog 48 #[va, vb] w fun e w' => e = .returned (.bool (decide (a = b))) ∧ Ext w w' := by
  have H := Lib.hid (compareL_any va vb a b w ha hb hl fa fb)
  clear ha hb hl fa fb
  go_enter Tryz.func48, Tryz.ntmps48
  go_wp2_with fail
  refine H.out.mono ?_
  rintro e w1 ⟨z, hz, rfl, hx1⟩
  go_wp2
  go_ret
  exact ⟨ret_bool (by rw [← Bool.eq_iff_iff.2 (show ((z == 0) = true) ↔ (decide (a = b) = true) by rw [beq_iff_eq, decide_eq_true_iff]; exact hz)]), hx1⟩
set_option maxRecDepth 100000 in
set_option maxHeartbeats 4000000 in
theorem equal_any (va vb : Value) (a b : List (List Rat)) (n : Nat) (w : World) (ha : GL w va a) (hb : GL w vb b) (hl : a.length = b.length) (la : ∀ p ∈ a, p.length = n) (lb : ∀ p ∈ b, p.length = n) (fa : ∀ p ∈ a, ∀ q ∈ p, FitQ 5000 q) (fb : ∀ p ∈ b, ∀ q ∈ p, FitQ 5000 q) :
    Calls Tryz.prog 47 #[va, vb, .func (.func 48) #[] #[]] w fun e w' => e = .returned (.bool (decide (a = b))) ∧ Ext w w' := by
  obtain ⟨A, ca, rfl, _, hca, HA⟩ := ha.parts
  obtain ⟨B, cb, rfl, _, hcb, HB⟩ := hb.parts
  have hca : ca ≤ 9223372036854775807 := by unfold maxLen at hca; omega
  have hcb : cb ≤ 9223372036854775807 := by unfold maxLen at hcb; omega
  have HLN := Lib.hid hl
  have LA := Lib.hid la
  have LB := Lib.hid lb
  have FA := Lib.hid fa
  have FB := Lib.hid fb
  have hne : ((a.length : Int) != (b.length : Int)) = false := by simp [hl]
  clear ha hb hl fa fb la lb
  go_enter Tryz.func47, Tryz.ntmps47
  go_wp2_with fail
  clear hne
  go_loopw [7, 8, 9, 17] (fun _ _ _ v17 wr => ∃ k : Nat, k ≤ a.length ∧ v17 = .int .i64 k ∧ Hid (a.take k = b.take k) ∧ Hid (Ext w wr)) (fun _ _ _ v17 _ => a.length - (RowKit.intOf v17).toNat)
  case atStart => exact ⟨0, Nat.zero_le _, rfl, rfl, Ext.refl _⟩
  case round =>
    obtain ⟨k, hk, rfl, HTK, HXr⟩ := hrel
    by_cases hkl : k < a.length
    · have hkm : k < b.length := by have := HLN.out; omega
      obtain ⟨g1, o1, A1, c1, rfl, _, L1, p1⟩ := OneR.get (GL.ext HA.out HXr.out) hkl
      obtain ⟨g2, o2, A2, c2, rfl, _, L2, p2⟩ := OneR.get (GL.ext HB.out HXr.out) hkm
      have CL1 := Lib.hid (closure_any _ _ a[k] b[k] wr L1.out L2.out (by rw [LA.out _ (List.getElem_mem hkl), LB.out _ (List.getElem_mem hkm)]) (FA.out _ (List.getElem_mem hkl)) (FB.out _ (List.getElem_mem hkm)))
      have HN : Hid (¬ a[k] = b[k] → ¬ a = b) := ne_next HLN.out hkl
      have HS : Hid (a[k] = b[k] → a.take (k + 1) = b.take (k + 1)) := take_next HLN.out hkl HTK.out
      generalize a[k] = x at *
      generalize b[k] = y at *
      by_cases hxy : x = y
      · have hd2 : decide (x = y) = true := decide_eq_true hxy
        have HS1 := Lib.hid (HS.out hxy)
        rw [hd2] at CL1
        clear hxy hd2
        go_wp2_with fail
        refine CL1.out.mono ?_
        rintro e w5 ⟨rfl, hx5⟩
        have HX5 := Lib.hid (HXr.out.trans hx5)
        clear hx5 p1 p2
        go_wp2
        go_roundw
        case rel => exact ⟨k + 1, by omega, by go_num, HS1, HX5⟩
        case measure => simp [RowKit.intOf]; omega
      · have hd2 : decide (x = y) = false := decide_eq_false hxy
        have hfin : decide (a = b) = false := decide_eq_false (HN.out hxy)
        rw [hd2] at CL1
        clear hxy hd2
        go_wp2_with fail
        refine CL1.out.mono ?_
        rintro e w5 ⟨rfl, hx5⟩
        have HX5 := Lib.hid (HXr.out.trans hx5)
        clear hx5 p1 p2
        go_wp2
        go_ret
        exact ⟨ret_bool hfin.symm, HX5.out⟩
    · obtain rfl : k = a.length := by omega
      have h1 := HTK.out
      rw [List.take_of_length_le (Nat.le_refl _), List.take_of_length_le (by have := HLN.out; omega)] at h1
      have hfin : decide (a = b) = true := decide_eq_true h1
      clear h1
      go_wp2
      go_ret
      exact ⟨ret_bool hfin.symm, HXr.out⟩
/-- the steps of a run -/
def runF (n : Nat) (l : List Pt) : Nat → List (List Rat) → List (List Rat) × Nat
  | 0, cs => (cs, 0)
  | k + 1, cs => if cs = stepF n l cs then (cs, 0) else ((runF n l k (stepF n l cs)).1, (runF n l k (stepF n l cs)).2 + 1)
theorem run_next {n k t : Nat} {l : List Pt} {ds : List (List Rat)} {R : List (List Rat) × Nat} (ht : t < k) (h : runF n l (k - t) ds = (R.1, R.2 - t)) (h2 : t ≤ R.2) : (ds = stepF n l ds → R.1 = ds ∧ R.2 = t) ∧ (¬ ds = stepF n l ds → runF n l (k - (t + 1)) (stepF n l ds) = (R.1, R.2 - (t + 1)) ∧ t + 1 ≤ R.2) := by
  rw [show k - t = (k - (t + 1)) + 1 by omega, runF] at h
  refine ⟨fun e => ?_, fun e => ?_⟩
  · rw [if_pos e] at h
    injection h with h3 h4
    exact ⟨h3.symm, by omega⟩
  · rw [if_neg e] at h
    injection h with h3 h4
    exact ⟨Prod.ext h3 (by show _ = R.2 - (t + 1); omega), by omega⟩
theorem run_end {n t : Nat} {l : List Pt} {ds : List (List Rat)} {R : List (List Rat) × Nat} (h : runF n l (t - t) ds = (R.1, R.2 - t)) (h2 : t ≤ R.2) : R.1 = ds ∧ R.2 = t := by
  rw [Nat.sub_self, runF] at h
  injection h with h3 h4
  exact ⟨h3.symm, by omega⟩
/-- centres all along a run -/
def Fine (n : Nat) (l : List Pt) (P : List (List Rat) → Prop) : Prop := ∀ cs, P cs → Good n l cs ∧ P (stepF n l cs)
set_option maxRecDepth 100000 in
set_option maxHeartbeats 4000000 in
theorem run_any (vl vc : Value) (n k : Nat) (l : List Pt) (cs : List (List Rat)) (P : List (List Rat) → Prop) (w : World) (hl : CL w vl l) (hc : PL w vc cs) (hP : P cs) (hF : Fine n l P) (h100 : l.length ≤ 100) (hk : k ≤ 20) (ht : Tab w) :
    Calls Tryz.prog 26 #[vl, vc, .int .i64 k] w fun e w' => ∃ A c, e = .returned (.tuple #[.slice A (runF n l k cs).1.length c, .int .i64 (runF n l k cs).2]) ∧ PL w' (.slice A (runF n l k cs).1.length c) (runF n l k cs).1 ∧ Ext w w' := by
  have RD := Lib.hid (cread_any vl vc n l cs w hl hc (hF cs hP).1)
  have HF := Lib.hid hF
  have HP := Lib.hid hP
  have HT := Lib.hid ht
  have hmin : min (k : Int) 20 = k := by omega
  obtain ⟨R, hR⟩ : ∃ R, runF n l k cs = R := ⟨_, rfl⟩
  have HR := Lib.hid hR
  rw [hR]
  clear hl hc hF hP ht hR
  go_enter Tryz.func26, Tryz.ntmps26
  go_wp2_with fail
  refine RD.out.mono ?_
  rintro e w1 ⟨Ap, cp, Ac, cc, rfl, hql, hgl, hx1⟩
  have HQ := Lib.hid hql
  have HG0 := Lib.hid hgl
  have HE1 := Lib.hid hx1
  clear hql hgl hx1 RD
  go_wp2_with fail
  go_loopw [9, 11, 12] (fun v9 v11 _ wr => ∃ (t : Nat) (ds : List (List Rat)), t ≤ k ∧ v11 = .int .i64 t ∧ Hid (P ds) ∧ Hid (runF n l (k - t) ds = (R.1, R.2 - t) ∧ t ≤ R.2) ∧ Hid (∃ A c, v9 = .slice A ds.length c) ∧ Hid (GL wr v9 ds) ∧ Hid (Ext w1 wr)) (fun _ v11 _ _ => k - (RowKit.intOf v11).toNat)
  case atStart => exact ⟨0, cs, Nat.zero_le _, rfl, HP, ⟨by rw [Nat.sub_zero, Nat.sub_zero]; exact HR.out, Nat.zero_le _⟩, ⟨_, _, rfl⟩, HG0, Ext.refl _⟩
  case round =>
    obtain ⟨t, ds, htk, rfl, HPd, HRd, ⟨A9, c9, rfl⟩, HG9, HXr⟩ := hrel
    have HGD := Lib.hid (HF.out ds HPd.out).1
    have TX := Lib.hid (fun w' h1 (hx : Ext wr w') => ctexts_any (.slice A9 ds.length c9) ds w' h1 (fun p hp => ⟨by rw [HGD.out.cn p hp]; have := HGD.out.n3; omega, HGD.out.cf p hp⟩) (by have := HGD.out.cts; omega) (HT.out.ext (HE1.out.trans (HXr.out.trans hx))))
    by_cases hkt : t < k
    · have HGS := Lib.hid (HF.out _ (HF.out ds HPd.out).2).1
      have HPS := Lib.hid (HF.out ds HPd.out).2
      have ST := Lib.hid (cstep_any _ _ n l ds wr (QL.ext HQ.out HXr.out) HG9.out HGD.out h100)
      have HLS := Lib.hid (stepF_length n l ds)
      have EQ := Lib.hid (fun v w' h1 h2 => equal_any (.slice A9 ds.length c9) v ds (stepF n l ds) n w' h1 h2 HLS.out.symm HGD.out.cn HGS.out.cn (fun p hp q hq => (HGD.out.cf p hp q hq).mono (by decide)) (fun p hp q hq => (HGS.out.cf p hp q hq).mono (by decide)))
      have HRS := Lib.hid (run_next (n := n) (l := l) hkt HRd.out.1 HRd.out.2)
      have hmin : min (k : Int) 20 = k := by omega
      generalize stepF n l ds = es at *
      go_wp2_with fail
      refine ST.out.mono ?_
      rintro e w2 ⟨A2, c2, rfl, hg2, hx2⟩
      go_wp2_with fail
      refine (EQ.out _ w2 (GL.ext HG9.out hx2) hg2).mono ?_
      rintro e w3 ⟨rfl, hx3⟩
      have HX3 := Lib.hid (HXr.out.trans (hx2.trans hx3))
      have HG3 := Lib.hid (GL.ext hg2 hx3)
      have HG3' := Lib.hid (GL.ext HG9.out (hx2.trans hx3))
      have HE3 := Lib.hid (hx2.trans hx3)
      clear hx2 hx3 hg2
      by_cases hde : ds = es
      · have hd : decide (ds = es) = true := decide_eq_true hde
        obtain ⟨h1, h2⟩ := HRS.out.1 hde
        have HR1 := Lib.hid h1
        have HR2 := Lib.hid h2
        rw [hd]
        clear hde hd h1 h2 hmin
        go_wp2_with fail
        refine (TX.out w3 HG3'.out HE3.out).mono ?_
        rintro e w4 ⟨A4, c4, rfl, hpl, hx4⟩
        have HPL4 := Lib.hid hpl
        have HX4 := Lib.hid (HE1.out.trans (HX3.out.trans hx4))
        clear hpl hx4
        go_wp2
        go_ret2
        refine ⟨A4, c4, ?_, ?_, HX4.out⟩
        · rw [HR1.out, HR2.out]
          rfl
        · rw [HR1.out]
          exact HPL4.out
      · have hd : decide (ds = es) = false := decide_eq_false hde
        have HR1 := Lib.hid (HRS.out.2 hde)
        rw [hd]
        clear hde hd
        go_wp2_with fail
        clear hmin
        go_roundw
        case rel => exact ⟨t + 1, es, by omega, by go_num, HPS, HR1, ⟨_, _, by rw [HLS.out]⟩, HG3, HX3⟩
        case measure => simp [RowKit.intOf]; omega
    · obtain rfl : t = k := by omega
      obtain ⟨h1, h2⟩ := run_end HRd.out.1 HRd.out.2
      have HR1 := Lib.hid h1
      have HR2 := Lib.hid h2
      have HX3 := HXr
      have HG3' := HG9
      have HE3 := Lib.hid (Ext.refl wr)
      have hmin : min (t : Int) 20 = t := by omega
      clear h1 h2
      go_wp2_with fail
      refine (TX.out wr HG3'.out HE3.out).mono ?_
      rintro e w4 ⟨A4, c4, rfl, hpl, hx4⟩
      have HPL4 := Lib.hid hpl
      have HX4 := Lib.hid (HE1.out.trans (HX3.out.trans hx4))
      clear hpl hx4
      go_wp2
      go_ret2
      refine ⟨A4, c4, ?_, ?_, HX4.out⟩
      · rw [HR1.out, HR2.out]
        rfl
      · rw [HR1.out]
        exact HPL4.out
end Go.Proofs.YtlfcicfebhjchaaGreatDoor
