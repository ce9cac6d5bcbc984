/- forest.Pick's comparison; an insertion sort as the library does it. -/
import Derived.Test.YthalpbjkkfkheaaDoorHashLaw
import Derived.Test.YthalpbjkkfkheaaDoorSchr
namespace Go.Proofs.YthalpbjkkfkheaaDoor
open Go.RowKit Go.Lib

/-- how the library compares two numbers -/
def cmpU (x y : Int) : Int := if x < y then -1 else if y < x then 1 else 0
set_option maxRecDepth 100000 in
theorem nanu_any (x : Int) (w : World) : Calls Tryd.prog 33 #[.int .u64 x] w fun e w' => e = .returned (.bool false) ∧ Ext w w' := by
  go_enter Tryd.func33, Tryd.ntmps33
  go_wp2
  go_ret
  exact ⟨by simp, Ext.refl w⟩
set_option maxRecDepth 100000 in
theorem cmpu_any (x y : Int) (w : World) : Calls Tryd.prog 22 #[.int .u64 x, .int .u64 y] w fun e w' => e = .returned (.int .i64 (cmpU x y)) ∧ Ext w w' := by
  have N1 := Lib.hid (fun w => nanu_any x w)
  have N2 := Lib.hid (fun w => nanu_any y w)
  have HC : Hid (x < y → cmpU x y = -1) := fun h => if_pos h
  have HC1 : Hid (¬ x < y → y < x → cmpU x y = 1) := fun h h' => by rw [cmpU, if_neg h, if_pos h']
  have HC2 : Hid (¬ x < y → ¬ y < x → cmpU x y = 0) := fun h h' => by rw [cmpU, if_neg h, if_neg h']
  generalize cmpU x y = c at *
  go_enter Tryd.func22, Tryd.ntmps22
  go_wp2_with fail
  refine (N1.out w).mono ?_
  rintro e w1 ⟨rfl, hx1⟩
  go_wp2_with fail
  refine (N2.out w1).mono ?_
  rintro e w2 ⟨rfl, hx2⟩
  have hX := hx1.trans hx2
  by_cases h1 : x < y
  · have e := HC.out h1
    subst e
    go_wp2
    go_ret
    exact ⟨rfl, hX⟩
  · have d1 : decide (x < y) = false := decide_eq_false h1
    by_cases h2 : y < x
    · have e := HC1.out (Int.not_lt.1 h1) h2
      subst e
      have d2 : decide (x > y) = true := decide_eq_true h2
      go_wp2
      go_ret
      exact ⟨rfl, hX⟩
    · have e := HC2.out (Int.not_lt.1 h1) (Int.not_lt.1 h2)
      subst e
      have d2 : decide (x > y) = false := decide_eq_false h2
      go_wp2
      go_ret
      exact ⟨rfl, hX⟩
/-- the key of a feature -/
def keyF (seed tree a : Int) : Int := hashL (textL [seed, tree, a] [])
set_option maxRecDepth 100000 in
theorem key_text (seed tree a : Int) (g : Nat) (w : World) (h : Blk w g tInt [.int .i64 seed, .int .i64 tree, .int .i64 a]) (h1 : I64 seed) (h2 : I64 tree) (h3 : I64 a) (ht : Tab w) :
    Calls Tryd.prog 23 #[.slice (some ⟨g, 0, none⟩) 3 3, .slice none 0 0] w fun e w' => ∃ A c, e = .returned (.slice A (textL [seed, tree, a] []).length c) ∧ Sl w' 5 A (byteCells (textL [seed, tree, a] [])) ∧ (textL [seed, tree, a] []).length ≤ 1000000 ∧ Ext w w' := by
  have hI : ∀ n ∈ [seed, tree, a], I64 n := fun n hn => by
    simp only [List.mem_cons, List.not_mem_nil, or_false] at hn
    rcases hn with rfl | rfl | rfl <;> assumption
  have hx := text_any (some ⟨g, 0, none⟩) none 3 0 [seed, tree, a] [] w (by simp) hI (by simp) 100 (by decide) (by simp [strsL]) (t1 := tInt) (t2 := tStr) (h.sl 0) Sl.nil ht
  refine hx.mono fun e w' h => ?_
  obtain ⟨v, rfl, ho, hx⟩ := h
  obtain ⟨A, c, rfl, _, _, hsl⟩ := own_parts ho
  refine ⟨A, c, rfl, hsl, ?_, hx⟩
  have := numsL_len [seed, tree, a] hI
  simp only [textL, strsL, List.flatMap_nil, List.append_nil, List.length_cons, List.length_nil] at this ⊢
  omega
/-- a feature's comparison with another -/
def ltF (seed tree a b : Int) : Bool := decide (cmpU (keyF seed tree a) (keyF seed tree b) < 0)
set_option maxRecDepth 100000 in
set_option maxHeartbeats 1000000 in
theorem pickc_any (seed tree a b : Int) (gs gt : Nat) (w : World) (hs : Blk w gs tInt [.int .i64 seed]) (ht : Blk w gt tInt [.int .i64 tree]) (h1 : I64 seed) (h2 : I64 tree) (h3 : I64 a) (h4 : I64 b) (htb : Tab w) :
    Calls Tryd.prog 21 #[.int .i64 a, .int .i64 b, .pointer (some ⟨gs, 0, none⟩), .pointer (some ⟨gt, 0, none⟩)] w fun e w' => ∃ c : Int, e = .returned (.int .i64 c) ∧ decide (c < 0) = ltF seed tree a b ∧ Ext w w' := by
  have HS := Lib.hid hs
  have HT := Lib.hid ht
  have HTB := Lib.hid htb
  have KA := Lib.hid (fun g w' h hx => key_text seed tree a g w' h h1 h2 h3 (htb.ext hx))
  have KB := Lib.hid (fun g w' h hx => key_text seed tree b g w' h h1 h2 h4 (htb.ext hx))
  have HH := Lib.hid (fun A c l w' h1 h2 => hash_any A c l w' h1 (t := 5) h2)
  have CU := Lib.hid (fun w' => cmpu_any (keyF seed tree a) (keyF seed tree b) w')
  have HKA : Hid (hashL (textL [seed, tree, a] []) = keyF seed tree a) := rfl
  have HKB : Hid (hashL (textL [seed, tree, b] []) = keyF seed tree b) := rfl
  have HLT : Hid (decide (cmpU (keyF seed tree a) (keyF seed tree b) < 0) = ltF seed tree a b) := rfl
  clear hs ht h1 h2 h3 h4 htb
  generalize textL [seed, tree, a] [] = ta at *
  generalize textL [seed, tree, b] [] = tb at *
  generalize keyF seed tree a = ka at *
  generalize keyF seed tree b = kb at *
  generalize ltF seed tree a b = lt at *
  go_enter Tryd.func21, Tryd.ntmps21
  go_upto_region 1 with fail
  have HSI : Hid (∀ w', Ext w w' → w'.cell? ⟨gs, 0, none⟩ = some (.int .i64 seed) ∧ w'.cell? ⟨gt, 0, none⟩ = some (.int .i64 tree)) := fun w' hx => ⟨(HS.out.ext hx).cell (i := 0) rfl, (HT.out.ext hx).cell (i := 0) rfl⟩
  have HS0 : Hid (Ext w w.drew) := (Ext.refl w).drew
  have HXc : Hid (Ext w w.drew) := (Ext.refl w).drew
  refine AnyT.start (S := fun w' => Ext w w') (T := fun _ => false) (by kernel_rfl) ?_
  generalize w.drew = wd at *
  refine AnyT.ld 0 7 ?_ _ rfl rfl (by kernel_rfl) (fun _ _ _ h => h) HS0.out rfl ?_ ?_
  rotate_left
  focus (intro w' hSw; have hs := HSI.out w' hSw; go_split_ands; go_simp; try (first | exact rfl | omega | go_num | (intro hbd; exfalso; omega)))
  simp only [Act.put, List.setIfInBounds_toArray, List.set_cons_zero, List.set_cons_succ]
  refine AnyT.ld 1 8 ?_ _ rfl rfl (by kernel_rfl) (fun _ _ _ h => h) HS0.out rfl ?_ ?_
  rotate_left
  focus (intro w' hSw; have hs := HSI.out w' hSw; go_split_ands; go_simp; try (first | exact rfl | omega | go_num | (intro hbd; exfalso; omega)))
  simp only [Act.put, List.setIfInBounds_toArray, List.set_cons_zero, List.set_cons_succ]
  refine AnyT.ld 2 9 ?_ _ rfl rfl (by kernel_rfl) (fun _ _ _ h => h) HS0.out rfl ?_ ?_
  rotate_left
  focus (intro w' hSw; have hs := HSI.out w' hSw; go_split_ands; go_simp; try (first | exact rfl | omega | go_num | (intro hbd; exfalso; omega)))
  simp only [Act.put, List.setIfInBounds_toArray, List.set_cons_zero, List.set_cons_succ]
  refine AnyT.ld 6 13 ?_ _ rfl rfl (by kernel_rfl) (fun _ _ _ h => h) HS0.out rfl ?_ ?_
  rotate_left
  focus (intro w' hSw; have hs := HSI.out w' hSw; go_split_ands; go_simp; try (first | exact rfl | omega | go_num | (intro hbd; exfalso; omega)))
  simp only [Act.put, List.setIfInBounds_toArray, List.set_cons_zero, List.set_cons_succ]
  refine AnyT.ld 7 14 ?_ _ rfl rfl (by kernel_rfl) (fun _ _ _ h => h) HS0.out rfl ?_ ?_
  rotate_left
  focus (intro w' hSw; have hs := HSI.out w' hSw; go_split_ands; go_simp; try (first | exact rfl | omega | go_num | (intro hbd; exfalso; omega)))
  simp only [Act.put, List.setIfInBounds_toArray, List.set_cons_zero, List.set_cons_succ]
  refine AnyT.ld 8 15 ?_ _ rfl rfl (by kernel_rfl) (fun _ _ _ h => h) HS0.out rfl ?_ ?_
  rotate_left
  focus (intro w' hSw; have hs := HSI.out w' hSw; go_split_ands; go_simp; try (first | exact rfl | omega | go_num | (intro hbd; exfalso; omega)))
  simp only [Act.put, List.setIfInBounds_toArray, List.set_cons_zero, List.set_cons_succ]
  clear HS0
  refine AnyT.two 3 9 (by kernel_rfl) ?_ ?_
  · skip
    intro o ho K hK
    simp only [List.getElem?_toArray, List.getElem?_cons_succ, List.getElem?_cons_zero, Option.some.injEq] at ho
    subst ho
    go_simp
    refine hK.out _ _ (fun _ => HXc.out.alloc _) ?_
    refine box1 (P := fun W => AnyT _ _ _ _ _ _ _ _ _ W) fun WZ HXZ BA => ?_
    have HXc := Lib.hid (HXc.out.trans HXZ.out)
    clear HXZ
    refine AnyT.two 4 9 (by kernel_rfl) ?_ ?_
    · skip
      intro o ho K hK
      simp only [List.getElem?_toArray, List.getElem?_cons_succ, List.getElem?_cons_zero, Option.some.injEq] at ho
      subst ho
      go_simp
      refine (KA.out _ _ BA.out HXc.out).mono ?_
      rintro e wx ⟨A1, c1, rfl, hsa, hla, hx⟩
      have BA := Lib.hid (BA.out.ext (hx))
      have HA := Lib.hid hsa
      have HXc := Lib.hid (HXc.out.trans hx)
      refine hK.out _ _ (fun _ => HXc.out) ?_
      refine AnyT.two 5 9 (by kernel_rfl) ?_ ?_
      · skip
        intro o ho K hK
        simp only [List.getElem?_toArray, List.getElem?_cons_succ, List.getElem?_cons_zero, Option.some.injEq] at ho
        subst ho
        go_simp
        refine (HH.out A1 c1 ta _ hla HA.out).mono ?_
        rintro e wx ⟨rfl, rfl⟩
        rw [HKA.out]
        refine hK.out _ _ (fun _ => HXc.out) ?_
        refine AnyT.step 9 (by kernel_rfl) ?_
        intro o ho K hK
        simp only [List.getElem?_toArray, List.getElem?_cons_succ, List.getElem?_cons_zero, Option.some.injEq] at ho
        subst ho
        go_simp
        refine hK.out _ _ (fun _ => HXc.out.alloc _) ?_
        refine box1 (P := fun W => AnyT _ _ _ _ _ _ _ _ _ W) fun WZ HXZ BB => ?_
        have BA := Lib.hid (BA.out.ext (HXZ.out))
        have HA := Lib.hid (HA.out.ext (HXZ.out))
        have HXc := Lib.hid (HXc.out.trans HXZ.out)
        clear HXZ
        refine AnyT.step 10 (by kernel_rfl) ?_
        intro o ho K hK
        simp only [List.getElem?_toArray, List.getElem?_cons_succ, List.getElem?_cons_zero, Option.some.injEq] at ho
        subst ho
        go_simp
        refine (KB.out _ _ BB.out HXc.out).mono ?_
        rintro e wx ⟨A2, c2, rfl, hsb, hlb, hx⟩
        have HB := Lib.hid hsb
        have HXc := Lib.hid (HXc.out.trans hx)
        refine hK.out _ _ (fun _ => HXc.out) ?_
        refine AnyT.step 11 (by kernel_rfl) ?_
        intro o ho K hK
        simp only [List.getElem?_toArray, List.getElem?_cons_succ, List.getElem?_cons_zero, Option.some.injEq] at ho
        subst ho
        go_simp
        refine (HH.out A2 c2 tb _ hlb HB.out).mono ?_
        rintro e wx ⟨rfl, rfl⟩
        rw [HKB.out]
        refine hK.out _ _ (fun _ => HXc.out) ?_
        refine AnyT.step 12 (by kernel_rfl) ?_
        intro o ho K hK
        simp only [List.getElem?_toArray, List.getElem?_cons_succ, List.getElem?_cons_zero, Option.some.injEq] at ho
        subst ho
        go_simp
        refine (CU.out _).mono ?_
        rintro e wx ⟨rfl, hx⟩
        have HXc := Lib.hid (HXc.out.trans hx)
        refine hK.out _ _ (fun _ => HXc.out) ?_
        have HS0 := HXc
        refine AnyT.ld 13 6 ?_ _ rfl rfl (by kernel_rfl) (fun _ _ _ h => h) HS0.out rfl ?_ ?_
        rotate_left
        focus (intro w' hSw; have hs := HSI.out w' hSw; go_split_ands; go_simp; try (first | exact rfl | omega | go_num | (intro hbd; exfalso; omega)))
        simp only [Act.put, List.setIfInBounds_toArray, List.set_cons_zero, List.set_cons_succ]
        refine AnyT.done (by kernel_rfl) ?_
        clear HSI
        go_wp2
        go_ret
        exact ⟨_, rfl, HLT.out, HXc.out⟩
      · skip
        intro o ho K hK
        simp only [List.getElem?_toArray, List.getElem?_cons_succ, List.getElem?_cons_zero, Option.some.injEq] at ho
        subst ho
        go_simp
        refine hK.out _ _ (fun _ => HXc.out.alloc _) ?_
        refine box1 (P := fun W => AnyT _ _ _ _ _ _ _ _ _ W) fun WZ HXZ BB => ?_
        have BA := Lib.hid (BA.out.ext (HXZ.out))
        have HA := Lib.hid (HA.out.ext (HXZ.out))
        have HXc := Lib.hid (HXc.out.trans HXZ.out)
        clear HXZ
        refine AnyT.step 5 (by kernel_rfl) ?_
        intro o ho K hK
        simp only [List.getElem?_toArray, List.getElem?_cons_succ, List.getElem?_cons_zero, Option.some.injEq] at ho
        subst ho
        go_simp
        refine (HH.out A1 c1 ta _ hla HA.out).mono ?_
        rintro e wx ⟨rfl, rfl⟩
        rw [HKA.out]
        refine hK.out _ _ (fun _ => HXc.out) ?_
        refine AnyT.step 10 (by kernel_rfl) ?_
        intro o ho K hK
        simp only [List.getElem?_toArray, List.getElem?_cons_succ, List.getElem?_cons_zero, Option.some.injEq] at ho
        subst ho
        go_simp
        refine (KB.out _ _ BB.out HXc.out).mono ?_
        rintro e wx ⟨A2, c2, rfl, hsb, hlb, hx⟩
        have HB := Lib.hid hsb
        have HXc := Lib.hid (HXc.out.trans hx)
        refine hK.out _ _ (fun _ => HXc.out) ?_
        refine AnyT.step 11 (by kernel_rfl) ?_
        intro o ho K hK
        simp only [List.getElem?_toArray, List.getElem?_cons_succ, List.getElem?_cons_zero, Option.some.injEq] at ho
        subst ho
        go_simp
        refine (HH.out A2 c2 tb _ hlb HB.out).mono ?_
        rintro e wx ⟨rfl, rfl⟩
        rw [HKB.out]
        refine hK.out _ _ (fun _ => HXc.out) ?_
        refine AnyT.step 12 (by kernel_rfl) ?_
        intro o ho K hK
        simp only [List.getElem?_toArray, List.getElem?_cons_succ, List.getElem?_cons_zero, Option.some.injEq] at ho
        subst ho
        go_simp
        refine (CU.out _).mono ?_
        rintro e wx ⟨rfl, hx⟩
        have HXc := Lib.hid (HXc.out.trans hx)
        refine hK.out _ _ (fun _ => HXc.out) ?_
        have HS0 := HXc
        refine AnyT.ld 13 6 ?_ _ rfl rfl (by kernel_rfl) (fun _ _ _ h => h) HS0.out rfl ?_ ?_
        rotate_left
        focus (intro w' hSw; have hs := HSI.out w' hSw; go_split_ands; go_simp; try (first | exact rfl | omega | go_num | (intro hbd; exfalso; omega)))
        simp only [Act.put, List.setIfInBounds_toArray, List.set_cons_zero, List.set_cons_succ]
        refine AnyT.done (by kernel_rfl) ?_
        clear HSI
        go_wp2
        go_ret
        exact ⟨_, rfl, HLT.out, HXc.out⟩
    · skip
      intro o ho K hK
      simp only [List.getElem?_toArray, List.getElem?_cons_succ, List.getElem?_cons_zero, Option.some.injEq] at ho
      subst ho
      go_simp
      refine hK.out _ _ (fun _ => HXc.out.alloc _) ?_
      refine box1 (P := fun W => AnyT _ _ _ _ _ _ _ _ _ W) fun WZ HXZ BB => ?_
      have BA := Lib.hid (BA.out.ext (HXZ.out))
      have HXc := Lib.hid (HXc.out.trans HXZ.out)
      clear HXZ
      refine AnyT.step 4 (by kernel_rfl) ?_
      intro o ho K hK
      simp only [List.getElem?_toArray, List.getElem?_cons_succ, List.getElem?_cons_zero, Option.some.injEq] at ho
      subst ho
      go_simp
      refine (KA.out _ _ BA.out HXc.out).mono ?_
      rintro e wx ⟨A1, c1, rfl, hsa, hla, hx⟩
      have BA := Lib.hid (BA.out.ext (hx))
      have BB := Lib.hid (BB.out.ext (hx))
      have HA := Lib.hid hsa
      have HXc := Lib.hid (HXc.out.trans hx)
      refine hK.out _ _ (fun _ => HXc.out) ?_
      refine AnyT.step 5 (by kernel_rfl) ?_
      intro o ho K hK
      simp only [List.getElem?_toArray, List.getElem?_cons_succ, List.getElem?_cons_zero, Option.some.injEq] at ho
      subst ho
      go_simp
      refine (HH.out A1 c1 ta _ hla HA.out).mono ?_
      rintro e wx ⟨rfl, rfl⟩
      rw [HKA.out]
      refine hK.out _ _ (fun _ => HXc.out) ?_
      refine AnyT.step 10 (by kernel_rfl) ?_
      intro o ho K hK
      simp only [List.getElem?_toArray, List.getElem?_cons_succ, List.getElem?_cons_zero, Option.some.injEq] at ho
      subst ho
      go_simp
      refine (KB.out _ _ BB.out HXc.out).mono ?_
      rintro e wx ⟨A2, c2, rfl, hsb, hlb, hx⟩
      have HB := Lib.hid hsb
      have HXc := Lib.hid (HXc.out.trans hx)
      refine hK.out _ _ (fun _ => HXc.out) ?_
      refine AnyT.step 11 (by kernel_rfl) ?_
      intro o ho K hK
      simp only [List.getElem?_toArray, List.getElem?_cons_succ, List.getElem?_cons_zero, Option.some.injEq] at ho
      subst ho
      go_simp
      refine (HH.out A2 c2 tb _ hlb HB.out).mono ?_
      rintro e wx ⟨rfl, rfl⟩
      rw [HKB.out]
      refine hK.out _ _ (fun _ => HXc.out) ?_
      refine AnyT.step 12 (by kernel_rfl) ?_
      intro o ho K hK
      simp only [List.getElem?_toArray, List.getElem?_cons_succ, List.getElem?_cons_zero, Option.some.injEq] at ho
      subst ho
      go_simp
      refine (CU.out _).mono ?_
      rintro e wx ⟨rfl, hx⟩
      have HXc := Lib.hid (HXc.out.trans hx)
      refine hK.out _ _ (fun _ => HXc.out) ?_
      have HS0 := HXc
      refine AnyT.ld 13 6 ?_ _ rfl rfl (by kernel_rfl) (fun _ _ _ h => h) HS0.out rfl ?_ ?_
      rotate_left
      focus (intro w' hSw; have hs := HSI.out w' hSw; go_split_ands; go_simp; try (first | exact rfl | omega | go_num | (intro hbd; exfalso; omega)))
      simp only [Act.put, List.setIfInBounds_toArray, List.set_cons_zero, List.set_cons_succ]
      refine AnyT.done (by kernel_rfl) ?_
      clear HSI
      go_wp2
      go_ret
      exact ⟨_, rfl, HLT.out, HXc.out⟩
  · skip
    intro o ho K hK
    simp only [List.getElem?_toArray, List.getElem?_cons_succ, List.getElem?_cons_zero, Option.some.injEq] at ho
    subst ho
    go_simp
    refine hK.out _ _ (fun _ => HXc.out.alloc _) ?_
    refine box1 (P := fun W => AnyT _ _ _ _ _ _ _ _ _ W) fun WZ HXZ BB => ?_
    have HXc := Lib.hid (HXc.out.trans HXZ.out)
    clear HXZ
    refine AnyT.step 3 (by kernel_rfl) ?_
    intro o ho K hK
    simp only [List.getElem?_toArray, List.getElem?_cons_succ, List.getElem?_cons_zero, Option.some.injEq] at ho
    subst ho
    go_simp
    refine hK.out _ _ (fun _ => HXc.out.alloc _) ?_
    refine box1 (P := fun W => AnyT _ _ _ _ _ _ _ _ _ W) fun WZ HXZ BA => ?_
    have BB := Lib.hid (BB.out.ext (HXZ.out))
    have HXc := Lib.hid (HXc.out.trans HXZ.out)
    clear HXZ
    refine AnyT.step 4 (by kernel_rfl) ?_
    intro o ho K hK
    simp only [List.getElem?_toArray, List.getElem?_cons_succ, List.getElem?_cons_zero, Option.some.injEq] at ho
    subst ho
    go_simp
    refine (KA.out _ _ BA.out HXc.out).mono ?_
    rintro e wx ⟨A1, c1, rfl, hsa, hla, hx⟩
    have BB := Lib.hid (BB.out.ext (hx))
    have BA := Lib.hid (BA.out.ext (hx))
    have HA := Lib.hid hsa
    have HXc := Lib.hid (HXc.out.trans hx)
    refine hK.out _ _ (fun _ => HXc.out) ?_
    refine AnyT.step 5 (by kernel_rfl) ?_
    intro o ho K hK
    simp only [List.getElem?_toArray, List.getElem?_cons_succ, List.getElem?_cons_zero, Option.some.injEq] at ho
    subst ho
    go_simp
    refine (HH.out A1 c1 ta _ hla HA.out).mono ?_
    rintro e wx ⟨rfl, rfl⟩
    rw [HKA.out]
    refine hK.out _ _ (fun _ => HXc.out) ?_
    refine AnyT.step 10 (by kernel_rfl) ?_
    intro o ho K hK
    simp only [List.getElem?_toArray, List.getElem?_cons_succ, List.getElem?_cons_zero, Option.some.injEq] at ho
    subst ho
    go_simp
    refine (KB.out _ _ BB.out HXc.out).mono ?_
    rintro e wx ⟨A2, c2, rfl, hsb, hlb, hx⟩
    have HB := Lib.hid hsb
    have HXc := Lib.hid (HXc.out.trans hx)
    refine hK.out _ _ (fun _ => HXc.out) ?_
    refine AnyT.step 11 (by kernel_rfl) ?_
    intro o ho K hK
    simp only [List.getElem?_toArray, List.getElem?_cons_succ, List.getElem?_cons_zero, Option.some.injEq] at ho
    subst ho
    go_simp
    refine (HH.out A2 c2 tb _ hlb HB.out).mono ?_
    rintro e wx ⟨rfl, rfl⟩
    rw [HKB.out]
    refine hK.out _ _ (fun _ => HXc.out) ?_
    refine AnyT.step 12 (by kernel_rfl) ?_
    intro o ho K hK
    simp only [List.getElem?_toArray, List.getElem?_cons_succ, List.getElem?_cons_zero, Option.some.injEq] at ho
    subst ho
    go_simp
    refine (CU.out _).mono ?_
    rintro e wx ⟨rfl, hx⟩
    have HXc := Lib.hid (HXc.out.trans hx)
    refine hK.out _ _ (fun _ => HXc.out) ?_
    have HS0 := HXc
    refine AnyT.ld 13 6 ?_ _ rfl rfl (by kernel_rfl) (fun _ _ _ h => h) HS0.out rfl ?_ ?_
    rotate_left
    focus (intro w' hSw; have hs := HSI.out w' hSw; go_split_ands; go_simp; try (first | exact rfl | omega | go_num | (intro hbd; exfalso; omega)))
    simp only [Act.put, List.setIfInBounds_toArray, List.set_cons_zero, List.set_cons_succ]
    refine AnyT.done (by kernel_rfl) ?_
    clear HSI
    go_wp2
    go_ret
    exact ⟨_, rfl, HLT.out, HXc.out⟩
end Go.Proofs.YthalpbjkkfkheaaDoor
