/- Machines as values; machine.ascending, Check, read. -/
import Derived.Test.YtemnoemjmeflbaaGreatDoorMPlain
import Derived.Test.YtemnoemjmeflbaaGreatDoorShuf
import Derived.Test.YtemnoemjmeflbaaGreatDoorText
namespace Go.Proofs.YtemnoemjmeflbaaGreatDoor
open Go.RowKit Go.Lib

abbrev tMach : TypeId := 33
abbrev tCoor : TypeId := 70
/-- v is a machine, as texts -/
def MV (w : World) (v : Value) (n : Nat) (c : Rat) (lin : List Rat) (fac : List (List Rat)) : Prop := ∃ Af cf Al cl Ax cx, v = .agg #[.slice Af n cf, .string ⟨(ratText c).toArray⟩, .slice Al n cl, .slice Ax n cx] ∧ IL w (.slice Af n cf) (upto n) ∧ RL w (.slice Al n cl) lin ∧ PL w (.slice Ax n cx) fac
theorem MV.ext {w w' : World} {v : Value} {n : Nat} {c : Rat} {lin : List Rat} {fac : List (List Rat)} (h : MV w v n c lin fac) (hx : Ext w w') : MV w' v n c lin fac := by
  obtain ⟨Af, cf, Al, cl, Ax, cx, h1, h2, h3, h4⟩ := h
  exact ⟨Af, cf, Al, cl, Ax, cx, h1, IL.ext h2 hx, RL.ext h3 hx, PL.ext h4 hx⟩
/-- a machine that is small enough -/
structure MOk (n r : Nat) (c : Rat) (lin : List Rat) (fac : List (List Rat)) : Prop where
  n1 : 1 ≤ n
  n3 : n ≤ 3
  r2 : r ≤ 2
  ll : lin.length = n
  fl : fac.length = n
  fr : ∀ f ∈ fac, f.length = r
  fc : FitQ 2 c
  flin : ∀ q ∈ lin, FitQ 2 q
  ffac : ∀ f ∈ fac, ∀ q ∈ f, FitQ 2 q
theorem cap_le {α : Type} {t : TypeId} {R : World → List Value → α → Prop} {w : World} {A : Option Addr} {n c : Nat} {l : List α} (h : Ls t R w (.slice A n c) l) : n = l.length ∧ n ≤ c ∧ c ≤ 9223372036854775807 := by
  obtain ⟨_, _, _, e, h1, h2, _⟩ := h
  injection e with _ e1 e2
  subst e2
  unfold maxLen at h2
  omega
set_option maxRecDepth 100000 in
set_option maxHeartbeats 4000000 in
theorem ascending_any (A : Option Addr) (n c : Nat) (w : World) (h : IL w (.slice A n c) (upto n)) (h1 : 1 ≤ n) (h3 : n ≤ 3) :
    Calls Tryz.prog 54 #[.slice A n c] w fun e w' => e = .returned (.bool true) ∧ Ext w w' := by
  have HI := Lib.hid h
  obtain ⟨-, hnc, hcm⟩ := cap_le h
  clear h
  have d1 : decide ((n : Int) < 1) = false := decide_eq_false (by omega)
  have d3 : decide ((n : Int) > 3) = false := decide_eq_false (by omega)
  go_enter Tryz.func54, Tryz.ntmps54
  go_wp2_with fail
  clear d1 d3
  go_loopw [3, 4, 15] (fun _ _ v15 wr => ∃ k : Nat, k ≤ n ∧ v15 = .int .i64 k ∧ Hid (Ext w wr)) (fun _ _ v15 _ => n - (RowKit.intOf v15).toNat)
  case atStart => exact ⟨0, Nat.zero_le _, rfl, Ext.refl _⟩
  case round =>
    obtain ⟨k, hk, rfl, HXr⟩ := hrel
    by_cases hkn : k < n
    · obtain ⟨g, o, rfl, _, hc1⟩ := IL.get (IL.ext HI.out HXr.out) (i := k) (by rw [upto_length]; exact hkn)
      rw [show (upto n)[k]'(by rw [upto_length]; exact hkn) = (k : Int) by simp [upto]] at hc1
      have d0 : decide ((k : Int) < 0) = false := decide_eq_false (by omega)
      by_cases hk0 : k = 0
      · have dp : decide ((k : Int) > 0) = false := decide_eq_false (by omega)
        have dp' : decide (k > 0) = false := decide_eq_false (by omega)
        have dp'' : decide (0 < k) = false := decide_eq_false (by omega)
        have dp3 : ¬ 0 < k := by omega
        clear hk0
        go_wp2_with fail
        go_roundw
        case rel => exact ⟨k + 1, by omega, by go_num, HXr⟩
        case measure => simp [RowKit.intOf]; omega
      · have dp : decide ((k : Int) > 0) = true := decide_eq_true (by omega)
        obtain ⟨g', o', e, _, hc2⟩ := IL.get (IL.ext HI.out HXr.out) (i := k - 1) (by rw [upto_length]; omega)
        injection e with e
        injection e with e1 e2
        subst e1 e2
        rw [show (upto n)[k - 1]'(by rw [upto_length]; omega) = ((k - 1 : Nat) : Int) by simp [upto]] at hc2
        have hkk : (k : Int) - 1 = ((k - 1 : Nat) : Int) := by omega
        have dg : decide (((k - 1 : Nat) : Int) ≥ (k : Int)) = false := decide_eq_false (by omega)
        generalize k - 1 = j at *
        go_wp2_with fail
        go_roundw
        case rel => exact ⟨k + 1, by omega, by go_num, HXr⟩
        case measure => simp [RowKit.intOf]; omega
    · obtain rfl : k = n := by omega
      go_wp2
      go_ret
      exact ⟨rfl, HXr.out⟩
set_option maxRecDepth 100000 in
set_option maxHeartbeats 4000000 in
theorem check_any (v : Value) (n r : Nat) (c : Rat) (lin : List Rat) (fac : List (List Rat)) (w : World) (h : MV w v n c lin fac) (hm : MOk n r c lin fac) :
    Calls Tryz.prog 27 #[v] w fun e w' => e = .returned (.int .i64 0) ∧ Ext w w' := by
  obtain ⟨Af, cf, Al, cl, Ax, cx, rfl, h1, h2, h3⟩ := h
  have HM := Lib.hid hm
  have HF := Lib.hid h1
  have HL := Lib.hid h2
  have HX := Lib.hid h3
  obtain ⟨-, -, hcf⟩ := cap_le h1
  obtain ⟨-, -, hcl⟩ := cap_le h2
  obtain ⟨-, -, hcx⟩ := cap_le h3
  have hn3 := hm.n3
  have hn1 := hm.n1
  have hr2 := hm.r2
  have RV := Lib.hid (fun w' => rvalid_any c w' (hm.fc.mono (by decide)))
  generalize ratText c = tc at *
  clear h1 h2 h3 hm
  go_enter Tryz.func27, Tryz.ntmps27
  go_wp2_with fail
  refine box1 (P := fun W => Calls _ _ _ W _) fun W HX0 BX => ?_
  refine (ascending_any Af n cf W (IL.ext HF.out HX0.out) hn1 hn3).mono ?_
  rintro e w1 ⟨rfl, hx1⟩
  have BX1 := Lib.hid (BX.out.ext hx1)
  have HX1 := Lib.hid (HX0.out.trans hx1)
  clear BX hx1 HX0
  obtain ⟨k0, k1, k2, k3⟩ := BX1.out.four
  go_wp2_with fail
  refine (RV.out w1).mono ?_
  rintro e w2 ⟨rfl, hx2⟩
  have BX2 := Lib.hid (BX1.out.ext hx2)
  have HX2 := Lib.hid (HX1.out.trans hx2)
  clear BX1 hx2 HX1 k0 k1 k2 k3
  obtain ⟨k0, k1, k2, k3⟩ := BX2.out.four
  go_wp2_with fail
  refine (xvalid_any _ lin w2 (RL.ext HL.out HX2.out) (fun q hq => (HM.out.flin q hq).mono (by decide))).mono ?_
  rintro e w3 ⟨rfl, hx3⟩
  have BX3 := Lib.hid (BX2.out.ext hx3)
  have HX3 := Lib.hid (HX2.out.trans hx3)
  clear BX2 hx3 HX2 k0 k1 k2 k3
  obtain ⟨k0, k1, k2, k3⟩ := BX3.out.four
  go_wp2_with fail
  clear k0 k1 k2 k3
  go_loopw [4, 42] (fun _ v42 wr => ∃ k : Nat, k ≤ n ∧ v42 = .int .i64 k ∧ Hid (Ext w3 wr)) (fun _ v42 _ => n - (RowKit.intOf v42).toNat)
  case atStart => exact ⟨0, Nat.zero_le _, rfl, Ext.refl _⟩
  case round =>
    obtain ⟨k, hk, rfl, HXr⟩ := hrel
    by_cases hkn : k < n
    · have HP := Lib.hid (PL.ext HX.out (HX3.out.trans HXr.out))
      have hkf : k < fac.length := by rw [HM.out.fl]; exact hkn
      have h0f : 0 < fac.length := by rw [HM.out.fl]; omega
      obtain ⟨g1, o1, A1, c1, rfl, _, L1, p1⟩ := OneR.get HP.out hkf
      obtain ⟨g2, o2, A2, c2, e, _, _, p2⟩ := OneR.get HP.out h0f
      injection e with e
      injection e with e1 e2
      subst e1 e2
      have VA := Lib.hid (xvalid_any _ _ wr L1.out (fun q hq => (HM.out.ffac _ (List.getElem_mem hkf) q hq).mono (by decide)))
      rw [HM.out.fr _ (List.getElem_mem hkf)] at p1 VA
      rw [HM.out.fr _ (List.getElem_mem h0f), Nat.add_zero] at p2
      have BXr := Lib.hid (BX3.out.ext HXr.out)
      obtain ⟨k0, k1, k2, k3⟩ := BXr.out.four
      have dr : decide ((r : Int) > 2) = false := decide_eq_false (by omega)
      clear L1
      go_wp2_with fail
      refine VA.out.mono ?_
      rintro e w4 ⟨rfl, hx4⟩
      have HX4 := Lib.hid (HXr.out.trans hx4)
      clear k0 k1 k2 k3 p1 p2 hx4 dr
      go_wp2_with fail
      go_roundw
      case rel => exact ⟨k + 1, by omega, by go_num, HX4⟩
      case measure => simp [RowKit.intOf]; omega
    · obtain rfl : k = n := by omega
      go_wp2
      go_ret
      exact ⟨rfl, HX3.out.trans HXr.out⟩
/-- v is a machine's numbers -/
def CV (w : World) (v : Value) (n : Nat) (c : Rat) (lin : List Rat) (fac : List (List Rat)) : Prop := ∃ b A m d b' A' m' d' Al cl Ax cx, v = .agg #[.bool b, .slice A m d, .bool b', .slice A' m' d', .slice Al n cl, .slice Ax n cx] ∧ FracV w (.agg #[.bool b, .slice A m d, .bool b', .slice A' m' d']) c ∧ FL w (.slice Al n cl) lin ∧ GL w (.slice Ax n cx) fac
theorem storeG {a w : World} {g i : Nat} {t : TypeId} {l : List Value} (hB : Blk w g t l) (he : Ext a w) (hg : a.heap.size ≤ g) (x : Value) :
    ∃ W', w.setCell ⟨g, i, none⟩ x = W' ∧ Hid (Blk W' g t (l.set i x)) ∧ Hid (∀ u, t ≠ u → Kept u w W') ∧ Hid (Ext a W') ∧ Hid (Only g w W') :=
  ⟨_, rfl, hB.set_ i x, fun _ hu => hB.kept_set hu i x, he.setCell hg x, (Only.refl g w).set_ i x⟩
theorem blkG {w w' : World} {g base k n : Nat} {t e : TypeId} {l xs : List Value} {v : Value} (hB : Blk w g t l) (hown : w.ownsRow base e k v n xs) (hg : w.grownBy w' v.ownBlock) (hl : g < base) : Blk w' g t l :=
  (hg.block g hB.lt (fun h => by have := (hown.lt g h.symm).1; omega)).trans hB
theorem Blk.six {w : World} {g : Nat} {t : TypeId} {a b c d e f : Value} (h : Blk w g t [a, b, c, d, e, f]) : w.cell? ⟨g, 0, none⟩ = some a ∧ w.cell? ⟨g, 1, none⟩ = some b ∧ w.cell? ⟨g, 2, none⟩ = some c ∧ w.cell? ⟨g, 3, none⟩ = some d ∧ w.cell? ⟨g, 4, none⟩ = some e ∧ w.cell? ⟨g, 5, none⟩ = some f :=
  ⟨h.cell (i := 0) rfl, h.cell (i := 1) rfl, h.cell (i := 2) rfl, h.cell (i := 3) rfl, h.cell (i := 4) rfl, h.cell (i := 5) rfl⟩
theorem Blk.free6 {w : World} {g : Nat} {t : TypeId} {l : List Value} (h : Blk w g t l) : w.frozen? ⟨g, 0, none⟩ = false ∧ w.frozen? ⟨g, 1, none⟩ = false ∧ w.frozen? ⟨g, 2, none⟩ = false ∧ w.frozen? ⟨g, 3, none⟩ = false ∧ w.frozen? ⟨g, 4, none⟩ = false ∧ w.frozen? ⟨g, 5, none⟩ = false :=
  ⟨h.frozen 0, h.frozen 1, h.frozen 2, h.frozen 3, h.frozen 4, h.frozen 5⟩
theorem put6 {a w : World} {g : Nat} {t : TypeId} {u0 u1 u2 u3 u4 u5 : Value} (hB : Blk w g t [u0, u1, u2, u3, u4, u5]) (he : Ext a w) (hg : a.heap.size ≤ g) (x0 x1 x2 x3 x4 x5 : Value) :
    ∃ W', ((((((w.setCell ⟨g, 0, none⟩ x0).setCell ⟨g, 1, none⟩ x1).setCell ⟨g, 2, none⟩ x2).setCell ⟨g, 3, none⟩ x3).setCell ⟨g, 4, none⟩ x4).setCell ⟨g, 5, none⟩ x5) = W' ∧ Hid (Blk W' g t [x0, x1, x2, x3, x4, x5]) ∧ Hid (∀ u, t ≠ u → Kept u w W') ∧ Hid (Ext a W') := by
  have b0 := hB.set_ 0 x0
  have b1 := b0.set_ 1 x1
  have b2 := b1.set_ 2 x2
  have b3 := b2.set_ 3 x3
  have b4 := b3.set_ 4 x4
  have b5 := b4.set_ 5 x5
  exact ⟨_, rfl, b5, fun u hu => (((((hB.kept_set hu 0 x0).trans (b0.kept_set hu 1 x1)).trans (b1.kept_set hu 2 x2)).trans (b2.kept_set hu 3 x3)).trans (b3.kept_set hu 4 x4)).trans (b4.kept_set hu 5 x5),
    (((((he.setCell hg _).setCell hg _).setCell hg _).setCell hg _).setCell hg _).setCell hg _⟩
/-- the end of a function whose result is a machine's numbers in a box of its own -/
theorem ret_coor {fn : Func} {t g : Nat} {w w1 : World} {x0 x1 x2 x3 x4 x5 u0 u1 u2 u3 u4 u5 : Value} {a : Act} {R : Ending → World → Prop} (hres : fn.results = #[.cell t tCoor]) (ht : a.tmps.getD t undef = .pointer (some ⟨g, 0, none⟩)) (hd : a.defers = [])
    (hB : Blk w1 g tCoor [u0, u1, u2, u3, u4, u5]) (hx : Ext w w1) (hg : w.heap.size ≤ g) (hR : ∀ W', (∀ u, tCoor ≠ u → Kept u w1 W') → Ext w W' → R (.returned (.agg #[x0, x1, x2, x3, x4, x5])) W') :
    bodyPost Tryz.prog fn R .ret a ((((((w1.setCell ⟨g, 0, none⟩ x0).setCell ⟨g, 1, none⟩ x1).setCell ⟨g, 2, none⟩ x2).setCell ⟨g, 3, none⟩ x3).setCell ⟨g, 4, none⟩ x4).setCell ⟨g, 5, none⟩ x5) := by
  have b0 := hB.set_ 0 x0
  have b1 := b0.set_ 1 x1
  have b2 := b1.set_ 2 x2
  have b3 := b2.set_ 3 x3
  have b4 := b3.set_ 4 x4
  have b5 := b4.set_ 5 x5
  exact bodyPost_ret (results_cell_row hres a.tmps _ g tCoor #[x0, x1, x2, x3, x4, x5] (0, 0) _ ht b5 Tryz.underlying70 rfl (by kernel_rfl)) hd
    (hR _ (fun u hu => (((((hB.kept_set hu 0 x0).trans (b0.kept_set hu 1 x1)).trans (b1.kept_set hu 2 x2)).trans (b2.kept_set hu 3 x3)).trans (b3.kept_set hu 4 x4)).trans (b4.kept_set hu 5 x5)) ((((((hx.setCell hg _).setCell hg _).setCell hg _).setCell hg _).setCell hg _).setCell hg _))
theorem CV.ext {w w' : World} {v : Value} {n : Nat} {c : Rat} {lin : List Rat} {fac : List (List Rat)} (h : CV w v n c lin fac) (hx : Ext w w') : CV w' v n c lin fac := by
  obtain ⟨b, A, m, d, b', A', m', d', Al, cl, Ax, cx, h1, h2, h3, h4⟩ := h
  exact ⟨b, A, m, d, b', A', m', d', Al, cl, Ax, cx, h1, h2.ext hx, FL.ext h3 hx, GL.ext h4 hx⟩
set_option maxRecDepth 100000 in
set_option maxHeartbeats 4000000 in
theorem mread_any (v : Value) (n r : Nat) (c : Rat) (lin : List Rat) (fac : List (List Rat)) (w : World) (h : MV w v n c lin fac) (hm : MOk n r c lin fac) :
    Calls Tryz.prog 34 #[v] w fun e w' => ∃ v', e = .returned v' ∧ CV w' v' n c lin fac ∧ Ext w w' := by
  obtain ⟨Af, cf, Al, cl, Ax, cx, rfl, h1, h2, h3⟩ := h
  have HM := Lib.hid hm
  have HL := Lib.hid h2
  have HX := Lib.hid h3
  obtain ⟨-, -, hcx⟩ := cap_le h3
  have hn3 := hm.n3
  have hn1 := hm.n1
  have hr2 := hm.r2
  have HLL := Lib.hid hm.ll
  have RC := Lib.hid (fun w' => xread_any c w' (hm.fc.mono (by decide)))
  have RL' := Lib.hid (fun w' h => xlist_any (.slice Al n cl) lin w' h (fun q hq => (hm.flin q hq).mono (by decide)) (by rw [hm.ll]; omega))
  generalize ratText c = tc at *
  clear h1 h2 h3 hm
  go_enter Tryz.func34, Tryz.ntmps34
  go_upto_region 1 with fail
  refine box2 (P := fun W => Code.wp _ _ _ _ W) fun W HX0 BM BR => ?_
  go_cut [3] (fun s3 wx => ∃ gd a0 A0 a1 a2 b0 B0 b1 b2 A5 c5, s3 = .pointer (some ⟨gd, 0, none⟩) ∧ Hid (Blk wx gd tCoor [.bool a0, .slice A0 a1 a2, .bool b0, .slice B0 b1 b2, .slice A5 n c5, .slice none 0 0]) ∧ Hid (FracV wx (.agg #[.bool a0, .slice A0 a1 a2, .bool b0, .slice B0 b1 b2]) c) ∧ Hid (FL wx (.slice A5 n c5) lin) ∧ Hid (Ext W wx) ∧ W.heap.size ≤ gd)
  case first =>
    obtain ⟨S, hSd⟩ : ∃ S : World → Prop, S = fun w' => w'.cell? ⟨w.heap.size, 1, none⟩ = some (.string ⟨tc.toArray⟩) ∧ w'.cell? ⟨w.heap.size, 2, none⟩ = some (.slice Al n cl) := ⟨_, rfl⟩
    have HSI : Hid (∀ w', S w' → w'.cell? ⟨w.heap.size, 1, none⟩ = some (.string ⟨tc.toArray⟩) ∧ w'.cell? ⟨w.heap.size, 2, none⟩ = some (.slice Al n cl)) := by rw [Hid, hSd]; exact fun _ h => h
    have HSE : Hid (∀ w', Ext W w' → S w') := by rw [Hid, hSd]; exact fun w' h => ⟨(BM.out.ext h).cell (i := 1) rfl, (BM.out.ext h).cell (i := 2) rfl⟩
    have HS0 : Hid (S W.drew) := HSE.out _ (Ext.refl W).drew
    clear hSd
    refine AnyT.start (S := S) (T := fun j => decide (8 ≤ j)) (by kernel_rfl) ?_
    refine AnyT.load 0 6 (.pointer (some ⟨w.heap.size, 1, none⟩)) rfl (by kernel_rfl) (by kernel_rfl) (by kernel_rfl) (by kernel_rfl) (by kernel_rfl) (fun _ _ _ h => h) HS0.out ?_ ?_
    · intro o ho
      simp only [List.getElem?_toArray, List.getElem?_cons_zero, Option.some.injEq] at ho
      subst ho
      refine ⟨rfl, rfl, fun w' hSw => ?_⟩
      have hs := HSI.out w' hSw
      go_split_ands
      go_simp
    simp only [Act.put, List.setIfInBounds_toArray, List.set_cons_zero, List.set_cons_succ]
    refine AnyT.load 1 7 (.string ⟨tc.toArray⟩) rfl (by kernel_rfl) (by kernel_rfl) (by kernel_rfl) (by kernel_rfl) (by kernel_rfl) (fun _ _ _ h => h) HS0.out ?_ ?_
    · intro o ho
      simp only [List.getElem?_toArray, List.getElem?_cons_succ, List.getElem?_cons_zero, Option.some.injEq] at ho
      subst ho
      refine ⟨rfl, rfl, fun w' hSw => ?_⟩
      have hs := HSI.out w' hSw
      go_split_ands
      go_simp
    simp only [Act.put, List.setIfInBounds_toArray, List.set_cons_zero, List.set_cons_succ]
    refine AnyT.load 3 9 (.pointer (some ⟨w.heap.size, 2, none⟩)) rfl (by kernel_rfl) (by kernel_rfl) (by kernel_rfl) (by kernel_rfl) (by kernel_rfl) (fun _ _ _ h => h) HS0.out ?_ ?_
    · intro o ho
      simp only [List.getElem?_toArray, List.getElem?_cons_succ, List.getElem?_cons_zero, Option.some.injEq] at ho
      subst ho
      refine ⟨rfl, rfl, fun w' hSw => ?_⟩
      have hs := HSI.out w' hSw
      go_split_ands
      go_simp
    simp only [Act.put, List.setIfInBounds_toArray, List.set_cons_zero, List.set_cons_succ]
    refine AnyT.load 4 10 (.slice Al n cl) rfl (by kernel_rfl) (by kernel_rfl) (by kernel_rfl) (by kernel_rfl) (by kernel_rfl) (fun _ _ _ h => h) HS0.out ?_ ?_
    · intro o ho
      simp only [List.getElem?_toArray, List.getElem?_cons_succ, List.getElem?_cons_zero, Option.some.injEq] at ho
      subst ho
      refine ⟨rfl, rfl, fun w' hSw => ?_⟩
      have hs := HSI.out w' hSw
      go_split_ands
      go_simp
    simp only [Act.put, List.setIfInBounds_toArray, List.set_cons_zero, List.set_cons_succ]
    refine AnyT.two 2 7 (by kernel_rfl) ?_ ?_
    · skip
      intro o ho K hK
      simp only [List.getElem?_toArray, List.getElem?_cons_succ, List.getElem?_cons_zero, Option.some.injEq] at ho
      subst ho
      go_simp
      refine (RC.out _).mono ?_
      rintro e w2 ⟨v2, rfl, hv2, hx2⟩
      obtain ⟨a0, A0, a1, a2, b0, B0, b1, b2, rfl, _, _⟩ := hv2.parts
      have hy2 := ((Ext.refl W).drew).trans hx2
      have HV2 := Lib.hid hv2
      clear hv2
      refine hK.out _ _ (fun _ => HSE.out _ hy2) ?_
      refine AnyT.two 5 7 (by kernel_rfl) ?_ ?_
      · skip
        intro o ho K hK
        simp only [List.getElem?_toArray, List.getElem?_cons_succ, List.getElem?_cons_zero, Option.some.injEq] at ho
        subst ho
        go_simp
        refine (RL'.out _ (RL.ext HL.out (HX0.out.trans hy2))).mono ?_
        rintro e w5 ⟨v5, rfl, hv5, hx5⟩
        obtain ⟨A5, c5, rfl, _, _, HV5⟩ := hv5.parts
        have hy5 := (hy2).trans hx5
        clear hv5
        refine hK.out _ _ (fun _ => HSE.out _ hy5) ?_
        refine AnyT.two 6 7 (by kernel_rfl) ?_ ?_
        · skip
          intro o ho K hK
          simp only [List.getElem?_toArray, List.getElem?_cons_succ, List.getElem?_cons_zero, Option.some.injEq] at ho
          subst ho
          go_simp
          refine hK.out _ _ (fun _ => HSE.out _ hy5) ?_
          refine AnyT.step 7 (by kernel_rfl) ?_
          intro o ho K hK
          simp only [List.getElem?_toArray, List.getElem?_cons_succ, List.getElem?_cons_zero, Option.some.injEq] at ho
          subst ho
          go_simp
          refine hK.out _ _ (fun _ => HSE.out _ (hy5.alloc _)) ?_
          refine box1 (w := w5) (P := fun W => AnyT _ _ _ _ _ _ _ _ _ W) fun WZ HXZ BZ5 => ?_
          have hyE := hy5.trans HXZ.out
          have hgZ := hy5.size
          have hE2 := hx5.trans HXZ.out
          have hE5 := HXZ.out
          have HFA := Lib.hid (HV2.out.ext hE2)
          have HV5' := Lib.hid (FL.ext HV5.out hE5)
          rw [HLL.out] at HV5'
          obtain ⟨k0, k1, k2, k3, k4, k5⟩ := BZ5.out.six
          obtain ⟨f0, f1, f2, f3, f4, f5⟩ := BZ5.out.free6
          obtain ⟨W', hW', HBN, HKN, HEN⟩ := put6 BZ5.out hyE hgZ (.bool a0) (.slice A0 a1 a2) (.bool b0) (.slice B0 b1 b2) (.slice A5 lin.length c5) (.slice none 0 0)
          have HW := Lib.hid hW'
          clear hW'
          refine AnyT.step 8 (by kernel_rfl) ?_
          intro o ho K hK
          simp only [List.getElem?_toArray, List.getElem?_cons_succ, List.getElem?_cons_zero, Option.some.injEq] at ho
          subst ho
          go_simp
          refine hK.out _ _ (fun h => by cases h) ?_
          refine AnyT.done (by kernel_rfl) ?_
          rw [HW.out]
          clear k0 k1 k2 k3 k4 k5 f0 f1 f2 f3 f4 f5
          go_wp2_with fail
          go_meet
          exact ⟨_, _, _, _, _, _, _, _, _, A5, c5, rfl, by rw [HLL.out] at HBN; exact HBN, HFA.out.keep (HKN.out _ (by decide)), HV5'.out.keep FrR.stab (fun u hu => HKN.out u (by rintro rfl; revert hu; decide)), HEN, hgZ⟩
        · skip
          intro o ho K hK
          simp only [List.getElem?_toArray, List.getElem?_cons_succ, List.getElem?_cons_zero, Option.some.injEq] at ho
          subst ho
          go_simp
          refine hK.out _ _ (fun _ => HSE.out _ (hy5.alloc _)) ?_
          refine box1 (w := w5) (P := fun W => AnyT _ _ _ _ _ _ _ _ _ W) fun WZ HXZ BZ5 => ?_
          have hyE := hy5.trans HXZ.out
          have hgZ := hy5.size
          have hE2 := hx5.trans HXZ.out
          have hE5 := HXZ.out
          refine AnyT.step 6 (by kernel_rfl) ?_
          intro o ho K hK
          simp only [List.getElem?_toArray, List.getElem?_cons_succ, List.getElem?_cons_zero, Option.some.injEq] at ho
          subst ho
          go_simp
          refine hK.out _ _ (fun _ => HSE.out _ hyE) ?_
          have HFA := Lib.hid (HV2.out.ext hE2)
          have HV5' := Lib.hid (FL.ext HV5.out hE5)
          rw [HLL.out] at HV5'
          obtain ⟨k0, k1, k2, k3, k4, k5⟩ := BZ5.out.six
          obtain ⟨f0, f1, f2, f3, f4, f5⟩ := BZ5.out.free6
          obtain ⟨W', hW', HBN, HKN, HEN⟩ := put6 BZ5.out hyE hgZ (.bool a0) (.slice A0 a1 a2) (.bool b0) (.slice B0 b1 b2) (.slice A5 lin.length c5) (.slice none 0 0)
          have HW := Lib.hid hW'
          clear hW'
          refine AnyT.step 8 (by kernel_rfl) ?_
          intro o ho K hK
          simp only [List.getElem?_toArray, List.getElem?_cons_succ, List.getElem?_cons_zero, Option.some.injEq] at ho
          subst ho
          go_simp
          refine hK.out _ _ (fun h => by cases h) ?_
          refine AnyT.done (by kernel_rfl) ?_
          rw [HW.out]
          clear k0 k1 k2 k3 k4 k5 f0 f1 f2 f3 f4 f5
          go_wp2_with fail
          go_meet
          exact ⟨_, _, _, _, _, _, _, _, _, A5, c5, rfl, by rw [HLL.out] at HBN; exact HBN, HFA.out.keep (HKN.out _ (by decide)), HV5'.out.keep FrR.stab (fun u hu => HKN.out u (by rintro rfl; revert hu; decide)), HEN, hgZ⟩
      · skip
        intro o ho K hK
        simp only [List.getElem?_toArray, List.getElem?_cons_succ, List.getElem?_cons_zero, Option.some.injEq] at ho
        subst ho
        go_simp
        refine hK.out _ _ (fun _ => HSE.out _ (hy2.alloc _)) ?_
        refine box1 (w := w2) (P := fun W => AnyT _ _ _ _ _ _ _ _ _ W) fun WZ HXZ BZ => ?_
        have hyZ := hy2.trans HXZ.out
        have hgZ := hy2.size
        refine AnyT.step 5 (by kernel_rfl) ?_
        intro o ho K hK
        simp only [List.getElem?_toArray, List.getElem?_cons_succ, List.getElem?_cons_zero, Option.some.injEq] at ho
        subst ho
        go_simp
        refine (RL'.out _ (RL.ext HL.out (HX0.out.trans hyZ))).mono ?_
        rintro e w5 ⟨v5, rfl, hv5, hx5⟩
        obtain ⟨A5, c5, rfl, _, _, HV5⟩ := hv5.parts
        have hy5 := (hyZ).trans hx5
        clear hv5
        refine hK.out _ _ (fun _ => HSE.out _ hy5) ?_
        have BZ5 := Lib.hid (BZ.out.ext hx5)
        have hyE := hy5
        have hE2 := HXZ.out.trans hx5
        have hE5 := Ext.refl w5
        refine AnyT.step 6 (by kernel_rfl) ?_
        intro o ho K hK
        simp only [List.getElem?_toArray, List.getElem?_cons_succ, List.getElem?_cons_zero, Option.some.injEq] at ho
        subst ho
        go_simp
        refine hK.out _ _ (fun _ => HSE.out _ hyE) ?_
        have HFA := Lib.hid (HV2.out.ext hE2)
        have HV5' := Lib.hid (FL.ext HV5.out hE5)
        rw [HLL.out] at HV5'
        obtain ⟨k0, k1, k2, k3, k4, k5⟩ := BZ5.out.six
        obtain ⟨f0, f1, f2, f3, f4, f5⟩ := BZ5.out.free6
        obtain ⟨W', hW', HBN, HKN, HEN⟩ := put6 BZ5.out hyE hgZ (.bool a0) (.slice A0 a1 a2) (.bool b0) (.slice B0 b1 b2) (.slice A5 lin.length c5) (.slice none 0 0)
        have HW := Lib.hid hW'
        clear hW'
        refine AnyT.step 8 (by kernel_rfl) ?_
        intro o ho K hK
        simp only [List.getElem?_toArray, List.getElem?_cons_succ, List.getElem?_cons_zero, Option.some.injEq] at ho
        subst ho
        go_simp
        refine hK.out _ _ (fun h => by cases h) ?_
        refine AnyT.done (by kernel_rfl) ?_
        rw [HW.out]
        clear k0 k1 k2 k3 k4 k5 f0 f1 f2 f3 f4 f5
        go_wp2_with fail
        go_meet
        exact ⟨_, _, _, _, _, _, _, _, _, A5, c5, rfl, by rw [HLL.out] at HBN; exact HBN, HFA.out.keep (HKN.out _ (by decide)), HV5'.out.keep FrR.stab (fun u hu => HKN.out u (by rintro rfl; revert hu; decide)), HEN, hgZ⟩
    · skip
      intro o ho K hK
      simp only [List.getElem?_toArray, List.getElem?_cons_succ, List.getElem?_cons_zero, Option.some.injEq] at ho
      subst ho
      go_simp
      refine hK.out _ _ (fun _ => HSE.out _ ((Ext.refl W).drew.alloc _)) ?_
      refine box1 (w := W.drew) (P := fun W => AnyT _ _ _ _ _ _ _ _ _ W) fun WZ HXZ BZ => ?_
      rw [show W.drew.heap.size = W.heap.size from rfl] at BZ
      have hyZ := (Ext.refl W).drew.trans HXZ.out
      have hgZ : W.heap.size ≤ W.heap.size := Nat.le_refl _
      refine AnyT.step 2 (by kernel_rfl) ?_
      intro o ho K hK
      simp only [List.getElem?_toArray, List.getElem?_cons_succ, List.getElem?_cons_zero, Option.some.injEq] at ho
      subst ho
      go_simp
      refine (RC.out _).mono ?_
      rintro e w2 ⟨v2, rfl, hv2, hx2⟩
      obtain ⟨a0, A0, a1, a2, b0, B0, b1, b2, rfl, _, _⟩ := hv2.parts
      have hy2 := (hyZ).trans hx2
      have HV2 := Lib.hid hv2
      clear hv2
      refine hK.out _ _ (fun _ => HSE.out _ hy2) ?_
      refine AnyT.step 5 (by kernel_rfl) ?_
      intro o ho K hK
      simp only [List.getElem?_toArray, List.getElem?_cons_succ, List.getElem?_cons_zero, Option.some.injEq] at ho
      subst ho
      go_simp
      refine (RL'.out _ (RL.ext HL.out (HX0.out.trans hy2))).mono ?_
      rintro e w5 ⟨v5, rfl, hv5, hx5⟩
      obtain ⟨A5, c5, rfl, _, _, HV5⟩ := hv5.parts
      have hy5 := (hy2).trans hx5
      clear hv5
      refine hK.out _ _ (fun _ => HSE.out _ hy5) ?_
      have BZ5 := Lib.hid (BZ.out.ext (hx2.trans hx5))
      have hyE := hy5
      have hE2 := hx5
      have hE5 := Ext.refl w5
      refine AnyT.step 6 (by kernel_rfl) ?_
      intro o ho K hK
      simp only [List.getElem?_toArray, List.getElem?_cons_succ, List.getElem?_cons_zero, Option.some.injEq] at ho
      subst ho
      go_simp
      refine hK.out _ _ (fun _ => HSE.out _ hyE) ?_
      have HFA := Lib.hid (HV2.out.ext hE2)
      have HV5' := Lib.hid (FL.ext HV5.out hE5)
      rw [HLL.out] at HV5'
      obtain ⟨k0, k1, k2, k3, k4, k5⟩ := BZ5.out.six
      obtain ⟨f0, f1, f2, f3, f4, f5⟩ := BZ5.out.free6
      obtain ⟨W', hW', HBN, HKN, HEN⟩ := put6 BZ5.out hyE hgZ (.bool a0) (.slice A0 a1 a2) (.bool b0) (.slice B0 b1 b2) (.slice A5 lin.length c5) (.slice none 0 0)
      have HW := Lib.hid hW'
      clear hW'
      refine AnyT.step 8 (by kernel_rfl) ?_
      intro o ho K hK
      simp only [List.getElem?_toArray, List.getElem?_cons_succ, List.getElem?_cons_zero, Option.some.injEq] at ho
      subst ho
      go_simp
      refine hK.out _ _ (fun h => by cases h) ?_
      refine AnyT.done (by kernel_rfl) ?_
      rw [HW.out]
      clear k0 k1 k2 k3 k4 k5 f0 f1 f2 f3 f4 f5
      go_wp2_with fail
      go_meet
      exact ⟨_, _, _, _, _, _, _, _, _, A5, c5, rfl, by rw [HLL.out] at HBN; exact HBN, HFA.out.keep (HKN.out _ (by decide)), HV5'.out.keep FrR.stab (fun u hu => HKN.out u (by rintro rfl; revert hu; decide)), HEN, hgZ⟩
  case rest =>
    obtain ⟨gd, a0, A0, a1, a2, b0, B0, b1, b2, A5, c5, rfl, HBD, HFD, HLD, HXC, hgd⟩ := hcut
    have BMC := Lib.hid (BM.out.ext HXC.out)
    have BRC := Lib.hid (BR.out.ext HXC.out)
    have HYC := Lib.hid (HX0.out.trans HXC.out)
    have hgc : gd < wc.heap.size := HBD.out.lt
    have hgr : w.heap.size + 1 < W.heap.size := BR.out.lt
    clear BM BR
    have m3 := BMC.out.cell (i := 3) rfl
    go_wp2_with fail
    clear m3
    go_loopw [5, 16] (fun _ v16 wr => ∃ (k : Nat) (v : Value), k ≤ n ∧ v16 = .int .i64 k ∧ Hid (OwnL tFracs 1 GR wc.heap.size wr v (fac.take k)) ∧ Hid (Blk wr gd tCoor [.bool a0, .slice A0 a1 a2, .bool b0, .slice B0 b1 b2, .slice A5 n c5, v]) ∧ wc.heap.size ≤ wr.heap.size ∧ Hid (Kept tU64 wc wr) ∧ Hid (Kept tFrac wc wr) ∧ Hid (Blk wr (w.heap.size + 1) tCoor [.bool false, .slice none 0 0, .bool false, .slice none 0 0, .slice none 0 0, .slice none 0 0]) ∧ Hid (Ext w wr)) (fun _ v16 _ => n - (RowKit.intOf v16).toNat)
    case atStart => exact ⟨0, _, Nat.zero_le _, rfl, OwnL.nil, HBD, Nat.le_refl _, .of_below (Ext.refl _), .of_below (Ext.refl _), BRC, HYC⟩
    case round =>
      obtain ⟨k, v, hk, rfl, HO, HB, hwr, HK1, HK2, HBR, HXr⟩ := hrel
      have hkf : k ≤ fac.length := by rw [HM.out.fl]; exact hk
      have HLK : Hid ((fac.take k).length = k) := by rw [Hid, List.length_take, Nat.min_eq_left hkf]
      obtain ⟨Av, cv, xs, rfl, _, _, HR, HC⟩ := HO.out.parts
      rw [HLK.out] at HR HB
      by_cases hkn : k < n
      · have hkf' : k < fac.length := by rw [HM.out.fl]; exact hkn
        obtain ⟨g1, o1, A1, c1, rfl, _, L1, p1⟩ := OneR.get (PL.ext HX.out HXr.out) hkf'
        have HNX := Lib.hid (List.take_succ_eq_append_getElem hkf')
        have LI := Lib.hid (fun w' (hx : Ext wr w') => xlist_any _ fac[k] w' (RL.ext L1.out hx) (fun q hq => (HM.out.ffac _ (List.getElem_mem hkf') q hq).mono (by decide)) (by rw [HM.out.fr _ (List.getElem_mem hkf')]; omega))
        have HRK := Lib.hid (HM.out.fr _ (List.getElem_mem hkf'))
        rw [HRK.out] at p1 LI
        have hbt : (k + 1) * 24 ≤ 140737488355328 := by omega
        generalize fac[k] = fk at *
        clear L1
        go_upto_region 5 with fail
        clear p1
        obtain ⟨S, hSd⟩ : ∃ S : World → Prop, S = fun w' => w'.cell? ⟨gd, 5, none⟩ = some (.slice Av k cv) := ⟨_, rfl⟩
        have HSI : Hid (∀ w', S w' → w'.cell? ⟨gd, 5, none⟩ = some (.slice Av k cv)) := by rw [Hid, hSd]; exact fun _ h => h
        have HSB : Hid (∀ w', Blk w' gd tCoor [.bool a0, .slice A0 a1 a2, .bool b0, .slice B0 b1 b2, .slice A5 n c5, .slice Av k cv] → S w') := by rw [Hid, hSd]; exact fun w' h => h.cell (i := 5) rfl
        have HSE : Hid (∀ w', Ext wr w' → S w') := fun w' h => HSB.out w' (HB.out.ext h)
        have HS0 : Hid (S wr.drew) := HSE.out _ (Ext.refl wr).drew
        clear hSd
        refine AnyT.start (S := S) (T := fun j => decide (7 ≤ j)) (by kernel_rfl) ?_
        refine AnyT.load 0 20 (.pointer (some ⟨gd, 5, none⟩)) rfl (by kernel_rfl) (by kernel_rfl) (by kernel_rfl) (by kernel_rfl) (by kernel_rfl) (fun _ _ _ h => h) HS0.out ?_ ?_
        · intro o ho
          simp only [List.getElem?_toArray, List.getElem?_cons_zero, Option.some.injEq] at ho
          subst ho
          refine ⟨rfl, rfl, fun w' hSw => ?_⟩
          have hs := HSI.out w' hSw
          go_split_ands
          go_simp
        simp only [Act.put, List.setIfInBounds_toArray, List.set_cons_zero, List.set_cons_succ]
        refine AnyT.load 1 21 (.slice Av k cv) rfl (by kernel_rfl) (by kernel_rfl) (by kernel_rfl) (by kernel_rfl) (by kernel_rfl) (fun _ _ _ h => h) HS0.out ?_ ?_
        · intro o ho
          simp only [List.getElem?_toArray, List.getElem?_cons_succ, List.getElem?_cons_zero, Option.some.injEq] at ho
          subst ho
          refine ⟨rfl, rfl, fun w' hSw => ?_⟩
          have hs := HSI.out w' hSw
          go_split_ands
          go_simp
        simp only [Act.put, List.setIfInBounds_toArray, List.set_cons_zero, List.set_cons_succ]
        refine AnyT.load 2 22 (.slice A1 r c1) rfl (by kernel_rfl) (by kernel_rfl) (by kernel_rfl) (by kernel_rfl) (by kernel_rfl) (fun _ _ _ h => h) HS0.out ?_ ?_
        · intro o ho
          simp only [List.getElem?_toArray, List.getElem?_cons_succ, List.getElem?_cons_zero, Option.some.injEq] at ho
          subst ho
          refine ⟨rfl, rfl, fun w' hSw => ?_⟩
          have hs := HSI.out w' hSw
          go_split_ands
          go_simp
        simp only [Act.put, List.setIfInBounds_toArray, List.set_cons_zero, List.set_cons_succ]
        refine AnyT.step 3 (by kernel_rfl) ?_
        intro o ho K hK
        simp only [List.getElem?_toArray, List.getElem?_cons_succ, List.getElem?_cons_zero, Option.some.injEq] at ho
        subst ho
        go_simp
        refine (LI.out _ (Ext.refl wr).drew).mono ?_
        rintro e w5 ⟨v5, rfl, hv5, hx5⟩
        have hy5 := (Ext.refl wr).drew.trans hx5
        obtain ⟨A7, c7, rfl, _, _, HV5⟩ := hv5.parts
        rw [HRK.out]
        refine hK.out _ _ (fun _ => HSE.out _ hy5) ?_
        refine AnyT.step 4 (by kernel_rfl) ?_
        intro o ho K hK
        simp only [List.getElem?_toArray, List.getElem?_cons_succ, List.getElem?_cons_zero, Option.some.injEq] at ho
        subst ho
        go_simp
        refine hK.out _ _ (fun _ => HSE.out _ (hy5.alloc _)) ?_
        have HO5 := Lib.hid (own_extR HR.out hy5)
        have HC5 : Hid (Ch (GR w5) xs (fac.take k)) := HC.out.mono fun c x hc => GR.stab _ _ _ _ (fun _ _ => .of_below hy5) hc
        have hw5 : wc.heap.size ≤ w5.heap.size := Nat.le_trans hwr hy5.size
        refine AnyT.step 5 (by kernel_rfl) ?_
        intro o ho K hK
        simp only [List.getElem?_toArray, List.getElem?_cons_succ, List.getElem?_cons_zero, Option.some.injEq] at ho
        subst ho
        refine if_go rfl ?_
        refine wp_app1 _ _ 68 rfl wc.heap.size fracs_slice _ _ _ rfl HO5.out #[.slice A7 r c7] 1 1 rfl rfl rfl hbt hw5 ?_
        intro v' w6 ho6 hg6
        obtain ⟨A6, c6, rfl, _, _, _⟩ := own_parts ho6
        have O6 : Hid (OwnL tFracs 1 GR wc.heap.size w6 (.slice A6 (k + 1) c6) (fac.take k ++ [fk])) := OwnL.snoc (R := GR) (w := w5) (x := fk) GR.stab (by decide) (by rw [HLK.out]; exact HO5.out) HC5.out ⟨A7, c7, by rw [HRK.out], HV5.out⟩ (by rw [HLK.out]; exact ho6) hg6
        have B6 := Lib.hid (blkG (HB.out.ext hy5) HO5.out hg6 hgc)
        have BR6 := Lib.hid (blkG (HBR.out.ext hy5) HO5.out hg6 (by omega))
        have K16 := Lib.hid ((HK1.out.trans (.of_below hy5)).trans (Kept.grown (t := tU64) HO5.out hg6 (by decide)))
        have K26 := Lib.hid ((HK2.out.trans (.of_below hy5)).trans (Kept.grown (t := tFrac) HO5.out hg6 (by decide)))
        have X6 := Lib.hid (grown_below (HXr.out.trans hy5) HO5.out hg6 (by omega))
        have hw6 : wc.heap.size ≤ w6.heap.size := Nat.le_trans hw5 hg6.size
        clear ho6 hg6
        simp only [Act.put, List.setIfInBounds_toArray, List.set_cons_zero, List.set_cons_succ]
        refine hK.out _ _ (fun _ => HSB.out _ B6.out) ?_
        refine AnyT.step 6 (by kernel_rfl) ?_
        intro o ho K hK
        simp only [List.getElem?_toArray, List.getElem?_cons_succ, List.getElem?_cons_zero, Option.some.injEq] at ho
        subst ho
        go_simp
        refine hK.out _ _ (fun _ => HSB.out _ B6.out) ?_
        have i0 := B6.out.cell (i := 5) rfl
        have i1 := B6.out.frozen 5
        obtain ⟨W', hW', B7, K7, X7, N7⟩ := storeG (i := 5) B6.out X6.out (by omega) (.slice A6 (k + 1) c6)
        have HW := Lib.hid hW'
        have O7 : Hid (OwnL tFracs 1 GR wc.heap.size W' (.slice A6 (k + 1) c6) (fac.take (k + 1))) := by
          rw [Hid, HNX.out]
          exact O6.out.only GR.stab N7.out hgc (fun u hu => K7.out u (by rintro rfl; revert hu; decide))
        have BR7 := Lib.hid (BR6.out.only N7.out (by omega))
        have K17 := Lib.hid (K16.out.trans (K7.out tU64 (by decide)))
        have K27 := Lib.hid (K26.out.trans (K7.out tFrac (by decide)))
        clear hW' hy5 hx5 hv5
        refine AnyT.step 7 (by kernel_rfl) ?_
        intro o ho K hK
        simp only [List.getElem?_toArray, List.getElem?_cons_succ, List.getElem?_cons_zero, Option.some.injEq] at ho
        subst ho
        go_simp
        refine hK.out _ _ (fun h => by cases h) ?_
        refine AnyT.done (by kernel_rfl) ?_
        rw [HW.out]
        clear i0 i1
        go_wp2_with fail
        go_roundw
        case rel => exact ⟨k + 1, _, by omega, by go_num, O7, B7, Nat.le_trans hw6 N7.out.size, K17, K27, BR7, X7⟩
        case measure => simp [RowKit.intOf]; omega
      · obtain rfl : k = n := by omega
        rw [List.take_of_length_le (by rw [HM.out.fl]; exact Nat.le_refl _)] at HO
        have HGL := HO.out.ls
        rw [HM.out.fl] at HGL
        have HCV : Hid (∀ W', (∀ u, tCoor ≠ u → Kept u wr W') → CV W' (.agg #[.bool a0, .slice A0 a1 a2, .bool b0, .slice B0 b1 b2, .slice A5 k c5, .slice Av k cv]) k c lin fac) := fun W' hW => ⟨a0, A0, a1, a2, b0, B0, b1, b2, A5, c5, Av, cv, rfl, (HFD.out.keep HK1.out).keep (hW _ (by decide)), (HLD.out.keep FrR.stab (fun u hu => by
          simp only [List.mem_cons, List.not_mem_nil, or_false] at hu
          rcases hu with rfl | rfl
          · exact HK2.out
          · exact HK1.out)).keep FrR.stab (fun u hu => hW u (by rintro rfl; revert hu; decide)), HGL.keep GR.stab (fun u hu => hW u (by rintro rfl; revert hu; decide))⟩
        obtain ⟨k0, k1, k2, k3, k4, k5⟩ := HB.out.six
        obtain ⟨j0, j1, j2, j3, j4, j5⟩ := HBR.out.six
        obtain ⟨f0, f1, f2, f3, f4, f5⟩ := HBR.out.free6
        clear HGL
        go_wp2
        exact ret_coor rfl rfl rfl HBR.out HXr.out (by omega) (fun W' h1 h2 => ⟨_, rfl, HCV.out W' h1, h2⟩)
end Go.Proofs.YtemnoemjmeflbaaGreatDoor
