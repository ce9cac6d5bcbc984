/- joinlearnmake: Machine. -/
import Derived.Test.YtemnoemjmeflbaaGreatDoorRoundW
import Derived.Test.YtemnoemjmeflbaaGreatDoorLong
namespace Go.Proofs.YtemnoemjmeflbaaGreatDoor
open Go.RowKit Go.Lib

theorem put4 {w : World} {g : Nat} {t : TypeId} {u0 u1 u2 u3 : Value} (hB : Blk w g t [u0, u1, u2, u3]) (x0 x1 x2 x3 : Value) :
    ∃ W', ((((w.setCell ⟨g, 0, none⟩ x0).setCell ⟨g, 1, none⟩ x1).setCell ⟨g, 2, none⟩ x2).setCell ⟨g, 3, none⟩ x3) = W' ∧ Hid (Blk W' g t [x0, x1, x2, x3]) ∧ Hid (∀ u, t ≠ u → Kept u w W') ∧ Hid (Only g w W') := by
  have b0 := hB.set_ 0 x0
  have b1 := b0.set_ 1 x1
  have b2 := b1.set_ 2 x2
  have b3 := b2.set_ 3 x3
  exact ⟨_, rfl, b3, fun u hu => (((hB.kept_set hu 0 x0).trans (b0.kept_set hu 1 x1)).trans (b1.kept_set hu 2 x2)).trans (b2.kept_set hu 3 x3), ((((Only.refl g w).set_ 0 _).set_ 1 _).set_ 2 _).set_ 3 _⟩
theorem ret_mach {fn : Func} {t g : Nat} {w : World} {x0 x1 x2 x3 : Value} {a : Act} {R : Ending → World → Prop} (hres : fn.results = #[.cell t tMach]) (ht : a.tmps.getD t undef = .pointer (some ⟨g, 0, none⟩)) (hd : a.defers = [])
    (hB : Blk w g tMach [x0, x1, x2, x3]) (hR : R (.returned (.agg #[x0, x1, x2, x3])) w) : bodyPost Tryz.prog fn R .ret a w :=
  bodyPost_ret (results_cell_row hres a.tmps _ g tMach #[x0, x1, x2, x3] (0, 0) _ ht hB Tryz.underlying33 rfl (by kernel_rfl)) hd hR
theorem Ls.kept {α : Type} {t : TypeId} {R : World → List Value → α → Prop} {T : List TypeId} (hR : Stab T R) {w w' : World} {v : Value} {l : List α} (h : Ls t R w v l) {s : TypeId} (hk : ∀ u, s ≠ u → Kept u w w') (hs : s ≠ t ∧ ∀ u ∈ T, s ≠ u) : Ls t R w' v l :=
  h.keep hR fun u hu => hk u (by
    rcases List.mem_cons.1 hu with rfl | hu
    · exact hs.1
    · exact hs.2 u hu)
theorem Src.keptA {w w' : World} {g : Nat} (hs : SrcAt w g) (ho : Only g w w') : ∀ u, tSrc ≠ u → Kept u w w' := fun _ hu => Src.kept hs ho hu
theorem ints_slice : SliceTy Tryz.prog 22 tInt 1 8 := .mk' (z := .int .i64 0) (by kernel_rfl) (by kernel_rfl) rfl (by decide) (by decide)
theorem ints_one : ∀ (l : List Int) (u : Value), u ∈ zcells l → u.oneCell' = true := fun l u hu => by
  obtain ⟨z, _, rfl⟩ := List.mem_map.1 hu
  rfl
theorem Only.grownF {a b c : World} {g base k n : Nat} {t : TypeId} {v : Value} {xs : List Value} (h : Only g a b) (hown : b.ownsRow base t k v n xs) (hg : b.grownBy c v.ownBlock) (hb : a.heap.size ≤ base) : Only g a c :=
  ⟨hg.os.trans h.os, hg.tape.trans h.tape, hg.output.trans h.output, Nat.le_trans h.size hg.size, fun i hi hne => (hg.block i (Nat.lt_of_lt_of_le hi h.size) (fun he => by have := (hown.lt i he.symm).1; omega)).trans (h.block i hi hne)⟩
theorem put1 {w : World} {g i : Nat} {t : TypeId} {l : List Value} (hB : Blk w g t l) (x : Value) :
    ∃ W', w.setCell ⟨g, i, none⟩ x = W' ∧ Hid (Blk W' g t (l.set i x)) ∧ Hid (∀ u, t ≠ u → Kept u w W') ∧ Hid (Only g w W') :=
  ⟨_, rfl, hB.set_ i x, fun _ hu => hB.kept_set hu i x, (Only.refl g w).set_ i x⟩
theorem il_sl {w : World} {A : Option Addr} {n c : Nat} {l : List Int} (h : IL w (.slice A n c) l) : Sl w tInt A (zcells l) ∧ (A = none → c = 0) := by
  obtain ⟨A', c', xs, e, h2, h3, h4, h5, h6⟩ := h
  injection e with e1 e2 e3
  subst e1 e3
  have hx : xs = zcells l := by
    clear h5 h2 h3 e2
    induction l generalizing xs with
    | nil => exact h6
    | cons z l ih =>
      obtain ⟨c, r, rfl, hc, hr⟩ := h6
      rw [ih r hr, show c = [.int .i64 z] from hc]
      rfl
  rw [← hx]
  exact ⟨h5, h4⟩
set_option maxRecDepth 100000 in
set_option maxHeartbeats 2000000 in
theorem mmachine_any (g n r : Nat) (A : Option Addr) (c : Nat) (w : World) (h : SrcAt w g) (hf : IL w (.slice A n c) (upto n)) (h1 : 1 ≤ n) (h3 : n ≤ 3) (hr : r ≤ 2) :
    Calls Tryz.prog 11 #[.pointer (some ⟨g, 0, none⟩), .slice A n c, .int .i64 r] w fun e w' => ∃ v c lin fac, MOk n r c lin fac ∧ e = .returned v ∧ MV w' v n c lin fac ∧ SrcAt w' g ∧ Only g w w' := by
  have HS := Lib.hid h
  have HF := Lib.hid hf
  have hgw := h.lt
  obtain ⟨-, -, hcm⟩ := cap_le hf
  clear h hf
  go_enter Tryz.func11, Tryz.ntmps11
  go_upto_region 1 with fail
  refine box1 (P := fun W => Code.wp _ _ _ _ W) fun W HX0 BR => ?_
  obtain ⟨hsl, hnil⟩ := il_sl (IL.ext HF.out HX0.out)
  have HSL := Lib.hid hsl
  have HNIL := Lib.hid hnil
  have HIN := Lib.hid (HS.out.ext HX0.out)
  have hzl : (zcells (upto n)).length = n * 1 := by simp [zcells, upto_length]
  have HZL := Lib.hid hzl
  have HONE := Lib.hid (ints_one (upto n))
  have hbt : (0 + n) * 8 ≤ 140737488355328 := by omega
  have hg0 : w.heap.size < W.heap.size := BR.out.lt
  clear hsl hnil hzl
  go_wp2_with (at_builtin; refine wpList_app rfl _ _ 22 rfl W.heap.size ints_slice _ 0 [] rfl (World.ownsRow_nil _ _ _ _) _ _ _ (zcells (upto n)) rfl HNIL.out HZL.out HSL.out HONE.out hbt (Nat.le_refl _) ?_)
  intro v1 w1 ho1 hg1 _
  obtain ⟨A1, c1, rfl, _, _, _⟩ := own_parts ho1
  have hx1 : Ext W w1 := ext_grown hg1
  have HI1 : Hid (IL w1 (.slice A1 n c1) (upto n)) := by
    have h := Ls.of_own (R := IntR) (l := upto n) (by rw [upto_length]; simpa using ho1) (by simpa using ints_ch w1 (upto n))
    exact h
  have HS1 := Lib.hid (HIN.out.ext hx1)
  have HO1 : Hid (Only g w w1) := (Only.of_ext HX0.out).trans (Only.of_ext hx1)
  have BR1 := Lib.hid (BR.out.ext hx1)
  have hg1' : W.heap.size ≤ w1.heap.size := hx1.size
  clear ho1 hg1 hx1 HIN HSL HNIL HZL HONE hbt BR
  go_wp2_with fail
  refine (mrat_any g w1 HS1.out).mono ?_
  rintro e w2 ⟨q, fq, rfl, hs2, ho2⟩
  have FQ := Lib.hid fq
  have HI2 : Hid (IL w2 (.slice A1 n c1) (upto n)) := Ls.kept IntR.stab HI1.out (Src.keptA HS1.out ho2) (by decide)
  have HO2 := Lib.hid (HO1.out.trans ho2)
  have HS2 := Lib.hid hs2
  have BR2 := Lib.hid (BR1.out.only ho2 (by omega))
  have hg2 : W.heap.size ≤ w2.heap.size := Nat.le_trans hg1' ho2.size
  clear ho2 hs2 HI1 HO1 HS1 BR1 fq hg1'
  generalize htq : ratText q = tq at *
  have HTQ := Lib.hid htq
  clear htq
  go_wp2_with fail
  refine (mrats_any g n w2 HS2.out (by omega)).mono ?_
  rintro e w3 ⟨Al, cl, lin, hll, fl, rfl, hrl, hs3, ho3⟩
  have HLL := Lib.hid hll
  have FL' := Lib.hid fl
  have HRL := Lib.hid hrl
  have HI3 : Hid (IL w3 (.slice A1 n c1) (upto n)) := Ls.kept IntR.stab HI2.out (Src.keptA HS2.out ho3) (by decide)
  have HO3 := Lib.hid (HO2.out.trans ho3)
  have HS3 := Lib.hid hs3
  have BR3 := Lib.hid (BR2.out.only ho3 (by omega))
  have hg3 : W.heap.size ≤ w3.heap.size := Nat.le_trans hg2 ho3.size
  clear ho3 hs3 HI2 HO2 HS2 BR2 fl hll hrl hg2
  go_upto_region 2 with fail
  refine box1 (P := fun W => Code.wp _ _ _ _ W) fun W4 HX4 BM => ?_
  have HI4 := Lib.hid (IL.ext HI3.out HX4.out)
  have HRL4 := Lib.hid (RL.ext HRL.out HX4.out)
  have HO4 := Lib.hid (HO3.out.trans (Only.of_ext HX4.out))
  have HS4 := Lib.hid (HS3.out.ext HX4.out)
  have BR4 := Lib.hid (BR3.out.ext HX4.out)
  have hg4 : w3.heap.size < W4.heap.size := BM.out.lt
  clear HI3 HRL HO3 HS3 BR3 HX4
  go_wp2_with fail
  go_loopw [19] (fun v19 wr => ∃ (k : Nat) (v : Value) (fac : List (List Rat)), k ≤ n ∧ v19 = .int .i64 k ∧ Hid (fac.length = k) ∧ Hid (∀ f ∈ fac, f.length = r ∧ ∀ q ∈ f, FitQ 2 q) ∧ Hid (OwnL tRats 1 PR W4.heap.size wr v fac) ∧ Hid (Blk wr w3.heap.size tMach [.slice A1 n c1, .string ⟨tq.toArray⟩, .slice Al n cl, v]) ∧ Hid (Blk wr w.heap.size tMach [.slice none 0 0, .string ⟨#[]⟩, .slice none 0 0, .slice none 0 0]) ∧ Hid (IL wr (.slice A1 n c1) (upto n)) ∧ Hid (RL wr (.slice Al n cl) lin) ∧ Hid (SrcAt wr g) ∧ W4.heap.size ≤ wr.heap.size ∧ Hid (Only g w wr)) (fun v19 _ => n - (RowKit.intOf v19).toNat)
  case atStart => exact ⟨0, _, [], Nat.zero_le _, rfl, rfl, (fun f hf => by cases hf), OwnL.nil, BM, BR4, HI4, HRL4, HS4, Nat.le_refl _, HO4⟩
  case round =>
    obtain ⟨k, v, fac, hk, rfl, HFK, HFF, HO, HBM, HBR, HIr, HRr, HSr, hwr, HOr⟩ := hrel
    obtain ⟨Av, cv, xs, rfl, _, _, HR, HC⟩ := HO.out.parts
    rw [HFK.out] at HR HBM
    by_cases hkn : k < n
    · go_upto_region 4 with fail
      have hbt : (k + 1) * 24 ≤ 140737488355328 := by omega
      obtain ⟨S, hSd⟩ : ∃ S : World → Prop, S = fun w' => w'.cell? ⟨w3.heap.size, 3, none⟩ = some (.slice Av k cv) := ⟨_, rfl⟩
      have HSI : Hid (∀ w', S w' → w'.cell? ⟨w3.heap.size, 3, none⟩ = some (.slice Av k cv)) := by rw [Hid, hSd]; exact fun _ h => h
      have HSB : Hid (∀ w', Blk w' w3.heap.size tMach [.slice A1 n c1, .string ⟨tq.toArray⟩, .slice Al n cl, .slice Av k cv] → S w') := by rw [Hid, hSd]; exact fun w' h => h.cell (i := 3) rfl
      have HS0 : Hid (S wr.drew) := HSB.out _ HBM.out
      clear hSd
      refine AnyT.start (S := S) (T := fun j => decide (8 ≤ j)) (by kernel_rfl) ?_
      refine AnyT.load 0 21 (.pointer (some ⟨w3.heap.size, 3, none⟩)) rfl (by kernel_rfl) (by kernel_rfl) (by kernel_rfl) (by kernel_rfl) (by kernel_rfl) (fun _ _ _ h => h) HS0.out ?_ ?_
      · intro o ho
        simp only [List.getElem?_toArray, List.getElem?_cons_zero, Option.some.injEq] at ho
        subst ho
        refine ⟨rfl, rfl, fun w' hSw => ?_⟩
        have hs := HSI.out w' hSw
        go_split_ands
        go_simp
      simp only [Act.put, List.setIfInBounds_toArray, List.set_cons_zero, List.set_cons_succ]
      refine AnyT.load 1 22 (.slice Av k cv) rfl (by kernel_rfl) (by kernel_rfl) (by kernel_rfl) (by kernel_rfl) (by kernel_rfl) (fun _ _ _ h => h) HS0.out ?_ ?_
      · intro o ho
        simp only [List.getElem?_toArray, List.getElem?_cons_succ, List.getElem?_cons_zero, Option.some.injEq] at ho
        subst ho
        refine ⟨rfl, rfl, fun w' hSw => ?_⟩
        have hs := HSI.out w' hSw
        go_split_ands
        go_simp
      simp only [Act.put, List.setIfInBounds_toArray, List.set_cons_zero, List.set_cons_succ]
      refine AnyT.load 2 23 (.pointer (some ⟨g, 0, none⟩)) rfl (by kernel_rfl) (by kernel_rfl) (by kernel_rfl) (by kernel_rfl) (by kernel_rfl) (fun _ _ _ h => h) HS0.out ?_ ?_
      · intro o ho
        simp only [List.getElem?_toArray, List.getElem?_cons_succ, List.getElem?_cons_zero, Option.some.injEq] at ho
        subst ho
        refine ⟨rfl, rfl, fun w' hSw => ?_⟩
        have hs := HSI.out w' hSw
        go_split_ands
        go_simp
      simp only [Act.put, List.setIfInBounds_toArray, List.set_cons_zero, List.set_cons_succ]
      refine AnyT.load 3 24 (.int .i64 r) rfl (by kernel_rfl) (by kernel_rfl) (by kernel_rfl) (by kernel_rfl) (by kernel_rfl) (fun _ _ _ h => h) HS0.out ?_ ?_
      · intro o ho
        simp only [List.getElem?_toArray, List.getElem?_cons_succ, List.getElem?_cons_zero, Option.some.injEq] at ho
        subst ho
        refine ⟨rfl, rfl, fun w' hSw => ?_⟩
        have hs := HSI.out w' hSw
        go_split_ands
        go_simp
      simp only [Act.put, List.setIfInBounds_toArray, List.set_cons_zero, List.set_cons_succ]
      refine AnyT.step 4 (by kernel_rfl) ?_
      intro o ho K hK
      simp only [List.getElem?_toArray, List.getElem?_cons_succ, List.getElem?_cons_zero, Option.some.injEq] at ho
      subst ho
      go_simp
      refine (mrats_any g r _ (HSr.out.ext (Ext.refl wr).drew) (by omega)).mono ?_
      rintro e w5 ⟨A5, c5, f, hfr, ff, rfl, hrl, hs5, ho5⟩
      have ho5 : Only g wr w5 := (Only.of_ext (Ext.refl wr).drew).trans ho5
      have BM5 := Lib.hid (HBM.out.only ho5 (by omega))
      have BR5 := Lib.hid (HBR.out.only ho5 (by omega))
      have HI5 : Hid (IL w5 (.slice A1 n c1) (upto n)) := Ls.kept IntR.stab HIr.out (Src.keptA HSr.out ho5) (by decide)
      have HR5 : Hid (RL w5 (.slice Al n cl) lin) := Ls.kept RatR.stab HRr.out (Src.keptA HSr.out ho5) (by decide)
      have HOW5 := Lib.hid (HO.out.only PR.stab ho5 (by omega) (fun u hu => Src.keptA HSr.out ho5 u (by rintro rfl; revert hu; decide)))
      have HS5 := Lib.hid hs5
      have HO5 := Lib.hid (HOr.out.trans ho5)
      have hw5 : W4.heap.size ≤ w5.heap.size := Nat.le_trans hwr ho5.size
      have HL5 := Lib.hid hrl
      have HFR := Lib.hid hfr
      have HFQ := Lib.hid ff
      clear HR HC hs5 ho5 hrl hfr ff HIr HRr HSr HOr HBR HBM HO
      refine hK.out _ _ (fun _ => HSB.out _ BM5.out) ?_
      refine AnyT.step 5 (by kernel_rfl) ?_
      intro o ho K hK
      simp only [List.getElem?_toArray, List.getElem?_cons_succ, List.getElem?_cons_zero, Option.some.injEq] at ho
      subst ho
      go_simp
      have BM5a := Lib.hid (BM5.out.ext ((Ext.refl w5).alloc (.cells #[.slice A5 r c5] tRats)))
      refine hK.out _ _ (fun _ => HSB.out _ BM5a.out) ?_
      clear BM5a
      obtain ⟨Av', cv', xs', ee, _, _, HR, HC⟩ := HOW5.out.parts
      injection ee with e1 e2 e3
      subst e1 e3
      rw [HFK.out] at HR
      refine AnyT.step 6 (by kernel_rfl) ?_
      intro o ho K hK
      simp only [List.getElem?_toArray, List.getElem?_cons_succ, List.getElem?_cons_zero, Option.some.injEq] at ho
      subst ho
      refine if_go rfl ?_
      refine wp_app1 _ _ 31 rfl W4.heap.size rats_slice _ _ _ rfl HR.out #[.slice A5 r c5] 1 1 rfl rfl rfl hbt hw5 ?_
      intro v' w6 ho6 hg6
      obtain ⟨A6, c6, rfl, _, _, _⟩ := own_parts ho6
      have O6 : Hid (OwnL tRats 1 PR W4.heap.size w6 (.slice A6 (k + 1) c6) (fac ++ [f])) := OwnL.snoc (R := PR) (w := w5) (x := f) PR.stab (by decide) (by rw [HFK.out]; exact HR.out) HC.out ⟨A5, c5, by rw [HFR.out], by rw [HFR.out]; exact HL5.out⟩ (by rw [HFK.out]; exact ho6) hg6
      have hkk : ∀ u, tRats ≠ u → Kept u w5 w6 := fun u hu => Kept.grown HR.out hg6 hu
      have HI6 : Hid (IL w6 (.slice A1 n c1) (upto n)) := Ls.kept IntR.stab HI5.out hkk (by decide)
      have HR6 : Hid (RL w6 (.slice Al n cl) lin) := Ls.kept RatR.stab HR5.out hkk (by decide)
      have B6 := Lib.hid (blkG BM5.out HR.out hg6 hg4)
      have BR6 := Lib.hid (blkG BR5.out HR.out hg6 (by omega))
      have HS6 := Lib.hid (HS5.out.grown hg6 (fun j hj => by have := (HR.out.lt j hj).1; omega))
      have HO6 : Hid (Only g w w6) := Only.grownF HO5.out HR.out hg6 (by omega)
      have hw6 : W4.heap.size ≤ w6.heap.size := Nat.le_trans hw5 hg6.size
      clear ho6 hg6 HI5 HR5 BM5 BR5 HS5 HO5 hkk HR HC HOW5 HL5
      simp only [Act.put, List.setIfInBounds_toArray, List.set_cons_zero, List.set_cons_succ]
      refine hK.out _ _ (fun _ => HSB.out _ B6.out) ?_
      refine AnyT.step 7 (by kernel_rfl) ?_
      intro o ho K hK
      simp only [List.getElem?_toArray, List.getElem?_cons_succ, List.getElem?_cons_zero, Option.some.injEq] at ho
      subst ho
      go_simp
      refine hK.out _ _ (fun _ => HSB.out _ B6.out) ?_
      have i0 := B6.out.cell (i := 3) rfl
      have i1 := B6.out.frozen 3
      obtain ⟨W', hW', B7, K7, N7⟩ := put1 (i := 3) B6.out (.slice A6 (k + 1) c6)
      have HW := Lib.hid hW'
      have O7 : Hid (OwnL tRats 1 PR W4.heap.size W' (.slice A6 (k + 1) c6) (fac ++ [f])) := O6.out.only PR.stab N7.out hg4 (fun u hu => K7.out u (by rintro rfl; revert hu; decide))
      have BR7 := Lib.hid (BR6.out.only N7.out (by omega))
      have HI7 : Hid (IL W' (.slice A1 n c1) (upto n)) := Ls.kept IntR.stab HI6.out K7.out (by decide)
      have HR7 : Hid (RL W' (.slice Al n cl) lin) := Ls.kept RatR.stab HR6.out K7.out (by decide)
      have HS7 := Lib.hid (HS6.out.past N7.out (by omega))
      have HO7 := Lib.hid (HO6.out.fresh N7.out (by omega))
      have hw7 : W4.heap.size ≤ W'.heap.size := Nat.le_trans hw6 N7.out.size
      have HF7 : Hid ((fac ++ [f]).length = k + 1) := by rw [Hid, List.length_append, HFK.out]; rfl
      have HFF7 : Hid (∀ x ∈ fac ++ [f], x.length = r ∧ ∀ q ∈ x, FitQ 2 q) := fun x hx => by
        rcases List.mem_append.1 hx with h | h
        · exact HFF.out x h
        · rw [List.mem_singleton.1 h]; exact ⟨HFR.out, HFQ.out⟩
      clear hW' HI6 HR6 BR6 HS6 HO6 O6
      refine AnyT.step 8 (by kernel_rfl) ?_
      intro o ho K hK
      simp only [List.getElem?_toArray, List.getElem?_cons_succ, List.getElem?_cons_zero, Option.some.injEq] at ho
      subst ho
      go_simp
      refine hK.out _ _ (fun h => by cases h) ?_
      refine AnyT.done (by kernel_rfl) ?_
      rw [HW.out]
      clear i0 i1 HW
      go_wp2_with fail
      go_roundw
      case rel => exact ⟨k + 1, _, fac ++ [f], by omega, by go_num, HF7, HFF7, O7, B7, BR7, HI7, HR7, HS7, hw7, HO7⟩
      case measure => simp [RowKit.intOf]; omega
    · obtain rfl : k = n := by omega
      have HPL := Lib.hid HO.out.ls
      rw [HFK.out] at HPL
      obtain ⟨k0, k1, k2, k3⟩ := HBM.out.four
      obtain ⟨j0, j1, j2, j3⟩ := HBR.out.four
      obtain ⟨f0, f1, f2, f3⟩ := HBR.out.free4
      obtain ⟨W', hW', B7, K7, N7⟩ := put4 HBR.out (.slice A1 k c1) (.string ⟨tq.toArray⟩) (.slice Al k cl) (.slice Av k cv)
      have HW := Lib.hid hW'
      have HMV : Hid (MV W' (.agg #[.slice A1 k c1, .string ⟨tq.toArray⟩, .slice Al k cl, .slice Av k cv]) k q lin fac) := ⟨A1, c1, Al, cl, Av, cv, by rw [HTQ.out], Ls.kept IntR.stab HIr.out K7.out (by decide), Ls.kept RatR.stab HRr.out K7.out (by decide), Ls.kept PR.stab HPL.out K7.out (by decide)⟩
      have HS7 := Lib.hid (HSr.out.past N7.out hgw)
      have HO7 := Lib.hid (HOr.out.fresh N7.out (Nat.le_refl _))
      have HMO : Hid (MOk k r q lin fac) := ⟨h1, h3, hr, HLL.out, HFK.out, fun f hf => (HFF.out f hf).1, FQ.out, FL'.out, fun f hf => (HFF.out f hf).2⟩
      clear hW'
      go_wp2
      rw [HW.out]
      exact ret_mach rfl rfl rfl B7.out ⟨_, q, lin, fac, HMO.out, rfl, HMV.out, HS7.out, HO7.out⟩
end Go.Proofs.YtemnoemjmeflbaaGreatDoor
