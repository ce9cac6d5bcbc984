/- corepoint.lay: the table of the sums of masses. -/
import Derived.Test.YtkhmfgkbobblmaaGreatDoorGen
import Derived.Test.YtkhmfgkbobblmaaGreatDoorLTab
namespace Go.Proofs.YtkhmfgkbobblmaaGreatDoor
open Go.RowKit Go.Lib

abbrev tMass : TypeId := 34
abbrev tLine : TypeId := 69
/-- a mass, as texts -/
def MaR (_ : World) (c : List Value) (x : Ms) : Prop := c = [.string ⟨(ratText x.1).toArray⟩, .string ⟨(ratText x.2).toArray⟩]
theorem MaR.stab : Stab [] MaR := fun _ _ _ _ _ h => h
theorem MaR.two (w : World) (c : List Value) (x : Ms) (h : MaR w c x) : c.length = 2 := by rw [h]; rfl
abbrev ML := Ls tMass MaR
theorem ML.ext {w w' : World} {v : Value} {l : List Ms} (h : ML w v l) (hx : Ext w w') : ML w' v l := Ls.ext MaR.stab h hx
theorem ML.get {w : World} {A : Option Addr} {n c : Nat} {l : List Ms} (h : ML w (.slice A n c) l) {i : Nat} (hi : i < l.length) :
    ∃ g o, A = some ⟨g, o, none⟩ ∧ g < w.heap.size ∧ w.cell? ⟨g, o + i * 2, none⟩ = some (.string ⟨(ratText l[i].1).toArray⟩) ∧ w.cell? ⟨g, o + i * 2 + 1, none⟩ = some (.string ⟨(ratText l[i].2).toArray⟩) := by
  obtain ⟨g, o, d, h1, h2, h3, h4⟩ := Ls.get MaR.two (by decide) h hi
  rw [show d = _ from h3] at h4
  exact ⟨g, o, h1, h2, h4 0 _ rfl, h4 1 _ rfl⟩
/-- the first numbers of a row of the table -/
def tbl (l : List Ms) (p k : Nat) : List Rat := (List.range (k + 1)).map (tb l p)
theorem tbl_length (l : List Ms) (p k : Nat) : (tbl l p k).length = k + 1 := by simp [tbl]
theorem tbl_next (l : List Ms) (p k : Nat) : tbl l p (k + 1) = tbl l p k ++ [tb l p (k + 1)] := by
  unfold tbl
  rw [List.range_succ, List.map_append]
  rfl
theorem tbl_get (l : List Ms) (p k : Nat) {i : Nat} (h : i ≤ k) : (tbl l p k)[i]'(by rw [tbl_length]; omega) = tb l p i := by simp [tbl]
/-- with nothing yet, or the first k of them -/
def tbl' (l : List Ms) (p : Nat) : Nat → List Rat
  | 0 => []
  | k + 1 => tbl l p k
theorem tbl_len' (l : List Ms) (p k : Nat) : (tbl' l p k).length = k := by
  cases k with
  | zero => rfl
  | succ k => exact tbl_length l p k
theorem tbl_succ' (l : List Ms) (p k : Nat) : tbl' l p (k + 1) = tbl' l p k ++ [tb l p k] := by
  cases k with
  | zero => rfl
  | succ k => exact tbl_next l p k
/-- v is the table of masses -/
def LnV (w : World) (v : Value) (l : List Ms) : Prop := ∃ A0 c0 A1 c1 A2 c2, v = .agg #[.slice A0 (l.length + 1) c0, .slice A1 (l.length + 1) c1, .slice A2 (l.length + 1) c2] ∧ FL w (.slice A0 (l.length + 1) c0) (tbl l 0 l.length) ∧ FL w (.slice A1 (l.length + 1) c1) (tbl l 1 l.length) ∧ FL w (.slice A2 (l.length + 1) c2) (tbl l 2 l.length)
theorem LnV.ext {w w' : World} {v : Value} {l : List Ms} (h : LnV w v l) (hx : Ext w w') : LnV w' v l := by
  obtain ⟨A0, c0, A1, c1, A2, c2, h1, h2, h3, h4⟩ := h
  exact ⟨A0, c0, A1, c1, A2, c2, h1, FL.ext h2 hx, FL.ext h3 hx, FL.ext h4 hx⟩
theorem Kept.fresh {u : TypeId} {a w w' : World} {g : Nat} (h : Kept u a w) (ho : Only g w w') (hg : a.heap.size ≤ g) : Kept u a w' := fun k cur fr hc => by
  have h1 := h k cur fr hc
  have h2 := lt_of_some hc
  exact (ho.block k (lt_of_some h1) (by simp; omega)).trans h1
/-- the slices of rows that are done -/
def Done (w : World) (l : List Ms) (p : Nat) (cs : List Value) : Prop := cs.length = 3 ∧ (∀ q, q < 3 → q < p → ∃ A c, cs[q]? = some (.slice A (l.length + 1) c) ∧ FL w (.slice A (l.length + 1) c) (tbl l q l.length)) ∧ ∀ q, q < 3 → p ≤ q → cs[q]? = some (.slice none 0 0)
theorem Done.keep {w w' : World} {l : List Ms} {p : Nat} {cs : List Value} (h : Done w l p cs) (hk : ∀ u, tLine ≠ u → Kept u w w') : Done w' l p cs :=
  ⟨h.1, fun q hq hp => by
    obtain ⟨A, c, h1, h2⟩ := h.2.1 q hq hp
    exact ⟨A, c, h1, h2.kept FrR.stab hk (by decide)⟩, h.2.2⟩
theorem Done.next {w : World} {l : List Ms} {p : Nat} {cs : List Value} (h : Done w l p cs) (hp : p < 3) {A : Option Addr} {c : Nat} (hf : FL w (.slice A (l.length + 1) c) (tbl l p l.length)) : Done w l (p + 1) (cs.set p (.slice A (l.length + 1) c)) := by
  refine ⟨by rw [List.length_set]; exact h.1, fun q hq hqp => ?_, fun q hq hqp => ?_⟩
  · rcases Nat.lt_or_ge q p with h1 | h1
    · obtain ⟨A', c', h2, h3⟩ := h.2.1 q hq h1
      exact ⟨A', c', by rw [List.getElem?_set_ne (by omega)]; exact h2, h3⟩
    · obtain rfl : q = p := by omega
      exact ⟨A, c, by rw [List.getElem?_set_self (by rw [h.1]; exact hq)], hf⟩
  · rw [List.getElem?_set_ne (by omega)]
    exact h.2.2 q hq (by omega)
theorem put3 {w : World} {g : Nat} {t : TypeId} {u0 u1 u2 : Value} (hB : Blk w g t [u0, u1, u2]) (x0 x1 x2 : Value) :
    ∃ W', (((w.setCell ⟨g, 0, none⟩ x0).setCell ⟨g, 1, none⟩ x1).setCell ⟨g, 2, none⟩ x2) = W' ∧ Hid (Blk W' g t [x0, x1, x2]) ∧ Hid (∀ u, t ≠ u → Kept u w W') ∧ Hid (Only g w W') := by
  have b0 := hB.set_ 0 x0
  have b1 := b0.set_ 1 x1
  have b2 := b1.set_ 2 x2
  exact ⟨_, rfl, b2, fun u hu => ((hB.kept_set hu 0 x0).trans (b0.kept_set hu 1 x1)).trans (b1.kept_set hu 2 x2), (((Only.refl g w).set_ 0 _).set_ 1 _).set_ 2 _⟩
theorem Blk.three {w : World} {g : Nat} {t : TypeId} {a b c : Value} (h : Blk w g t [a, b, c]) : w.cell? ⟨g, 0, none⟩ = some a ∧ w.cell? ⟨g, 1, none⟩ = some b ∧ w.cell? ⟨g, 2, none⟩ = some c := ⟨h.cell rfl, h.cell rfl, h.cell rfl⟩
theorem ret_line {fn : Func} {t g : Nat} {w : World} {x0 x1 x2 : Value} {a : Act} {R : Ending → World → Prop} (hres : fn.results = #[.cell t tLine]) (ht : a.tmps.getD t undef = .pointer (some ⟨g, 0, none⟩)) (hd : a.defers = [])
    (hB : Blk w g tLine [x0, x1, x2]) (hR : R (.returned (.agg #[x0, x1, x2])) w) : bodyPost Tryz.prog fn R .ret a w :=
  bodyPost_ret (results_cell_row hres a.tmps _ g tLine #[x0, x1, x2] (0, 0) _ ht hB Tryz.underlying69 rfl (by kernel_rfl)) hd hR
theorem bt64 {k n : Nat} (h : k ≤ n) (hn : n ≤ 8) : (k + 1 + 1) * 64 ≤ 140737488355328 := by omega
theorem three_v {cs : List Value} (h : cs.length = 3) : ∃ a b c, cs = [a, b, c] := by
  match cs, h with
  | [a, b, c], _ => exact ⟨a, b, c, rfl⟩
set_option maxRecDepth 100000 in
set_option maxHeartbeats 8000000 in
theorem lay_any (vl : Value) (l : List Ms) (w : World) (h : ML w vl l) (hm : MsOk l) :
    Calls Tryz.prog 37 #[vl] w fun e w' => ∃ v, e = .returned v ∧ LnV w' v l ∧ Ext w w' := by
  obtain ⟨B, cb, rfl, _, hcb, HB⟩ := h.parts
  have hcb : cb ≤ 9223372036854775807 := by unfold maxLen at hcb; omega
  have HM := Lib.hid hm
  have hn8 := hm.1
  clear h hm
  go_enter Tryz.func37, Tryz.ntmps37
  go_upto_region 2 with fail
  refine box2 (P := fun W => Code.wp _ _ _ _ W) fun W HX0 BR BO => ?_
  have hgo : w.heap.size + 1 < W.heap.size := BO.out.lt
  have HD0 : Hid (Done W l 0 [.slice none 0 0, .slice none 0 0, .slice none 0 0]) := ⟨rfl, fun q hq h => by omega, fun q hq _ => by
    rcases q with _ | _ | _ | q
    · rfl
    · rfl
    · rfl
    · omega⟩
  go_wp2_with fail
  go_loopw [4, 5, 7, 8, 9] (fun _ _ _ _ v9 wr => ∃ (p : Nat) (cs : List Value), p ≤ 3 ∧ v9 = .int .i64 p ∧ Hid (Blk wr (w.heap.size + 1) tLine cs) ∧ Hid (Done wr l p cs) ∧ Hid (Blk wr w.heap.size tLine [.slice none 0 0, .slice none 0 0, .slice none 0 0]) ∧ Hid (Ext w wr)) (fun _ _ _ _ v9 _ => 3 - (RowKit.intOf v9).toNat)
  case atStart => exact ⟨0, _, by decide, rfl, BO, HD0, BR, HX0⟩
  case round =>
    obtain ⟨p, cs, hp, rfl, HBO, HDN, HBR, HXr⟩ := hrel
    have hgr : w.heap.size + 1 < wr.heap.size := HBO.out.lt
    by_cases hp3 : p < 3
    · have hcl : cs.length = 3 := HDN.out.1
      have hc0 := HBO.out.cell (HDN.out.2.2 p hp3 (Nat.le_refl _))
      clear hcl
      generalize wr = wo at *
      go_wp2_with fail
      refine (xzero_any wo).mono ?_
      rintro e w1 ⟨v1, rfl, hv1, hx1⟩
      obtain ⟨r0, R0, r1, r2, s0, S0, s1, s2, rfl, _, _⟩ := hv1.parts
      clear hc0
      go_upto_region 6 with fail
      refine newbox (P := fun W => Code.wp _ _ _ _ W) hv1 fun wb HXb BS hsz => ?_
      have HYb := Lib.hid (hx1.trans HXb.out)
      have hgs : wo.heap.size ≤ w1.heap.size := hx1.size
      have HBOb := Lib.hid (HBO.out.ext HYb.out)
      have HBRb := Lib.hid (HBR.out.ext HYb.out)
      have HDNb := Lib.hid (HDN.out.keep (fun u _ => .of_below HYb.out))
      have HXb2 := Lib.hid (HXr.out.trans HYb.out)
      have HXo := HXr
      have HD7 := HDN
      clear hx1 hv1 HXb HBO HBR HDN HXr
      have HOV : Hid (OwnL tFrac 4 FrR wb.heap.size wb (.slice none 0 0) (tbl' l p 0)) := OwnL.nil
      have HBS : Hid (Box wb w1.heap.size (tb l p 0)) := BS
      have HCP := Lib.hid (HDNb.out.2.2 p hp3 (Nat.le_refl _))
      have HCL := Lib.hid HDNb.out.1
      have HKA : Hid (∀ u, tLine ≠ u → Kept u wo wb) := fun u _ => .of_below HYb.out
      have hwb : wb.heap.size ≤ wb.heap.size := Nat.le_refl _
      have hob : wo.heap.size ≤ wb.heap.size := HYb.out.size
      have hbt : (0 + 1) * 64 ≤ 140737488355328 := by decide
      have hgsb : w1.heap.size < wb.heap.size := HBS.out.lt
      have HBO := Lib.hid HBOb.out
      have HBR := Lib.hid HBRb.out
      have HXw := Lib.hid HXb2.out
      clear BS HYb HBOb HBRb HXb2
      obtain ⟨r0, R0, r1, r2, s0, S0, s1, s2, BS, VS⟩ := HBS.out.parts
      obtain ⟨xv, RV, CV⟩ := HOV.out
      rw [tbl_len' l p (0)] at RV
      go_upto_region 6 with fail
      obtain ⟨S, hSd⟩ : ∃ S : World → Prop, S = fun w' => w'.cell? ⟨w.heap.size + 1, p, none⟩ = some (.slice none 0 0) ∧ (w'.cell? ⟨w1.heap.size, 0, none⟩ = some (.bool r0) ∧ w'.cell? ⟨w1.heap.size, 0 + 1, none⟩ = some (.slice R0 r1 r2) ∧ w'.cell? ⟨w1.heap.size, 0 + 2, none⟩ = some (.bool s0) ∧ w'.cell? ⟨w1.heap.size, 0 + 3, none⟩ = some (.slice S0 s1 s2)) := ⟨_, rfl⟩
      have HSI : Hid (∀ w', S w' → w'.cell? ⟨w.heap.size + 1, p, none⟩ = some (.slice none 0 0) ∧ (w'.cell? ⟨w1.heap.size, 0, none⟩ = some (.bool r0) ∧ w'.cell? ⟨w1.heap.size, 0 + 1, none⟩ = some (.slice R0 r1 r2) ∧ w'.cell? ⟨w1.heap.size, 0 + 2, none⟩ = some (.bool s0) ∧ w'.cell? ⟨w1.heap.size, 0 + 3, none⟩ = some (.slice S0 s1 s2))) := by rw [Hid, hSd]; exact fun _ h => h
      have HSB : Hid (∀ w', Blk w' (w.heap.size + 1) tLine (cs) → Blk w' w1.heap.size tFrac [.bool r0, .slice R0 r1 r2, .bool s0, .slice S0 s1 s2] → S w') := by rw [Hid, hSd]; exact fun w' h1 h2 => ⟨h1.cell HCP.out, h2.four⟩
      have HS0 : Hid (S wb.drew) := HSB.out _ HBO.out BS.out
      clear hSd
      refine AnyT.start (S := S) (T := fun j => decide (8 ≤ j)) (by kernel_rfl) ?_
      obtain ⟨wd, hwd⟩ : ∃ wd : World, wb.drew = wd := ⟨_, rfl⟩
      have hyd : Ext wb wd := by rw [← hwd]; exact (Ext.refl wb).drew
      rw [hwd] at HS0 ⊢
      clear hwd
      refine AnyT.load 0 13 (.int .i64 p) rfl (by kernel_rfl) (by kernel_rfl) (by kernel_rfl) (by kernel_rfl) (by kernel_rfl) (fun _ _ _ h => h) HS0.out ?_ ?_
      · intro o ho
        simp only [List.getElem?_toArray, List.getElem?_cons_zero, Option.some.injEq] at ho
        subst ho
        refine ⟨rfl, rfl, fun w' hSw => ?_⟩
        have hs := HSI.out w' hSw
        go_split_ands
        go_simp
      simp only [Act.put, List.setIfInBounds_toArray, List.set_cons_zero, List.set_cons_succ]
      refine AnyT.load 1 14 (.int .i64 p) rfl (by kernel_rfl) (by kernel_rfl) (by kernel_rfl) (by kernel_rfl) (by kernel_rfl) (fun _ _ _ h => h) HS0.out ?_ ?_
      · intro o ho
        simp only [List.getElem?_toArray, List.getElem?_cons_succ, List.getElem?_cons_zero, Option.some.injEq] at ho
        subst ho
        refine ⟨rfl, rfl, fun w' hSw => ?_⟩
        have hs := HSI.out w' hSw
        go_split_ands
        go_simp
      simp only [Act.put, List.setIfInBounds_toArray, List.set_cons_zero, List.set_cons_succ]
      refine AnyT.load 2 15 (.pointer (some ⟨w.heap.size + 1, p, none⟩)) rfl (by kernel_rfl) (by kernel_rfl) (by kernel_rfl) (by kernel_rfl) (by kernel_rfl) (fun _ _ _ h => h) HS0.out ?_ ?_
      · intro o ho
        simp only [List.getElem?_toArray, List.getElem?_cons_succ, List.getElem?_cons_zero, Option.some.injEq] at ho
        subst ho
        refine ⟨rfl, rfl, fun w' hSw => ?_⟩
        have hs := HSI.out w' hSw
        go_split_ands
        go_simp
      simp only [Act.put, List.setIfInBounds_toArray, List.set_cons_zero, List.set_cons_succ]
      refine AnyT.load 3 16 (.slice none 0 0) rfl (by kernel_rfl) (by kernel_rfl) (by kernel_rfl) (by kernel_rfl) (by kernel_rfl) (fun _ _ _ h => h) HS0.out ?_ ?_
      · intro o ho
        simp only [List.getElem?_toArray, List.getElem?_cons_succ, List.getElem?_cons_zero, Option.some.injEq] at ho
        subst ho
        refine ⟨rfl, rfl, fun w' hSw => ?_⟩
        have hs := HSI.out w' hSw
        go_split_ands
        go_simp
      simp only [Act.put, List.setIfInBounds_toArray, List.set_cons_zero, List.set_cons_succ]
      refine AnyT.load 4 17 (.agg #[.bool r0, .slice R0 r1 r2, .bool s0, .slice S0 s1 s2]) rfl (by kernel_rfl) (by kernel_rfl) (by kernel_rfl) (by kernel_rfl) (by kernel_rfl) (fun _ _ _ h => h) HS0.out ?_ ?_
      · intro o ho
        simp only [List.getElem?_toArray, List.getElem?_cons_succ, List.getElem?_cons_zero, Option.some.injEq] at ho
        subst ho
        refine ⟨rfl, rfl, fun w' hSw => ?_⟩
        have hs := HSI.out w' hSw
        go_split_ands
        go_simp
      simp only [Act.put, List.setIfInBounds_toArray, List.set_cons_zero, List.set_cons_succ]
      refine AnyT.step 5 (by kernel_rfl) ?_
      intro o ho K hK
      simp only [List.getElem?_toArray, List.getElem?_cons_succ, List.getElem?_cons_zero, Option.some.injEq] at ho
      subst ho
      go_simp
      refine hK.out _ _ (fun _ => HSB.out _ ((HBO.out.ext hyd).alloc _) ((BS.out.ext hyd).alloc _)) ?_
      have RVd := own_extR RV hyd
      have CVd : Ch (FrR wd) xv (tbl' l p (0)) := CV.mono fun c x hc => FrR.stab _ _ _ _ (fun _ _ => .of_below hyd) hc
      have hbd : wb.heap.size ≤ wd.heap.size := Nat.le_trans hwb hyd.size
      refine AnyT.step 6 (by kernel_rfl) ?_
      intro o ho K hK
      simp only [List.getElem?_toArray, List.getElem?_cons_succ, List.getElem?_cons_zero, Option.some.injEq] at ho
      subst ho
      refine if_go rfl ?_
      refine wp_app1 _ _ tFracs rfl wb.heap.size frac_slice _ _ _ rfl RVd #[.bool r0, .slice R0 r1 r2, .bool s0, .slice S0 s1 s2] 1 1 rfl rfl rfl hbt hbd ?_
      intro v' w6 ho6 hg6
      obtain ⟨A6, c6, rfl, _, _, _⟩ := own_parts ho6
      have O6 : Hid (OwnL tFrac 4 FrR wb.heap.size w6 (.slice A6 (0 + 1) c6) (tbl' l p ((0) + 1))) := by
        rw [Hid, tbl_succ' l p (0)]
        exact OwnL.snoc (R := FrR) (w := wd) (x := tb l p 0) FrR.stab (by decide) (by rw [tbl_len' l p (0)]; exact RVd) CVd ⟨r0, R0, r1, r2, s0, S0, s1, s2, rfl, VS.out.ext hyd⟩ (by rw [tbl_len' l p (0)]; exact ho6) hg6
      have B6 := Lib.hid (blkG (HBO.out.ext hyd) RVd hg6 (by omega))
      have S6 := Lib.hid (blkG (BS.out.ext hyd) RVd hg6 (by omega))
      have R6 := Lib.hid (blkG (HBR.out.ext hyd) RVd hg6 (by omega))
      have VS6 := Lib.hid ((VS.out.ext hyd).keep (Kept.grown RVd hg6 (by decide)))
      have K6 : Hid (∀ u, tLine ≠ u → Kept u wo w6) := fun u hu => ((HKA.out u hu).trans (.of_below hyd)).base RVd hg6 hob
      have X6 := Lib.hid (grown_below (HXw.out.trans hyd) RVd hg6 (by omega))
      have hw6 : wb.heap.size ≤ w6.heap.size := Nat.le_trans hbd hg6.size
      clear ho6 hg6 RVd CVd hyd RV CV
      simp only [Act.put, List.setIfInBounds_toArray, List.set_cons_zero, List.set_cons_succ]
      refine hK.out _ _ (fun _ => HSB.out _ B6.out S6.out) ?_
      refine AnyT.step 7 (by kernel_rfl) ?_
      intro o ho K hK
      simp only [List.getElem?_toArray, List.getElem?_cons_succ, List.getElem?_cons_zero, Option.some.injEq] at ho
      subst ho
      go_simp
      refine hK.out _ _ (fun _ => HSB.out _ B6.out S6.out) ?_
      have i0 := B6.out.cell HCP.out
      have i1 := B6.out.frozen p
      obtain ⟨W', hW', B7, K7, N7⟩ := put1 (i := p) B6.out (.slice A6 (0 + 1) c6)
      have HW' := Lib.hid hW'
      have O7 := Lib.hid (O6.out.only FrR.stab N7.out (by omega) (fun u hu => K7.out u (by rintro rfl; revert hu; decide)))
      have S7 : Hid (Box W' w1.heap.size (tb l p 0)) := ⟨r0, R0, r1, r2, s0, S0, s1, s2, S6.out.only N7.out (by omega), VS6.out.keep (K7.out _ (by decide))⟩
      have R7 := Lib.hid (R6.out.only N7.out (by omega))
      have K8 : Hid (∀ u, tLine ≠ u → Kept u wo W') := fun u hu => (K6.out u hu).trans (K7.out u hu)
      have X7 := Lib.hid (X6.out.only N7.out (by omega))
      have hw7 : wb.heap.size ≤ W'.heap.size := Nat.le_trans hw6 N7.out.size
      clear hW' O6 S6 R6 VS6 K6 X6
      refine AnyT.step 8 (by kernel_rfl) ?_
      intro o ho K hK
      simp only [List.getElem?_toArray, List.getElem?_cons_succ, List.getElem?_cons_zero, Option.some.injEq] at ho
      subst ho
      go_simp
      refine hK.out _ _ (fun h => by cases h) ?_
      refine AnyT.done (by kernel_rfl) ?_
      rw [HW'.out]
      clear i0 i1 HW' HSI HSB HS0
      go_wp2_with fail
      go_loopw [7, 8, 23] (fun _ _ v23 wr => ∃ (k : Nat) (Av : Option Addr) (cv : Nat), k ≤ l.length ∧ v23 = .int .i64 k ∧ Hid (Blk wr (w.heap.size + 1) tLine (cs.set p (.slice Av (k + 1) cv))) ∧ Hid (OwnL tFrac 4 FrR wb.heap.size wr (.slice Av (k + 1) cv) (tbl' l p (k + 1))) ∧ Hid (Box wr w1.heap.size (tb l p k)) ∧ Hid (Blk wr w.heap.size tLine [.slice none 0 0, .slice none 0 0, .slice none 0 0]) ∧ Hid (∀ u, tLine ≠ u → Kept u wo wr) ∧ Hid (Ext w wr) ∧ wb.heap.size ≤ wr.heap.size) (fun _ _ v23 _ => l.length - (RowKit.intOf v23).toNat)
      case atStart => exact ⟨0, A6, c6, Nat.zero_le _, rfl, B7, O7, S7, R7, K8, X7, hw7⟩
      case round =>
        obtain ⟨k, Av, cv, hk, rfl, HBO, HOV, HBS, HBR, HKA, HXw, hwb⟩ := hrel
        by_cases hkl : k < l.length
        · have HNX := Lib.hid (tb_next (p := p) hkl)
          have HMG := Lib.hid (HM.out.2 _ (List.getElem_mem hkl))
          have FT := Lib.hid (tb_fit HM.out p k (by omega))
          obtain ⟨g1, o1, rfl, _, p1, p2⟩ := ML.get (Ls.kept MaR.stab (ML.ext HB.out HXo.out) HKA.out (by decide)) hkl
          have HVL := HMG.out.val
          have FW := HVL.2.fit (e := 4) (by decide) (by decide) (by decide)
          have FV := Lib.hid (HVL.1.fit (e := 4) (by decide) (by decide) (by decide))
          have RW := Lib.hid (fun w' => xread_any l[k].2 w' (FW.mono (by decide)))
          have RV' := Lib.hid (fun w' => xread_any l[k].1 w' (FV.out.mono (by decide)))
          clear FW HVL
          generalize l[k] = x at *
          generalize ratText x.1 = t1 at *
          generalize ratText x.2 = t2 at *
          generalize wr = wp at *
          go_upto_region 10 with fail
          refine box1 (P := fun W => Code.wp _ _ _ _ W) fun W7 HX7 BM => ?_
          obtain ⟨k0, k1⟩ := BM.out.two
          clear p1 p2
          go_wp2_with fail
          refine (RW.out W7).mono ?_
          rintro e w8 ⟨v8, rfl, hv8, hx8⟩
          obtain ⟨a0, A0, a1, a2, b0, B0, b1, b2, rfl, _, _⟩ := hv8.parts
          clear k0 k1
          go_upto_region 11 with fail
          refine newbox (P := fun W => Code.wp _ _ _ _ W) hv8 fun W9 HX9 BX hsz9 => ?_
          have HB0 : Hid (Box W9 w8.heap.size (mw x 0)) := BX
          have HY9 := Lib.hid (HX7.out.trans (hx8.trans HX9.out))
          have BM9 := Lib.hid (BM.out.ext (hx8.trans HX9.out))
          have hg8 : wp.heap.size < w8.heap.size := Nat.lt_of_lt_of_le BM.out.lt hx8.size
          clear BX hx8 hv8 HX9 hsz9 BM HX7
          go_wp2_with fail
          go_loopw [31] (fun v31 wr => ∃ j : Nat, j ≤ p ∧ v31 = .int .i64 j ∧ Hid (Box wr w8.heap.size (mw x j)) ∧ Hid (Blk wr wp.heap.size tMass [.string ⟨t1.toArray⟩, .string ⟨t2.toArray⟩]) ∧ Hid (Ext wp wr)) (fun v31 _ => p - (RowKit.intOf v31).toNat)
          case atStart => exact ⟨0, Nat.zero_le _, rfl, HB0, BM9, HY9⟩
          case round =>
            obtain ⟨j, hj, rfl, HBX, HBM, HXj⟩ := hrel
            by_cases hjp : j < p
            · have FJ := Lib.hid (mw_fit HMG.out j (by omega))
              obtain ⟨x0, X0, x1, x2, y0, Y0, y1, y2, BX, VX⟩ := HBX.out.parts
              go_upto_region 13 with fail
              obtain ⟨S, hSd⟩ : ∃ S : World → Prop, S = fun w' => (w'.cell? ⟨w8.heap.size, 0, none⟩ = some (.bool x0) ∧ w'.cell? ⟨w8.heap.size, 0 + 1, none⟩ = some (.slice X0 x1 x2) ∧ w'.cell? ⟨w8.heap.size, 0 + 2, none⟩ = some (.bool y0) ∧ w'.cell? ⟨w8.heap.size, 0 + 3, none⟩ = some (.slice Y0 y1 y2)) ∧ w'.cell? ⟨wp.heap.size, 0, none⟩ = some (.string ⟨t1.toArray⟩) := ⟨_, rfl⟩
              have HSI : Hid (∀ w', S w' → (w'.cell? ⟨w8.heap.size, 0, none⟩ = some (.bool x0) ∧ w'.cell? ⟨w8.heap.size, 0 + 1, none⟩ = some (.slice X0 x1 x2) ∧ w'.cell? ⟨w8.heap.size, 0 + 2, none⟩ = some (.bool y0) ∧ w'.cell? ⟨w8.heap.size, 0 + 3, none⟩ = some (.slice Y0 y1 y2)) ∧ w'.cell? ⟨wp.heap.size, 0, none⟩ = some (.string ⟨t1.toArray⟩)) := by rw [Hid, hSd]; exact fun _ h => h
              have HSE : Hid (∀ w', Ext wr w' → S w') := by rw [Hid, hSd]; exact fun w' h => ⟨(BX.out.ext h).four, (HBM.out.ext h).two.1⟩
              have HS0 : Hid (S wr.drew) := HSE.out _ (Ext.refl wr).drew
              clear hSd
              refine AnyT.start (S := S) (T := fun j => decide (5 ≤ j)) (by kernel_rfl) ?_
              refine AnyT.load 0 33 (.agg #[.bool x0, .slice X0 x1 x2, .bool y0, .slice Y0 y1 y2]) rfl (by kernel_rfl) (by kernel_rfl) (by kernel_rfl) (by kernel_rfl) (by kernel_rfl) (fun _ _ _ h => h) HS0.out ?_ ?_
              · intro o ho
                simp only [List.getElem?_toArray, List.getElem?_cons_zero, Option.some.injEq] at ho
                subst ho
                refine ⟨rfl, rfl, fun w' hSw => ?_⟩
                have hs := HSI.out w' hSw
                go_split_ands
                go_simp
              simp only [Act.put, List.setIfInBounds_toArray, List.set_cons_zero, List.set_cons_succ]
              refine AnyT.load 1 34 (.pointer (some ⟨wp.heap.size, 0, none⟩)) rfl (by kernel_rfl) (by kernel_rfl) (by kernel_rfl) (by kernel_rfl) (by kernel_rfl) (fun _ _ _ h => h) HS0.out ?_ ?_
              · intro o ho
                simp only [List.getElem?_toArray, List.getElem?_cons_succ, List.getElem?_cons_zero, Option.some.injEq] at ho
                subst ho
                refine ⟨rfl, rfl, fun w' hSw => ?_⟩
                have hs := HSI.out w' hSw
                go_split_ands
                go_simp
              simp only [Act.put, List.setIfInBounds_toArray, List.set_cons_zero, List.set_cons_succ]
              refine AnyT.load 2 35 (.string ⟨t1.toArray⟩) rfl (by kernel_rfl) (by kernel_rfl) (by kernel_rfl) (by kernel_rfl) (by kernel_rfl) (fun _ _ _ h => h) HS0.out ?_ ?_
              · intro o ho
                simp only [List.getElem?_toArray, List.getElem?_cons_succ, List.getElem?_cons_zero, Option.some.injEq] at ho
                subst ho
                refine ⟨rfl, rfl, fun w' hSw => ?_⟩
                have hs := HSI.out w' hSw
                go_split_ands
                go_simp
              simp only [Act.put, List.setIfInBounds_toArray, List.set_cons_zero, List.set_cons_succ]
              refine AnyT.step 3 (by kernel_rfl) ?_
              intro o ho K hK
              simp only [List.getElem?_toArray, List.getElem?_cons_succ, List.getElem?_cons_zero, Option.some.injEq] at ho
              subst ho
              go_simp
              refine (RV'.out _).mono ?_
              rintro e wa ⟨va, rfl, hva, hxa⟩
              have hya := (Ext.refl wr).drew.trans hxa
              refine hK.out _ _ (fun _ => HSE.out _ hya) ?_
              refine AnyT.step 4 (by kernel_rfl) ?_
              intro o ho K hK
              simp only [List.getElem?_toArray, List.getElem?_cons_succ, List.getElem?_cons_zero, Option.some.injEq] at ho
              subst ho
              go_simp
              refine (fmul_any _ _ _ _ _ (VX.out.ext hya) hva FJ.out FV.out (by omega)).mono ?_
              rintro e wc ⟨vc, rfl, hvc, hxc⟩
              obtain ⟨e0, E0, e1, e2, f0, F0, f1, f2, rfl, _, _⟩ := hvc.parts
              have hyc := hya.trans hxc
              refine hK.out _ _ (fun _ => HSE.out _ hyc) ?_
              have hvj : FracV wc (.agg #[.bool e0, .slice E0 e1 e2, .bool f0, .slice F0 f1 f2]) (mw x (j + 1)) := hvc
              have BXc := Lib.hid (BX.out.ext hyc)
              obtain ⟨k0, k1, k2, k3⟩ := BXc.out.four
              obtain ⟨m0, m1, m2, m3⟩ := BXc.out.free4
              obtain ⟨W', hW', HBN, HKN, HE, HON⟩ := Box.put BXc.out hvj (HXj.out.trans hyc) (by omega)
              have HBMn := Lib.hid ((HBM.out.ext hyc).only HON.out (by omega))
              have HWn := Lib.hid hW'
              clear hW' hxa hya hxc hyc hva hvc hvj
              refine AnyT.step 5 (by kernel_rfl) ?_
              intro o ho K hK
              simp only [List.getElem?_toArray, List.getElem?_cons_succ, List.getElem?_cons_zero, Option.some.injEq] at ho
              subst ho
              go_simp
              refine hK.out _ _ (fun h => by cases h) ?_
              refine AnyT.done (by kernel_rfl) ?_
              rw [HWn.out]
              clear k0 k1 k2 k3 m0 m1 m2 m3
              go_wp2_with fail
              go_roundw
              case rel => exact ⟨j + 1, by omega, by go_num, HBN, HBMn, HE⟩
              case measure => simp [RowKit.intOf]; omega
            · obtain rfl : p = j := by omega
              have FJ := Lib.hid (mw_fit HMG.out p (by omega))
              have HBOr := Lib.hid (HBO.out.ext HXj.out)
              have HBRr := Lib.hid (HBR.out.ext HXj.out)
              have HOVr := Lib.hid (HOV.out.ext FrR.stab HXj.out)
              have HKAr : Hid (∀ u, tLine ≠ u → Kept u wo wr) := fun u hu => (HKA.out u hu).trans (.of_below HXj.out)
              have HXr := Lib.hid (HXw.out.trans HXj.out)
              have hwr : wb.heap.size ≤ wr.heap.size := Nat.le_trans hwb HXj.out.size
              obtain ⟨x0, X0, x1, x2, y0, Y0, y1, y2, BX, VX⟩ := HBX.out.parts
              obtain ⟨r0, R0, r1, r2, s0, S0, s1, s2, BS, VS⟩ := (HBS.out.ext HXj.out).parts
              obtain ⟨k0, k1, k2, k3⟩ := BS.out.four
              obtain ⟨j0, j1, j2, j3⟩ := BX.out.four
              clear HBO HBR HOV HKA HXw HBS HBX HBM HXj
              go_wp2_with fail
              refine (fadd_any _ _ _ _ _ VS.out VX.out FT.out FJ.out (by omega)).mono ?_
              rintro e wa ⟨va, rfl, hva, hxa⟩
              obtain ⟨e0, E0, e1, e2, f0, F0, f1, f2, rfl, _, _⟩ := hva.parts
              rw [← HNX.out] at hva
              have BSa := Lib.hid (BS.out.ext hxa)
              obtain ⟨W', hW', HBS, HKN, HE, HON⟩ := Box.put BSa.out hva (HXr.out.trans hxa) (by omega)
              have HBO := Lib.hid ((HBOr.out.ext hxa).only HON.out (by omega))
              have HBR := Lib.hid ((HBRr.out.ext hxa).only HON.out (by omega))
              have HOV := Lib.hid ((HOVr.out.ext FrR.stab hxa).only FrR.stab HON.out (by omega) (fun u hu => by simp only [List.mem_singleton] at hu; subst hu; exact HKN.out))
              have HKA : Hid (∀ u, tLine ≠ u → Kept u wo W') := fun u hu => ((HKAr.out u hu).trans (.of_below hxa)).fresh HON.out (by omega)
              have hwb : wb.heap.size ≤ W'.heap.size := Nat.le_trans hwr (Nat.le_trans hxa.size HON.out.size)
              have HXw := HE
              have HWn := Lib.hid hW'
              have BSb := BSa
              obtain ⟨k0', k1', k2', k3'⟩ := BSb.out.four
              obtain ⟨m0, m1, m2, m3⟩ := BSb.out.free4
              clear hW' hxa hva k0 k1 k2 k3 j0 j1 j2 j3 HBOr HBRr HOVr HKAr HXr HE HON BX VX BS VS
              go_upto_region 16 with fail
              rw [HWn.out]
              clear k0' k1' k2' k3' m0 m1 m2 m3 HWn BSa BSb HKN
              have h3 : p < cs.length := by have := HCL.out; omega
              have HCP := Lib.hid (List.getElem?_set_self (a := Value.slice Av (k + 1) cv) h3)
              have hbt := bt64 hk hn8
              obtain ⟨r0, R0, r1, r2, s0, S0, s1, s2, BS, VS⟩ := HBS.out.parts
              obtain ⟨xv, RV, CV⟩ := HOV.out
              rw [tbl_len' l p (k + 1)] at RV
              go_upto_region 16 with fail
              obtain ⟨S, hSd⟩ : ∃ S : World → Prop, S = fun w' => w'.cell? ⟨w.heap.size + 1, p, none⟩ = some (.slice Av (k + 1) cv) ∧ (w'.cell? ⟨w1.heap.size, 0, none⟩ = some (.bool r0) ∧ w'.cell? ⟨w1.heap.size, 0 + 1, none⟩ = some (.slice R0 r1 r2) ∧ w'.cell? ⟨w1.heap.size, 0 + 2, none⟩ = some (.bool s0) ∧ w'.cell? ⟨w1.heap.size, 0 + 3, none⟩ = some (.slice S0 s1 s2)) := ⟨_, rfl⟩
              have HSI : Hid (∀ w', S w' → w'.cell? ⟨w.heap.size + 1, p, none⟩ = some (.slice Av (k + 1) cv) ∧ (w'.cell? ⟨w1.heap.size, 0, none⟩ = some (.bool r0) ∧ w'.cell? ⟨w1.heap.size, 0 + 1, none⟩ = some (.slice R0 r1 r2) ∧ w'.cell? ⟨w1.heap.size, 0 + 2, none⟩ = some (.bool s0) ∧ w'.cell? ⟨w1.heap.size, 0 + 3, none⟩ = some (.slice S0 s1 s2))) := by rw [Hid, hSd]; exact fun _ h => h
              have HSB : Hid (∀ w', Blk w' (w.heap.size + 1) tLine (cs.set p (.slice Av (k + 1) cv)) → Blk w' w1.heap.size tFrac [.bool r0, .slice R0 r1 r2, .bool s0, .slice S0 s1 s2] → S w') := by rw [Hid, hSd]; exact fun w' h1 h2 => ⟨h1.cell HCP.out, h2.four⟩
              have HS0 : Hid (S W'.drew) := HSB.out _ HBO.out BS.out
              clear hSd
              refine AnyT.start (S := S) (T := fun j => decide (8 ≤ j)) (by kernel_rfl) ?_
              obtain ⟨wd, hwd⟩ : ∃ wd : World, W'.drew = wd := ⟨_, rfl⟩
              have hyd : Ext W' wd := by rw [← hwd]; exact (Ext.refl W').drew
              rw [hwd] at HS0 ⊢
              clear hwd
              refine AnyT.load 0 42 (.int .i64 p) rfl (by kernel_rfl) (by kernel_rfl) (by kernel_rfl) (by kernel_rfl) (by kernel_rfl) (fun _ _ _ h => h) HS0.out ?_ ?_
              · intro o ho
                simp only [List.getElem?_toArray, List.getElem?_cons_zero, Option.some.injEq] at ho
                subst ho
                refine ⟨rfl, rfl, fun w' hSw => ?_⟩
                have hs := HSI.out w' hSw
                go_split_ands
                go_simp
              simp only [Act.put, List.setIfInBounds_toArray, List.set_cons_zero, List.set_cons_succ]
              refine AnyT.load 1 43 (.int .i64 p) rfl (by kernel_rfl) (by kernel_rfl) (by kernel_rfl) (by kernel_rfl) (by kernel_rfl) (fun _ _ _ h => h) HS0.out ?_ ?_
              · intro o ho
                simp only [List.getElem?_toArray, List.getElem?_cons_succ, List.getElem?_cons_zero, Option.some.injEq] at ho
                subst ho
                refine ⟨rfl, rfl, fun w' hSw => ?_⟩
                have hs := HSI.out w' hSw
                go_split_ands
                go_simp
              simp only [Act.put, List.setIfInBounds_toArray, List.set_cons_zero, List.set_cons_succ]
              refine AnyT.load 2 44 (.pointer (some ⟨w.heap.size + 1, p, none⟩)) rfl (by kernel_rfl) (by kernel_rfl) (by kernel_rfl) (by kernel_rfl) (by kernel_rfl) (fun _ _ _ h => h) HS0.out ?_ ?_
              · intro o ho
                simp only [List.getElem?_toArray, List.getElem?_cons_succ, List.getElem?_cons_zero, Option.some.injEq] at ho
                subst ho
                refine ⟨rfl, rfl, fun w' hSw => ?_⟩
                have hs := HSI.out w' hSw
                go_split_ands
                go_simp
              simp only [Act.put, List.setIfInBounds_toArray, List.set_cons_zero, List.set_cons_succ]
              refine AnyT.load 3 45 (.slice Av (k + 1) cv) rfl (by kernel_rfl) (by kernel_rfl) (by kernel_rfl) (by kernel_rfl) (by kernel_rfl) (fun _ _ _ h => h) HS0.out ?_ ?_
              · intro o ho
                simp only [List.getElem?_toArray, List.getElem?_cons_succ, List.getElem?_cons_zero, Option.some.injEq] at ho
                subst ho
                refine ⟨rfl, rfl, fun w' hSw => ?_⟩
                have hs := HSI.out w' hSw
                go_split_ands
                go_simp
              simp only [Act.put, List.setIfInBounds_toArray, List.set_cons_zero, List.set_cons_succ]
              refine AnyT.load 4 46 (.agg #[.bool r0, .slice R0 r1 r2, .bool s0, .slice S0 s1 s2]) rfl (by kernel_rfl) (by kernel_rfl) (by kernel_rfl) (by kernel_rfl) (by kernel_rfl) (fun _ _ _ h => h) HS0.out ?_ ?_
              · intro o ho
                simp only [List.getElem?_toArray, List.getElem?_cons_succ, List.getElem?_cons_zero, Option.some.injEq] at ho
                subst ho
                refine ⟨rfl, rfl, fun w' hSw => ?_⟩
                have hs := HSI.out w' hSw
                go_split_ands
                go_simp
              simp only [Act.put, List.setIfInBounds_toArray, List.set_cons_zero, List.set_cons_succ]
              refine AnyT.step 5 (by kernel_rfl) ?_
              intro o ho K hK
              simp only [List.getElem?_toArray, List.getElem?_cons_succ, List.getElem?_cons_zero, Option.some.injEq] at ho
              subst ho
              go_simp
              refine hK.out _ _ (fun _ => HSB.out _ ((HBO.out.ext hyd).alloc _) ((BS.out.ext hyd).alloc _)) ?_
              have RVd := own_extR RV hyd
              have CVd : Ch (FrR wd) xv (tbl' l p (k + 1)) := CV.mono fun c x hc => FrR.stab _ _ _ _ (fun _ _ => .of_below hyd) hc
              have hbd : wb.heap.size ≤ wd.heap.size := Nat.le_trans hwb hyd.size
              refine AnyT.step 6 (by kernel_rfl) ?_
              intro o ho K hK
              simp only [List.getElem?_toArray, List.getElem?_cons_succ, List.getElem?_cons_zero, Option.some.injEq] at ho
              subst ho
              refine if_go rfl ?_
              refine wp_app1 _ _ tFracs rfl wb.heap.size frac_slice _ _ _ rfl RVd #[.bool r0, .slice R0 r1 r2, .bool s0, .slice S0 s1 s2] 1 1 rfl rfl rfl hbt hbd ?_
              intro v' w6 ho6 hg6
              obtain ⟨A6, c6, rfl, _, _, _⟩ := own_parts ho6
              have O6 : Hid (OwnL tFrac 4 FrR wb.heap.size w6 (.slice A6 (k + 1 + 1) c6) (tbl' l p ((k + 1) + 1))) := by
                rw [Hid, tbl_succ' l p (k + 1)]
                exact OwnL.snoc (R := FrR) (w := wd) (x := tb l p (k + 1)) FrR.stab (by decide) (by rw [tbl_len' l p (k + 1)]; exact RVd) CVd ⟨r0, R0, r1, r2, s0, S0, s1, s2, rfl, VS.out.ext hyd⟩ (by rw [tbl_len' l p (k + 1)]; exact ho6) hg6
              have B6 := Lib.hid (blkG (HBO.out.ext hyd) RVd hg6 (by omega))
              have S6 := Lib.hid (blkG (BS.out.ext hyd) RVd hg6 (by omega))
              have R6 := Lib.hid (blkG (HBR.out.ext hyd) RVd hg6 (by omega))
              have VS6 := Lib.hid ((VS.out.ext hyd).keep (Kept.grown RVd hg6 (by decide)))
              have K6 : Hid (∀ u, tLine ≠ u → Kept u wo w6) := fun u hu => ((HKA.out u hu).trans (.of_below hyd)).base RVd hg6 hob
              have X6 := Lib.hid (grown_below (HXw.out.trans hyd) RVd hg6 (by omega))
              have hw6 : wb.heap.size ≤ w6.heap.size := Nat.le_trans hbd hg6.size
              clear ho6 hg6 RVd CVd hyd RV CV
              simp only [Act.put, List.setIfInBounds_toArray, List.set_cons_zero, List.set_cons_succ]
              refine hK.out _ _ (fun _ => HSB.out _ B6.out S6.out) ?_
              refine AnyT.step 7 (by kernel_rfl) ?_
              intro o ho K hK
              simp only [List.getElem?_toArray, List.getElem?_cons_succ, List.getElem?_cons_zero, Option.some.injEq] at ho
              subst ho
              go_simp
              refine hK.out _ _ (fun _ => HSB.out _ B6.out S6.out) ?_
              have i0 := B6.out.cell HCP.out
              have i1 := B6.out.frozen p
              obtain ⟨W', hW', B7, K7, N7⟩ := put1 (i := p) B6.out (.slice A6 (k + 1 + 1) c6)
              have HW' := Lib.hid hW'
              have O7 := Lib.hid (O6.out.only FrR.stab N7.out (by omega) (fun u hu => K7.out u (by rintro rfl; revert hu; decide)))
              have S7 : Hid (Box W' w1.heap.size (tb l p (k + 1))) := ⟨r0, R0, r1, r2, s0, S0, s1, s2, S6.out.only N7.out (by omega), VS6.out.keep (K7.out _ (by decide))⟩
              have R7 := Lib.hid (R6.out.only N7.out (by omega))
              have K8 : Hid (∀ u, tLine ≠ u → Kept u wo W') := fun u hu => (K6.out u hu).trans (K7.out u hu)
              have X7 := Lib.hid (X6.out.only N7.out (by omega))
              have hw7 : wb.heap.size ≤ W'.heap.size := Nat.le_trans hw6 N7.out.size
              clear hW' O6 S6 R6 VS6 K6 X6
              refine AnyT.step 8 (by kernel_rfl) ?_
              intro o ho K hK
              simp only [List.getElem?_toArray, List.getElem?_cons_succ, List.getElem?_cons_zero, Option.some.injEq] at ho
              subst ho
              go_simp
              refine hK.out _ _ (fun h => by cases h) ?_
              refine AnyT.done (by kernel_rfl) ?_
              rw [HW'.out]
              clear i0 i1 HW' HSI HSB HS0
              go_wp2_with fail
              go_roundw
              case rel => exact ⟨k + 1, _, _, by omega, by go_num, Lib.hid (by have h := B7.out; rwa [List.set_set] at h), O7, S7, R7, K8, X7, hw7⟩
              case measure => simp [RowKit.intOf]; omega
        · obtain rfl : k = l.length := by omega
          have HDN := Lib.hid ((HD7.out.keep HKA.out).next hp3 HOV.out.ls)
          go_wp2_with fail
          go_roundw
          case rel => exact ⟨p + 1, _, by omega, by go_num, HBO, HDN, HBR, HXw⟩
          case measure => simp [RowKit.intOf]; omega
    · obtain rfl : p = 3 := by omega
      obtain ⟨a, b, c, rfl⟩ := three_v HDN.out.1
      obtain ⟨A0, c0, e0, F0⟩ := HDN.out.2.1 0 (by decide) (by decide)
      obtain ⟨A1, c1, e1, F1⟩ := HDN.out.2.1 1 (by decide) (by decide)
      obtain ⟨A2, c2, e2, F2⟩ := HDN.out.2.1 2 (by decide) (by decide)
      obtain rfl := Option.some.inj e0
      obtain rfl := Option.some.inj e1
      obtain rfl := Option.some.inj e2
      clear e0 e1 e2
      obtain ⟨k0, k1, k2⟩ := HBO.out.three
      obtain ⟨j0, j1, j2⟩ := HBR.out.three
      obtain ⟨f0, f1, f2, f3⟩ := HBR.out.free4
      obtain ⟨W', hW', B7, K7, N7⟩ := put3 HBR.out (.slice A0 (l.length + 1) c0) (.slice A1 (l.length + 1) c1) (.slice A2 (l.length + 1) c2)
      have HW := Lib.hid hW'
      have X7 := Lib.hid (HXr.out.only N7.out (Nat.le_refl _))
      have HLN : Hid (LnV W' (.agg #[.slice A0 (l.length + 1) c0, .slice A1 (l.length + 1) c1, .slice A2 (l.length + 1) c2]) l) := ⟨A0, c0, A1, c1, A2, c2, rfl, Ls.kept FrR.stab F0 K7.out (by decide), Ls.kept FrR.stab F1 K7.out (by decide), Ls.kept FrR.stab F2 K7.out (by decide)⟩
      clear hW' F0 F1 F2
      go_wp2
      rw [HW.out]
      exact ret_line rfl rfl rfl B7.out ⟨_, rfl, HLN.out, X7.out⟩
end Go.Proofs.YtkhmfgkbobblmaaGreatDoor
