/- corepoint.line.divide, walked. -/
import Derived.Test.YtkhmfgkbobblmaaGreatDoorDivi
import Derived.Test.YtkhmfgkbobblmaaGreatDoorLit
namespace Go.Proofs.YtkhmfgkbobblmaaGreatDoor
open Go.RowKit Go.Lib

theorem OwnL.of_blk {α : Type} {t : TypeId} {k base g : Nat} {R : World → List Value → α → Prop} {w : World} {l : List α} {xs : List Value} (hB : Blk w g t xs) (hc : Ch (R w) xs l) (hk : ∀ c x, R w c x → c.length = k) (hb : base ≤ g) (hl : l.length ≤ maxLen) : OwnL t k R base w (.slice (some ⟨g, 0, none⟩) l.length l.length) l :=
  ⟨xs, ⟨Ch.length hk hc, .inr ⟨g, l.length, xs.toArray, rfl, hb, hB, Nat.le_refl _, hl, by simpa using Ch.length hk hc, by simp [← Ch.length hk hc]⟩⟩, hc⟩
theorem row_blk {w : World} {g n : Nat} {xs : List Value} {l : List Dv} (hB : Blk w g tDivi xs) (hc : Ch (DvR w) xs l) (hl : l.length = n) (hn : n ≤ 1000) : OneR tDivi DvR w [.slice (some ⟨g, 0, none⟩) n n] l := by
  subst hl
  exact ⟨_, l.length, rfl, Ls.of_blk hB hc hn⟩
abbrev TB (base : Nat) (w : World) (v : Value) (l : List Ms) (p : Nat) : Prop := OwnL tDivis 1 (OneR tDivi DvR) base w v (tabD l p)
theorem OwnL.cut {α : Type} {t : TypeId} {k base m : Nat} {R : World → List Value → α → Prop} {w : World} {v : Value} {l : List α} (h : OwnL t k R base w v l) (hm : l.length = m) : ∃ A c xs, v = .slice A m c ∧ Hid (w.ownsRow base t k (.slice A m c) m xs) ∧ Hid (Ch (R w) xs l) := by
  subst hm
  obtain ⟨A, c, xs, h1, _, _, h2, h3⟩ := h.parts
  exact ⟨A, c, xs, h1, h2, h3⟩
theorem tab_row {base p' p n m : Nat} {w : World} {A : Option Addr} {c p1 : Nat} {l : List Ms} (h : TB base w (.slice A p1 c) l p) (hp : p' < p) (hn : l.length = n) (hm : n - p' = m) : ∃ g o B d, A = some ⟨g, o, none⟩ ∧ Hid (∀ w', Ext w w' → w'.cell? ⟨g, o + p', none⟩ = some (.slice B m d)) ∧ Hid (DL w (.slice B m d) (rowD l p' m)) := by
  have hi : p' < (tabD l p).length := by rw [tabD_length]; exact hp
  obtain ⟨g, o, B, d, e, hg, h1, h2⟩ := OneR.get (OwnL.ls h) hi
  rw [tabD_get l p hp, rowD_length, hn, hm] at h1 h2
  exact ⟨g, o, B, d, e, fun w' hx => (hx.cell hg).trans h2, h1⟩
theorem dl_at {m d p j : Nat} {w : World} {B : Option Addr} {l : List Ms} (h : DL w (.slice B m d) (rowD l p m)) (hj : j < m) : ∃ g o x0 X0 x1 x2 y0 Y0 y1 y2, B = some ⟨g, o, none⟩ ∧ Hid (FracV w (.agg #[.bool x0, .slice X0 x1 x2, .bool y0, .slice Y0 y1 y2]) (dvr l p j).1) ∧ Hid (∀ w', Ext w w' → (w'.cell? ⟨g, o + j * 5, none⟩ = some (.bool x0) ∧ w'.cell? ⟨g, o + j * 5 + 1, none⟩ = some (.slice X0 x1 x2) ∧ w'.cell? ⟨g, o + j * 5 + 2, none⟩ = some (.bool y0) ∧ w'.cell? ⟨g, o + j * 5 + 3, none⟩ = some (.slice Y0 y1 y2))) := by
  have hi : j < (rowD l p m).length := by rw [rowD_length]; exact hj
  obtain ⟨g, o, b, A1, n1, c1, b', A2, n2, c2, e, hg, hf, p1, p2, p3, p4, _⟩ := DL.get h hi
  rw [rowD_get l p m hj] at hf
  exact ⟨g, o, b, A1, n1, c1, b', A2, n2, c2, e, hf, fun w' hx => ⟨(hx.cell hg).trans p1, (hx.cell hg).trans p2, (hx.cell hg).trans p3, (hx.cell hg).trans p4⟩⟩
theorem dvb_fst {l : List Ms} {p i j : Nat} (h1 : i + 1 ≤ j) (h2 : j ≤ i + 1) : dvb l p i (j + 1 - i - 2) = (cst (seg l i j) + (dvr l p j).1, j) := by
  obtain rfl : j = i + 1 := by omega
  rw [show i + 1 + 1 - i - 2 = 0 by omega, dvb_first]
theorem dvb_nxt {l : List Ms} {p i j : Nat} (h : i + 1 < j) : dvb l p i (j + 1 - i - 2) = if cst (seg l i j) + (dvr l p j).1 < (dvb l p i (j - i - 2)).1 then (cst (seg l i j) + (dvr l p j).1, j) else dvb l p i (j - i - 2) := by
  rw [show j + 1 - i - 2 = (j - i - 2) + 1 by omega, dvb_next, show i + (j - i - 2 + 2) = j by omega]
theorem DvR.open {w : World} {b b' : Bool} {B1 B2 : Option Addr} {n1 d1 n2 d2 : Nat} {z : Int} {x : Dv} (h : DvR w [.bool b, .slice B1 n1 d1, .bool b', .slice B2 n2 d2, .int .i64 z] x) : FracV w (.agg #[.bool b, .slice B1 n1 d1, .bool b', .slice B2 n2 d2]) x.1 := by
  obtain ⟨_, _, _, _, _, _, _, _, e, h⟩ := h
  injection e with e1 e
  injection e with e2 e
  injection e with e3 e
  injection e with e4 e
  rw [e1, e2, e3, e4]
  exact h
theorem b24 {p k : Nat} (h : p ≤ k) (hk : k ≤ 1000) : (p + 1) * 24 ≤ 140737488355328 := by omega
theorem tab_one {w : World} {g h n : Nat} {l : List Ms} {xs : List Value} (hB : Blk w g tDivi xs) (hc : Ch (DvR w) xs (rowD l 0 n)) (hn : l.length = n) (h8 : n ≤ 8) (hT : Blk w h tDivis [.slice (some ⟨g, 0, none⟩) n n]) : TB h w (.slice (some ⟨h, 0, none⟩) 1 1) l 1 := by
  have e1 : tabD l 1 = [rowD l 0 n] := by rw [← hn]; rfl
  have hr := row_blk hB hc (rowD_length _ _ _) (by omega)
  have := OwnL.of_blk (k := 1) (base := h) (l := [rowD l 0 n]) (R := OneR tDivi DvR) hT ⟨[.slice (some ⟨g, 0, none⟩) n n], [], rfl, hr, rfl⟩ (OneR.one w) (Nat.le_refl _) (by simp [maxLen])
  rw [TB, e1]
  exact this
set_option maxRecDepth 100000 in
set_option maxHeartbeats 1000000 in
theorem cdivide_any (v : Value) (l : List Ms) (k : Nat) (w : World) (h : LnV w v l) (hm : MsOk l) (hn : l ≠ []) (h1 : 1 ≤ k) (hk : k ≤ 1000) :
    Calls Tryz.prog 38 #[v, .int .i64 l.length, .int .i64 k] w fun e w' => ∃ v', e = .returned v' ∧ DDL w' v' (tabD l (min k l.length)) ∧ Ext w w' := by
  have HM := Lib.hid hm
  have HL := Lib.hid h
  have hn8 := hm.1
  have hl1 : 1 ≤ l.length := by
    rcases l with _ | ⟨x, l⟩
    · exact absurd rfl hn
    · simp
  obtain ⟨n, hln⟩ : ∃ n, l.length = n := ⟨_, rfl⟩
  have HN := Lib.hid hln
  obtain ⟨A0, c0, A1, c1, A2, c2, rfl, -, -, -⟩ := h
  rw [hln] at HL hn8 hl1 ⊢
  clear hm hn hln
  go_enter Tryz.func38, Tryz.ntmps38
  go_upto_region 1 with fail
  refine box1 (P := fun W => Code.wp _ _ _ _ W) fun W0 HX0 BL => ?_
  have hmk := make_divi n (by omega) W0
  go_upto_region 2 with fail
  refine box2 (P := fun W => Code.wp _ _ _ _ W) fun W HX1 BD BT => ?_
  clear hmk
  have HXA := Lib.hid (HX0.out.trans HX1.out)
  have HBL := Lib.hid (BL.out.ext HX1.out)
  have hg0 : w.heap.size < W0.heap.size := BL.out.lt
  have BD0 : Hid (Blk W W0.heap.size tDivi ([] ++ zdivs (n - 0))) := BD
  clear HX1 BL BD HX0
  go_wp2_with fail
  go_loopw [8, 18] (fun _ v18 wr => ∃ (i : Nat) (xs : List Value), i ≤ n ∧ v18 = .int .i64 i ∧ Hid (Blk wr W0.heap.size tDivi (xs ++ zdivs (n - i))) ∧ Hid (Ch (DvR wr) xs (rowD l 0 i)) ∧ Hid (Blk wr (W0.heap.size + 1) tDivis [.slice (some ⟨W0.heap.size, 0, none⟩) n n]) ∧ Hid (Blk wr w.heap.size tLine [.slice A0 (n + 1) c0, .slice A1 (n + 1) c1, .slice A2 (n + 1) c2]) ∧ Hid (Ext w wr)) (fun _ v18 _ => n - (RowKit.intOf v18).toNat)
  case atStart => exact ⟨0, [], Nat.zero_le _, rfl, BD0, rfl, BT, HBL, HXA⟩
  case round =>
    obtain ⟨i, xs, hi, rfl, HBD, HCH, HBT, HBL, HXr⟩ := hrel
    by_cases hin : i < n
    · have hil : i < l.length := by rw [HN.out]; exact hin
      have CS := Lib.hid (fun w' hx => ccost_any _ l i n w' (LnV.ext HL.out hx) HM.out hin (by rw [HN.out]; exact Nat.le_refl _))
      have DZ : Hid (dvr l 0 i = (cst (seg l i n), n)) := by rw [Hid, dvr_zero hil, HN.out]
      have HRN := Lib.hid (rowD_next l 0 i)
      rw [DZ.out] at HRN
      clear DZ hil
      have hxl : xs.length = i * 5 := by rw [Ch.length (DvR.five wr) HCH.out, rowD_length]
      go_upto_region 5 with fail
      have HSI : Hid (∀ w', Ext wr w' → w'.cell? ⟨W0.heap.size + 1, 0, none⟩ = some (.slice (some ⟨W0.heap.size, 0, none⟩) n n) ∧ w'.cell? ⟨w.heap.size, 0, none⟩ = some (.slice A0 (n + 1) c0) ∧ w'.cell? ⟨w.heap.size, 1, none⟩ = some (.slice A1 (n + 1) c1) ∧ w'.cell? ⟨w.heap.size, 2, none⟩ = some (.slice A2 (n + 1) c2)) := fun w' hx => ⟨(HBT.out.ext hx).cell rfl, (HBL.out.ext hx).cell rfl, (HBL.out.ext hx).cell rfl, (HBL.out.ext hx).cell rfl⟩
      have HS0 : Hid (Ext wr wr.drew) := (Ext.refl wr).drew
      refine AnyT.start (S := fun w' => Ext wr w') (T := fun j => decide (11 ≤ j)) (by kernel_rfl) ?_
      obtain ⟨wd, hwd⟩ : ∃ wd : World, wr.drew = wd := ⟨_, rfl⟩
      rw [hwd] at HS0 ⊢
      clear hwd
      refine AnyT.ld 0 21 (.slice (some ⟨W0.heap.size + 1, 0, none⟩) 1 1) _ rfl rfl (by kernel_rfl) (fun _ _ _ h => h) HS0.out rfl ?_ ?_
      focus (intro w' hSw; have hs := HSI.out w' hSw; go_split_ands; go_simp; try (first | exact rfl | omega | go_num | (intro hbd; exfalso; omega)))
      simp only [Act.put, List.setIfInBounds_toArray, List.set_cons_zero, List.set_cons_succ]
      refine AnyT.ld 1 22 (.pointer (some ⟨W0.heap.size + 1, 0, none⟩)) _ rfl rfl (by kernel_rfl) (fun _ _ _ h => h) HS0.out rfl ?_ ?_
      focus (intro w' hSw; have hs := HSI.out w' hSw; go_split_ands; go_simp; try (first | exact rfl | omega | go_num | (intro hbd; exfalso; omega)))
      simp only [Act.put, List.setIfInBounds_toArray, List.set_cons_zero, List.set_cons_succ]
      refine AnyT.ld 2 23 (.slice (some ⟨W0.heap.size, 0, none⟩) n n) _ rfl rfl (by kernel_rfl) (fun _ _ _ h => h) HS0.out rfl ?_ ?_
      focus (intro w' hSw; have hs := HSI.out w' hSw; go_split_ands; go_simp; try (first | exact rfl | omega | go_num | (intro hbd; exfalso; omega)))
      simp only [Act.put, List.setIfInBounds_toArray, List.set_cons_zero, List.set_cons_succ]
      refine AnyT.ld 3 24 (.int .i64 i) _ rfl rfl (by kernel_rfl) (fun _ _ _ h => h) HS0.out rfl ?_ ?_
      focus (intro w' hSw; have hs := HSI.out w' hSw; go_split_ands; go_simp; try (first | exact rfl | omega | go_num | (intro hbd; exfalso; omega)))
      simp only [Act.put, List.setIfInBounds_toArray, List.set_cons_zero, List.set_cons_succ]
      refine AnyT.ld 4 25 (.agg #[.slice A0 (n + 1) c0, .slice A1 (n + 1) c1, .slice A2 (n + 1) c2]) _ rfl rfl (by kernel_rfl) (fun _ _ _ h => h) HS0.out rfl ?_ ?_
      focus (intro w' hSw; have hs := HSI.out w' hSw; go_split_ands; go_simp; try (first | exact rfl | omega | go_num | (intro hbd; exfalso; omega)))
      simp only [Act.put, List.setIfInBounds_toArray, List.set_cons_zero, List.set_cons_succ]
      refine AnyT.ld 5 26 (.int .i64 i) _ rfl rfl (by kernel_rfl) (fun _ _ _ h => h) HS0.out rfl ?_ ?_
      focus (intro w' hSw; have hs := HSI.out w' hSw; go_split_ands; go_simp; try (first | exact rfl | omega | go_num | (intro hbd; exfalso; omega)))
      simp only [Act.put, List.setIfInBounds_toArray, List.set_cons_zero, List.set_cons_succ]
      refine AnyT.ld 6 27 (.int .i64 n) _ rfl rfl (by kernel_rfl) (fun _ _ _ h => h) HS0.out rfl ?_ ?_
      focus (intro w' hSw; have hs := HSI.out w' hSw; go_split_ands; go_simp; try (first | exact rfl | omega | go_num | (intro hbd; exfalso; omega)))
      simp only [Act.put, List.setIfInBounds_toArray, List.set_cons_zero, List.set_cons_succ]
      refine AnyT.ld 8 29 (.int .i64 n) _ rfl rfl (by kernel_rfl) (fun _ _ _ h => h) HS0.out rfl ?_ ?_
      focus (intro w' hSw; have hs := HSI.out w' hSw; go_split_ands; go_simp; try (first | exact rfl | omega | go_num | (intro hbd; exfalso; omega)))
      simp only [Act.put, List.setIfInBounds_toArray, List.set_cons_zero, List.set_cons_succ]
      refine AnyT.step 7 (by kernel_rfl) ?_
      intro o ho K hK
      simp only [List.getElem?_toArray, List.getElem?_cons_succ, List.getElem?_cons_zero, Option.some.injEq] at ho
      subst ho
      go_simp
      refine (CS.out _ (HXr.out.trans HS0.out)).mono ?_
      rintro e w1 ⟨v1, rfl, hv1, hx1⟩
      obtain ⟨e0, E0, e1, e2, f0, F0, f1, f2, rfl, _, _⟩ := hv1.parts
      have hy1 := HS0.out.trans hx1
      refine hK.out _ _ (fun _ => hy1) ?_
      clear HS0 hx1
      have HS0 := Lib.hid hy1
      refine AnyT.ld 9 30 (.agg #[.bool e0, .slice E0 e1 e2, .bool f0, .slice F0 f1 f2, .int .i64 n]) _ rfl rfl (by kernel_rfl) (fun _ _ _ h => h) HS0.out rfl ?_ ?_
      focus (intro w' hSw; have hs := HSI.out w' hSw; go_split_ands; go_simp; try (first | exact rfl | omega | go_num | (intro hbd; exfalso; omega)))
      simp only [Act.put, List.setIfInBounds_toArray, List.set_cons_zero, List.set_cons_succ]
      refine AnyT.ld 10 31 (.pointer (some ⟨W0.heap.size, i * 5, none⟩)) _ rfl rfl (by kernel_rfl) (fun _ _ _ h => h) HS0.out rfl ?_ ?_
      focus (intro w' hSw; have hs := HSI.out w' hSw; go_split_ands; go_simp; try (first | exact rfl | omega | go_num | (intro hbd; exfalso; omega)))
      simp only [Act.put, List.setIfInBounds_toArray, List.set_cons_zero, List.set_cons_succ]
      have HB1 : Hid (Blk w1 W0.heap.size tDivi (xs ++ (zdiv ++ zdivs (n - (i + 1))))) := by rw [Hid, ← zdivs_succ hin]; exact HBD.out.ext hy1
      obtain ⟨k0, k1, k2, k3, k4⟩ := row5_cells HB1.out hxl
      have m0 := HB1.out.frozen (i * 5)
      have m1 := HB1.out.frozen (i * 5 + 1)
      have m2 := HB1.out.frozen (i * 5 + 2)
      have m3 := HB1.out.frozen (i * 5 + 3)
      have m4 := HB1.out.frozen (i * 5 + 4)
      obtain ⟨W', hW', HB2, HK2, HO2⟩ := store5 HB1.out hxl (.bool e0) (.slice E0 e1 e2) (.bool f0) (.slice F0 f1 f2) (.int .i64 n)
      have HW := Lib.hid hW'
      have HX2 := Lib.hid ((HXr.out.trans hy1).only HO2.out (by omega))
      have HBT2 := Lib.hid ((HBT.out.ext hy1).only HO2.out (by omega))
      have HBL2 := Lib.hid ((HBL.out.ext hy1).only HO2.out (by omega))
      have HCH2 : Hid (Ch (DvR W') (xs ++ [.bool e0, .slice E0 e1 e2, .bool f0, .slice F0 f1 f2, .int .i64 n]) (rowD l 0 (i + 1))) := by
        rw [Hid, HRN.out]
        refine Ch.snoc ⟨e0, E0, e1, e2, f0, F0, f1, f2, rfl, hv1.keep (HK2.out _ (by decide))⟩ (HCH.out.mono fun c x hc => ?_)
        exact DvR.stab _ _ _ _ (fun t ht => by simp only [List.mem_singleton] at ht; subst ht; exact (Kept.of_below hy1).trans (HK2.out _ (by decide))) hc
      have HBD2 : Hid (Blk W' W0.heap.size tDivi ((xs ++ [.bool e0, .slice E0 e1 e2, .bool f0, .slice F0 f1 f2, .int .i64 n]) ++ zdivs (n - (i + 1)))) := by rw [List.append_assoc]; exact HB2
      clear hW' HB2 HK2 HO2 hy1 hv1 HS0 HSI HB1
      refine AnyT.step 11 (by kernel_rfl) ?_
      intro o ho K hK
      simp only [List.getElem?_toArray, List.getElem?_cons_succ, List.getElem?_cons_zero, Option.some.injEq] at ho
      subst ho
      go_simp
      refine hK.out _ _ (fun h => by cases h) ?_
      refine AnyT.done (by kernel_rfl) ?_
      rw [HW.out]
      clear k0 k1 k2 k3 k4 m0 m1 m2 m3 m4 hxl HW
      go_wp2_with fail
      go_roundw
      case rel => exact ⟨i + 1, _, by omega, by go_num, HBD2, HCH2, HBT2, HBL2, HX2⟩
      case measure => simp [RowKit.intOf]; omega
    · obtain rfl : n = i := by omega
      have HBR : Hid (Blk wr W0.heap.size tDivi xs) := by simpa [zdivs] using HBD
      have hwr1 : W0.heap.size + 1 ≤ wr.heap.size := Nat.le_of_lt HBT.out.lt
      have HTB := Lib.hid (tab_one HBR.out HCH.out HN.out hn8 HBT.out)
      clear HBD HCH HBT HBR
      go_wp2_with fail
      go_loopw [7, 9, 10, 11, 12, 13] (fun v7 v9 _ _ _ _ ws => ∃ p : Nat, 1 ≤ p ∧ p ≤ k ∧ p ≤ n ∧ v9 = .int .i64 p ∧ W0.heap.size + 1 ≤ ws.heap.size ∧ Hid (TB (W0.heap.size + 1) ws v7 l p) ∧ Hid (Blk ws w.heap.size tLine [.slice A0 (n + 1) c0, .slice A1 (n + 1) c1, .slice A2 (n + 1) c2]) ∧ Hid (Ext w ws)) (fun _ v9 _ _ _ _ _ => n - (RowKit.intOf v9).toNat)
      case atStart => exact ⟨1, Nat.le_refl _, h1, hl1, rfl, hwr1, HTB, HBL, HXr⟩
      case round =>
        obtain ⟨p, hp1, hpk, hpn, rfl, hrb, HTB, HBL, HXs⟩ := hrel
        clear hi hin
        have hgb : W0.heap.size + 1 ≤ wr.heap.size := hrb
        by_cases hpl : p < k ∧ p < n
        · obtain ⟨hpk', hpn'⟩ := hpl
          have hm : p < min k n := by omega
          have hdm : decide ((p : Int) < min (k : Int) (n : Int)) = true := decide_eq_true (by omega)
          go_upto_region 10 with fail
          clear hdm
          obtain ⟨q, hq⟩ : ∃ q, n = p + q := ⟨n - p, by omega⟩
          obtain ⟨p', hpp⟩ : ∃ p', p = p' + 1 := ⟨p - 1, by omega⟩
          have hnq : (n : Int) - (p : Int) = (q : Int) := by omega
          have hmk := make_divi q (by omega) wr
          obtain ⟨A7, c7, x7, rfl, RO, CO⟩ := OwnL.cut HTB.out (tabD_length l p)
          obtain ⟨g7, o7, B, cB, rfl, HC7, HDB⟩ := tab_row (m := q + 1) HTB.out (show p' < p by omega) HN.out (by omega)
          have HQ := Lib.hid hq
          have HPP := Lib.hid hpp
          clear hq hpp
          generalize wr = ws at *
          go_upto_region 11 with fail
          refine box1 (P := fun W => Code.wp _ _ _ _ W) fun WA HXa BN => ?_
          have BN0 : Hid (Blk WA ws.heap.size tDivi ([] ++ zdivs (q - 0))) := BN.out
          have CN0 : Hid (Ch (DvR WA) [] (rowD l p 0)) := rfl
          clear hmk BN hm
          go_wp2_with fail
          go_loopw [11, 12, 13, 46] (fun _ _ _ v46 wt => ∃ (i : Nat) (xs : List Value), i ≤ q ∧ v46 = .int .i64 i ∧ Hid (Blk wt ws.heap.size tDivi (xs ++ zdivs (q - i))) ∧ Hid (Ch (DvR wt) xs (rowD l p i)) ∧ Hid (Ext ws wt)) (fun _ _ _ v46 _ => q - (RowKit.intOf v46).toNat)
          case atStart => exact ⟨0, [], Nat.zero_le _, rfl, BN0, CN0, HXa⟩
          case round =>
            obtain ⟨i, xs, hi, rfl, HBD, HCH, HXt⟩ := hrel
            by_cases hiq : i < q
            · have hxl : xs.length = i * 5 := by rw [Ch.length (DvR.five wr) HCH.out, rowD_length]
              have HXL := Lib.hid hxl
              have HB0 : Hid (Blk wr ws.heap.size tDivi (xs ++ ([.bool false, .slice none 0 0, .bool false, .slice none 0 0, .int .i64 0] ++ zdivs (q - (i + 1))))) := by rw [Hid, show ([.bool false, .slice none 0 0, .bool false, .slice none 0 0, .int .i64 0] : List Value) = zdiv from rfl, ← zdivs_succ hiq]; exact HBD.out
              clear hxl HBD
              go_wp2_with fail
              go_loopw [12, 13] (fun v12 _ wu => ∃ (j : Nat) (b : Bool) (B1 : Option Addr) (n1 d1 : Nat) (b' : Bool) (B2 : Option Addr) (n2 d2 : Nat) (z : Int), i + 1 ≤ j ∧ j ≤ q + 1 ∧ v12 = .int .i64 j ∧ Hid (Blk wu ws.heap.size tDivi (xs ++ ([.bool b, .slice B1 n1 d1, .bool b', .slice B2 n2 d2, .int .i64 z] ++ zdivs (q - (i + 1))))) ∧ Hid (Ch (DvR wu) xs (rowD l p i)) ∧ Hid (i + 1 < j → DvR wu [.bool b, .slice B1 n1 d1, .bool b', .slice B2 n2 d2, .int .i64 z] (dvb l p' i (j - i - 2))) ∧ Hid (Ext ws wu)) (fun v12 _ _ => q + 1 - (RowKit.intOf v12).toNat)
              case atStart => exact ⟨i + 1, false, none, 0, 0, false, none, 0, 0, 0, Nat.le_refl _, by omega, by go_num, HB0, HCH, fun h => absurd h (Nat.lt_irrefl _), HXt⟩
              case round =>
                obtain ⟨j, b, B1, n1, d1, b', B2, n2, d2, z, hij, hj, rfl, HBD, HCH, HDV, HXu⟩ := hrel
                by_cases hjq : j ≤ q
                · have CS := Lib.hid (fun w' hx => ccost_any _ l i j w' (LnV.ext HL.out hx) HM.out (by omega) (by rw [HN.out]; have := HQ.out; omega))
                  obtain ⟨g5, o5, x0, X0, x1, x2, y0, Y0, y1, y2, rfl, HVR, HC5⟩ := dl_at (j := j) HDB.out (by omega)
                  have FC := Lib.hid (cst_fit (seg_ok HM.out i j) (seg_ne (by omega) (by rw [HN.out]; have h1 := HQ.out; omega)))
                  have FR := Lib.hid (dvr_fit HM.out (p := p') (i := j) (by rw [HN.out]; have h1 := HQ.out; have h2 := HPP.out; omega))
                  have hp8 : p' ≤ 8 := by have h2 := HPP.out; omega
                  have FS : Hid (FitQ (13 + 14 * (p' + 1) + 1) (cst (seg l i j) + (dvr l p' j).1)) := FC.out.add FR.out
                  have FB : Hid (i + 1 < j → FitQ (14 * (p' + 2)) (dvb l p' i (j - i - 2)).1) := fun h => dvb_fit HM.out (by rw [HN.out]; have h1 := HQ.out; have h2 := HPP.out; omega)
                  have HN1 := Lib.hid (dvb_fst (l := l) (p := p') (i := i) (j := j) hij)
                  have HN2 := Lib.hid (dvb_nxt (l := l) (p := p') (i := i) (j := j))
                  generalize cst (seg l i j) = cc at *
                  generalize (dvr l p' j).1 = dr at *
                  have hpm : (p : Int) - 1 = (p' : Int) := by have h2 := HPP.out; omega
                  have hpl : p' < p := by have h2 := HPP.out; omega
                  have hwp : IntKind.i64.wrap (p' : Int) = (p' : Int) := by rw [IntKind.wrap_i64]; omega
                  have hgu : ws.heap.size < wr.heap.size := HBD.out.lt
                  generalize wr = wu at *
                  go_upto_region 17 with fail
                  go_cut [13] from 51 to 91 (fun s13 wx => ∃ gd, s13 = .pointer (some ⟨gd, 0, none⟩) ∧ wu.heap.size ≤ gd ∧ Hid (Box wx gd (cc + dr)) ∧ Hid (Ext wu wx))
                  case first =>
                    have HSI : Hid (∀ w', Ext wu w' → (w'.cell? ⟨w.heap.size, 0, none⟩ = some (.slice A0 (n + 1) c0) ∧ w'.cell? ⟨w.heap.size, 1, none⟩ = some (.slice A1 (n + 1) c1) ∧ w'.cell? ⟨w.heap.size, 2, none⟩ = some (.slice A2 (n + 1) c2)) ∧ w'.cell? ⟨g7, o7 + p', none⟩ = some (.slice (some ⟨g5, o5, none⟩) (q + 1) cB) ∧ (w'.cell? ⟨g5, o5 + j * 5, none⟩ = some (.bool x0) ∧ w'.cell? ⟨g5, o5 + j * 5 + 1, none⟩ = some (.slice X0 x1 x2) ∧ w'.cell? ⟨g5, o5 + j * 5 + 2, none⟩ = some (.bool y0) ∧ w'.cell? ⟨g5, o5 + j * 5 + 3, none⟩ = some (.slice Y0 y1 y2))) := fun w' hx => ⟨⟨(HBL.out.ext (HXu.out.trans hx)).cell rfl, (HBL.out.ext (HXu.out.trans hx)).cell rfl, (HBL.out.ext (HXu.out.trans hx)).cell rfl⟩, HC7.out w' (HXu.out.trans hx), HC5.out w' (HXu.out.trans hx)⟩
                    have HS0 : Hid (Ext wu wu.drew) := (Ext.refl wu).drew
                    have hyc : Ext wu wu.drew := HS0.out
                    refine AnyT.start (S := fun w' => Ext wu w') (T := fun j => decide (15 ≤ j)) (by kernel_rfl) ?_
                    obtain ⟨wd, hwd⟩ : ∃ wd : World, wu.drew = wd := ⟨_, rfl⟩
                    rw [hwd] at hyc HS0 ⊢
                    clear hwd
                    refine AnyT.ld 0 58 (.agg #[.slice A0 (n + 1) c0, .slice A1 (n + 1) c1, .slice A2 (n + 1) c2]) _ rfl rfl (by kernel_rfl) (fun _ _ _ h => h) HS0.out rfl ?_ ?_
                    focus (intro w' hSw; have hs := HSI.out w' hSw; go_split_ands; go_simp; try (first | exact rfl | omega | go_num | (intro hbd; exfalso; omega)))
                    simp only [Act.put, List.setIfInBounds_toArray, List.set_cons_zero, List.set_cons_succ]
                    refine AnyT.ld 1 59 (.int .i64 i) _ rfl rfl (by kernel_rfl) (fun _ _ _ h => h) HS0.out rfl ?_ ?_
                    focus (intro w' hSw; have hs := HSI.out w' hSw; go_split_ands; go_simp; try (first | exact rfl | omega | go_num | (intro hbd; exfalso; omega)))
                    simp only [Act.put, List.setIfInBounds_toArray, List.set_cons_zero, List.set_cons_succ]
                    refine AnyT.ld 2 60 (.int .i64 j) _ rfl rfl (by kernel_rfl) (fun _ _ _ h => h) HS0.out rfl ?_ ?_
                    focus (intro w' hSw; have hs := HSI.out w' hSw; go_split_ands; go_simp; try (first | exact rfl | omega | go_num | (intro hbd; exfalso; omega)))
                    simp only [Act.put, List.setIfInBounds_toArray, List.set_cons_zero, List.set_cons_succ]
                    refine AnyT.ld 4 62 (.slice (some ⟨g7, o7, none⟩) p c7) _ rfl rfl (by kernel_rfl) (fun _ _ _ h => h) HS0.out rfl ?_ ?_
                    focus (intro w' hSw; have hs := HSI.out w' hSw; go_split_ands; go_simp; try (first | exact rfl | omega | go_num | (intro hbd; exfalso; omega)))
                    simp only [Act.put, List.setIfInBounds_toArray, List.set_cons_zero, List.set_cons_succ]
                    refine AnyT.ld 5 63 (.int .i64 p) _ rfl rfl (by kernel_rfl) (fun _ _ _ h => h) HS0.out rfl ?_ ?_
                    focus (intro w' hSw; have hs := HSI.out w' hSw; go_split_ands; go_simp; try (first | exact rfl | omega | go_num | (intro hbd; exfalso; omega)))
                    simp only [Act.put, List.setIfInBounds_toArray, List.set_cons_zero, List.set_cons_succ]
                    refine AnyT.ld 6 64 (.int .i64 p') _ rfl rfl (by kernel_rfl) (fun _ _ _ h => h) HS0.out rfl ?_ ?_
                    focus (intro w' hSw; have hs := HSI.out w' hSw; go_split_ands; go_simp; try (first | exact rfl | omega | go_num | (intro hbd; exfalso; omega)))
                    simp only [Act.put, List.setIfInBounds_toArray, List.set_cons_zero, List.set_cons_succ]
                    refine AnyT.ld 7 65 (.pointer (some ⟨g7, o7 + p', none⟩)) _ rfl rfl (by kernel_rfl) (fun _ _ _ h => h) HS0.out rfl ?_ ?_
                    focus (intro w' hSw; have hs := HSI.out w' hSw; go_split_ands; go_simp; try (first | exact rfl | omega | go_num | (intro hbd; exfalso; omega)))
                    simp only [Act.put, List.setIfInBounds_toArray, List.set_cons_zero, List.set_cons_succ]
                    refine AnyT.ld 8 66 (.slice (some ⟨g5, o5, none⟩) (q + 1) cB) _ rfl rfl (by kernel_rfl) (fun _ _ _ h => h) HS0.out rfl ?_ ?_
                    focus (intro w' hSw; have hs := HSI.out w' hSw; go_split_ands; go_simp; try (first | exact rfl | omega | go_num | (intro hbd; exfalso; omega)))
                    simp only [Act.put, List.setIfInBounds_toArray, List.set_cons_zero, List.set_cons_succ]
                    refine AnyT.ld 9 67 (.int .i64 j) _ rfl rfl (by kernel_rfl) (fun _ _ _ h => h) HS0.out rfl ?_ ?_
                    focus (intro w' hSw; have hs := HSI.out w' hSw; go_split_ands; go_simp; try (first | exact rfl | omega | go_num | (intro hbd; exfalso; omega)))
                    simp only [Act.put, List.setIfInBounds_toArray, List.set_cons_zero, List.set_cons_succ]
                    refine AnyT.ld 10 68 (.pointer (some ⟨g5, o5 + j * 5, none⟩)) _ rfl rfl (by kernel_rfl) (fun _ _ _ h => h) HS0.out rfl ?_ ?_
                    focus (intro w' hSw; have hs := HSI.out w' hSw; go_split_ands; go_simp; try (first | exact rfl | omega | go_num | (intro hbd; exfalso; omega)))
                    simp only [Act.put, List.setIfInBounds_toArray, List.set_cons_zero, List.set_cons_succ]
                    refine AnyT.ld 11 69 (.pointer (some ⟨g5, o5 + j * 5, none⟩)) _ rfl rfl (by kernel_rfl) (fun _ _ _ h => h) HS0.out rfl ?_ ?_
                    focus (intro w' hSw; have hs := HSI.out w' hSw; go_split_ands; go_simp; try (first | exact rfl | omega | go_num | (intro hbd; exfalso; omega)))
                    simp only [Act.put, List.setIfInBounds_toArray, List.set_cons_zero, List.set_cons_succ]
                    refine AnyT.ld 12 70 (.agg #[.bool x0, .slice X0 x1 x2, .bool y0, .slice Y0 y1 y2]) _ rfl rfl (by kernel_rfl) (fun _ _ _ h => h) HS0.out rfl ?_ ?_
                    focus (intro w' hSw; have hs := HSI.out w' hSw; go_split_ands; go_simp; try (first | exact rfl | omega | go_num | (intro hbd; exfalso; omega)))
                    simp only [Act.put, List.setIfInBounds_toArray, List.set_cons_zero, List.set_cons_succ]
                    refine AnyT.two 3 14 (by kernel_rfl) ?_ ?_
                    · skip
                      intro o ho K hK
                      simp only [List.getElem?_toArray, List.getElem?_cons_succ, List.getElem?_cons_zero, Option.some.injEq] at ho
                      subst ho
                      go_simp
                      refine (CS.out _ (HXs.out.trans (HXu.out.trans hyc))).mono ?_
                      rintro e wn ⟨vn, rfl, hvn, hx⟩
                      have hyc := hyc.trans hx
                      refine hK.out _ _ (fun _ => hyc) ?_
                      have HVa := Lib.hid hvn
                      clear hx hvn
                      refine AnyT.two 13 14 (by kernel_rfl) ?_ ?_
                      · skip
                        intro o ho K hK
                        simp only [List.getElem?_toArray, List.getElem?_cons_succ, List.getElem?_cons_zero, Option.some.injEq] at ho
                        subst ho
                        go_simp
                        refine (fadd_any _ _ _ _ _ HVa.out (HVR.out.ext (HXu.out.trans hyc)) FC.out FR.out (by omega)).mono ?_
                        rintro e wn ⟨vn, rfl, hvn, hx⟩
                        have hyc := hyc.trans hx
                        refine hK.out _ _ (fun _ => hyc) ?_
                        have HVa := Lib.hid (HVa.out.ext (hx))
                        have HVb := Lib.hid hvn
                        clear hx hvn
                        refine AnyT.step 14 (by kernel_rfl) ?_
                        intro o ho K hK
                        simp only [List.getElem?_toArray, List.getElem?_cons_succ, List.getElem?_cons_zero, Option.some.injEq] at ho
                        subst ho
                        go_simp
                        refine hK.out _ _ (fun _ => hyc.alloc _) ?_
                        have hgz := hyc.size
                        refine box1 (P := fun W => AnyT _ _ _ _ _ _ _ _ _ W) fun WZ HXZ BZ => ?_
                        have hyc := hyc.trans HXZ.out
                        have HVa := Lib.hid (HVa.out.ext (HXZ.out))
                        have HVb := Lib.hid (HVb.out.ext (HXZ.out))
                        clear HXZ
                        obtain ⟨e0, E0, e1, e2, f0, F0, f1, f2, rfl, _, _⟩ := HVb.out.parts
                        obtain ⟨k0, k1, k2, k3⟩ := BZ.out.four
                        obtain ⟨m0, m1, m2, m3⟩ := BZ.out.free4
                        obtain ⟨W', hW', HBN, _, HE, _⟩ := Box.put BZ.out HVb.out hyc hgz
                        have HW' := Lib.hid hW'
                        clear hW' hyc
                        refine AnyT.step 15 (by kernel_rfl) ?_
                        intro o ho K hK
                        simp only [List.getElem?_toArray, List.getElem?_cons_succ, List.getElem?_cons_zero, Option.some.injEq] at ho
                        subst ho
                        go_simp
                        refine hK.out _ _ (fun h => by cases h) ?_
                        refine AnyT.done (by kernel_rfl) ?_
                        rw [HW'.out]
                        clear k0 k1 k2 k3 m0 m1 m2 m3
                        go_wp2_with fail
                        go_meet
                        exact ⟨_, rfl, hgz, HBN, HE⟩
                      · skip
                        intro o ho K hK
                        simp only [List.getElem?_toArray, List.getElem?_cons_succ, List.getElem?_cons_zero, Option.some.injEq] at ho
                        subst ho
                        go_simp
                        refine hK.out _ _ (fun _ => hyc.alloc _) ?_
                        have hgz := hyc.size
                        refine box1 (P := fun W => AnyT _ _ _ _ _ _ _ _ _ W) fun WZ HXZ BZ => ?_
                        have hyc := hyc.trans HXZ.out
                        have HVa := Lib.hid (HVa.out.ext (HXZ.out))
                        clear HXZ
                        refine AnyT.step 13 (by kernel_rfl) ?_
                        intro o ho K hK
                        simp only [List.getElem?_toArray, List.getElem?_cons_succ, List.getElem?_cons_zero, Option.some.injEq] at ho
                        subst ho
                        go_simp
                        refine (fadd_any _ _ _ _ _ HVa.out (HVR.out.ext (HXu.out.trans hyc)) FC.out FR.out (by omega)).mono ?_
                        rintro e wn ⟨vn, rfl, hvn, hx⟩
                        have hyc := hyc.trans hx
                        refine hK.out _ _ (fun _ => hyc) ?_
                        have HVa := Lib.hid (HVa.out.ext (hx))
                        have BZ := Lib.hid (BZ.out.ext (hx))
                        have HVb := Lib.hid hvn
                        clear hx hvn
                        obtain ⟨e0, E0, e1, e2, f0, F0, f1, f2, rfl, _, _⟩ := HVb.out.parts
                        obtain ⟨k0, k1, k2, k3⟩ := BZ.out.four
                        obtain ⟨m0, m1, m2, m3⟩ := BZ.out.free4
                        obtain ⟨W', hW', HBN, _, HE, _⟩ := Box.put BZ.out HVb.out hyc hgz
                        have HW' := Lib.hid hW'
                        clear hW' hyc
                        refine AnyT.step 15 (by kernel_rfl) ?_
                        intro o ho K hK
                        simp only [List.getElem?_toArray, List.getElem?_cons_succ, List.getElem?_cons_zero, Option.some.injEq] at ho
                        subst ho
                        go_simp
                        refine hK.out _ _ (fun h => by cases h) ?_
                        refine AnyT.done (by kernel_rfl) ?_
                        rw [HW'.out]
                        clear k0 k1 k2 k3 m0 m1 m2 m3
                        go_wp2_with fail
                        go_meet
                        exact ⟨_, rfl, hgz, HBN, HE⟩
                    · skip
                      intro o ho K hK
                      simp only [List.getElem?_toArray, List.getElem?_cons_succ, List.getElem?_cons_zero, Option.some.injEq] at ho
                      subst ho
                      go_simp
                      refine hK.out _ _ (fun _ => hyc.alloc _) ?_
                      have hgz := hyc.size
                      refine box1 (P := fun W => AnyT _ _ _ _ _ _ _ _ _ W) fun WZ HXZ BZ => ?_
                      have hyc := hyc.trans HXZ.out
                      clear HXZ
                      refine AnyT.step 3 (by kernel_rfl) ?_
                      intro o ho K hK
                      simp only [List.getElem?_toArray, List.getElem?_cons_succ, List.getElem?_cons_zero, Option.some.injEq] at ho
                      subst ho
                      go_simp
                      refine (CS.out _ (HXs.out.trans (HXu.out.trans hyc))).mono ?_
                      rintro e wn ⟨vn, rfl, hvn, hx⟩
                      have hyc := hyc.trans hx
                      refine hK.out _ _ (fun _ => hyc) ?_
                      have BZ := Lib.hid (BZ.out.ext (hx))
                      have HVa := Lib.hid hvn
                      clear hx hvn
                      refine AnyT.step 13 (by kernel_rfl) ?_
                      intro o ho K hK
                      simp only [List.getElem?_toArray, List.getElem?_cons_succ, List.getElem?_cons_zero, Option.some.injEq] at ho
                      subst ho
                      go_simp
                      refine (fadd_any _ _ _ _ _ HVa.out (HVR.out.ext (HXu.out.trans hyc)) FC.out FR.out (by omega)).mono ?_
                      rintro e wn ⟨vn, rfl, hvn, hx⟩
                      have hyc := hyc.trans hx
                      refine hK.out _ _ (fun _ => hyc) ?_
                      have BZ := Lib.hid (BZ.out.ext (hx))
                      have HVa := Lib.hid (HVa.out.ext (hx))
                      have HVb := Lib.hid hvn
                      clear hx hvn
                      obtain ⟨e0, E0, e1, e2, f0, F0, f1, f2, rfl, _, _⟩ := HVb.out.parts
                      obtain ⟨k0, k1, k2, k3⟩ := BZ.out.four
                      obtain ⟨m0, m1, m2, m3⟩ := BZ.out.free4
                      obtain ⟨W', hW', HBN, _, HE, _⟩ := Box.put BZ.out HVb.out hyc hgz
                      have HW' := Lib.hid hW'
                      clear hW' hyc
                      refine AnyT.step 15 (by kernel_rfl) ?_
                      intro o ho K hK
                      simp only [List.getElem?_toArray, List.getElem?_cons_succ, List.getElem?_cons_zero, Option.some.injEq] at ho
                      subst ho
                      go_simp
                      refine hK.out _ _ (fun h => by cases h) ?_
                      refine AnyT.done (by kernel_rfl) ?_
                      rw [HW'.out]
                      clear k0 k1 k2 k3 m0 m1 m2 m3
                      go_wp2_with fail
                      go_meet
                      exact ⟨_, rfl, hgz, HBN, HE⟩
                  case rest =>
                    obtain ⟨gd, rfl, hgd, HBQ, HXC⟩ := hcut
                    have HBDc := Lib.hid (HBD.out.ext HXC.out)
                    have HCHc : Hid (Ch (DvR wc) xs (rowD l p i)) := HCH.out.mono fun c x hc => DvR.stab _ _ _ _ (fun _ _ => .of_below HXC.out) hc
                    have HDVc : Hid (i + 1 < j → DvR wc [.bool b, .slice B1 n1 d1, .bool b', .slice B2 n2 d2, .int .i64 z] (dvb l p' i (j - i - 2))) := fun h => DvR.stab _ _ _ _ (fun _ _ => .of_below HXC.out) (HDV.out h)
                    have HXc := Lib.hid (HXu.out.trans HXC.out)
                    clear HBD HCH HDV HXu HXC HVR HC5 CS
                    obtain ⟨u0, U0, u1, u2, v0, V0, v1, v2, BQ, VQ⟩ := HBQ.out.parts
                    clear HBQ
                    generalize cc + dr = r at *
                    have hwi : IntKind.i64.wrap ((i : Int) + 1) = (i : Int) + 1 := by rw [IntKind.wrap_i64]; omega
                    by_cases hji : j ≤ i + 1
                    · have HNB := Lib.hid (HN1.out hji)
                      go_upto_region 18 with fail
                      have HSI : Hid (∀ w', Ext wc w' → True) := fun _ _ => trivial
                      have HS0 : Hid (Ext wc wc.drew) := (Ext.refl wc).drew
                      refine AnyT.start (S := fun w' => Ext wc w') (T := fun _ => false) (by kernel_rfl) ?_
                      refine AnyT.ld 0 72 (.int .i64 j) _ rfl rfl (by kernel_rfl) (fun _ _ _ h => h) HS0.out rfl ?_ ?_
                      focus (intro w' hSw; have hs := HSI.out w' hSw; go_split_ands; go_simp; try (first | exact rfl | omega | go_num | (intro hbd; exfalso; omega)))
                      simp only [Act.put, List.setIfInBounds_toArray, List.set_cons_zero, List.set_cons_succ]
                      refine AnyT.ld 1 73 (.int .i64 i) _ rfl rfl (by kernel_rfl) (fun _ _ _ h => h) HS0.out rfl ?_ ?_
                      focus (intro w' hSw; have hs := HSI.out w' hSw; go_split_ands; go_simp; try (first | exact rfl | omega | go_num | (intro hbd; exfalso; omega)))
                      simp only [Act.put, List.setIfInBounds_toArray, List.set_cons_zero, List.set_cons_succ]
                      refine AnyT.ld 2 74 (.int .i64 ((i + 1 : Nat) : Int)) _ rfl rfl (by kernel_rfl) (fun _ _ _ h => h) HS0.out rfl ?_ ?_
                      focus (intro w' hSw; have hs := HSI.out w' hSw; go_split_ands; go_simp; try (first | exact rfl | omega | go_num | (intro hbd; exfalso; omega)))
                      simp only [Act.put, List.setIfInBounds_toArray, List.set_cons_zero, List.set_cons_succ]
                      refine AnyT.ld 3 75 (.bool true) _ rfl rfl (by kernel_rfl) (fun _ _ _ h => h) HS0.out rfl ?_ ?_
                      focus (intro w' hSw; have hs := HSI.out w' hSw; go_split_ands; go_simp; try (first | exact rfl | omega | go_num | (intro hbd; exfalso; omega)))
                      simp only [Act.put, List.setIfInBounds_toArray, List.set_cons_zero, List.set_cons_succ]
                      refine AnyT.ld 4 76 (.bool true) _ rfl rfl (by kernel_rfl) (fun _ _ _ h => h) HS0.out rfl ?_ ?_
                      focus (intro w' hSw; have hs := HSI.out w' hSw; go_split_ands; go_simp; try (first | exact rfl | omega | go_num | (intro hbd; exfalso; omega)))
                      simp only [Act.put, List.setIfInBounds_toArray, List.set_cons_zero, List.set_cons_succ]
                      refine AnyT.loadU 5 77 rfl (by kernel_rfl) (by kernel_rfl) (by kernel_rfl) (by kernel_rfl) (by kernel_rfl) (fun _ _ _ h => h) HS0.out ?_ ?_
                      · intro o ho
                        simp only [List.getElem?_toArray, List.getElem?_cons_succ, List.getElem?_cons_zero, Option.some.injEq] at ho
                        subst ho
                        exact ⟨rfl, rfl⟩
                      simp only [Act.put, List.setIfInBounds_toArray, List.set_cons_zero, List.set_cons_succ]
                      refine AnyT.loadU 6 78 rfl (by kernel_rfl) (by kernel_rfl) (by kernel_rfl) (by kernel_rfl) (by kernel_rfl) (fun _ _ _ h => h) HS0.out ?_ ?_
                      · intro o ho
                        simp only [List.getElem?_toArray, List.getElem?_cons_succ, List.getElem?_cons_zero, Option.some.injEq] at ho
                        subst ho
                        exact ⟨rfl, rfl⟩
                      simp only [Act.put, List.setIfInBounds_toArray, List.set_cons_zero, List.set_cons_succ]
                      refine AnyT.loadU 7 79 rfl (by kernel_rfl) (by kernel_rfl) (by kernel_rfl) (by kernel_rfl) (by kernel_rfl) (fun _ _ _ h => h) HS0.out ?_ ?_
                      · intro o ho
                        simp only [List.getElem?_toArray, List.getElem?_cons_succ, List.getElem?_cons_zero, Option.some.injEq] at ho
                        subst ho
                        exact ⟨rfl, rfl⟩
                      simp only [Act.put, List.setIfInBounds_toArray, List.set_cons_zero, List.set_cons_succ]
                      refine AnyT.loadU 8 80 rfl (by kernel_rfl) (by kernel_rfl) (by kernel_rfl) (by kernel_rfl) (by kernel_rfl) (fun _ _ _ h => h) HS0.out ?_ ?_
                      · intro o ho
                        simp only [List.getElem?_toArray, List.getElem?_cons_succ, List.getElem?_cons_zero, Option.some.injEq] at ho
                        subst ho
                        exact ⟨rfl, rfl⟩
                      simp only [Act.put, List.setIfInBounds_toArray, List.set_cons_zero, List.set_cons_succ]
                      refine AnyT.loadU 9 81 rfl (by kernel_rfl) (by kernel_rfl) (by kernel_rfl) (by kernel_rfl) (by kernel_rfl) (fun _ _ _ h => h) HS0.out ?_ ?_
                      · intro o ho
                        simp only [List.getElem?_toArray, List.getElem?_cons_succ, List.getElem?_cons_zero, Option.some.injEq] at ho
                        subst ho
                        exact ⟨rfl, rfl⟩
                      simp only [Act.put, List.setIfInBounds_toArray, List.set_cons_zero, List.set_cons_succ]
                      refine AnyT.loadU 10 82 rfl (by kernel_rfl) (by kernel_rfl) (by kernel_rfl) (by kernel_rfl) (by kernel_rfl) (fun _ _ _ h => h) HS0.out ?_ ?_
                      · intro o ho
                        simp only [List.getElem?_toArray, List.getElem?_cons_succ, List.getElem?_cons_zero, Option.some.injEq] at ho
                        subst ho
                        exact ⟨rfl, rfl⟩
                      simp only [Act.put, List.setIfInBounds_toArray, List.set_cons_zero, List.set_cons_succ]
                      refine AnyT.loadU 11 83 rfl (by kernel_rfl) (by kernel_rfl) (by kernel_rfl) (by kernel_rfl) (by kernel_rfl) (fun _ _ _ h => h) HS0.out ?_ ?_
                      · intro o ho
                        simp only [List.getElem?_toArray, List.getElem?_cons_succ, List.getElem?_cons_zero, Option.some.injEq] at ho
                        subst ho
                        exact ⟨rfl, rfl⟩
                      simp only [Act.put, List.setIfInBounds_toArray, List.set_cons_zero, List.set_cons_succ]
                      refine AnyT.loadU 12 84 rfl (by kernel_rfl) (by kernel_rfl) (by kernel_rfl) (by kernel_rfl) (by kernel_rfl) (fun _ _ _ h => h) HS0.out ?_ ?_
                      · intro o ho
                        simp only [List.getElem?_toArray, List.getElem?_cons_succ, List.getElem?_cons_zero, Option.some.injEq] at ho
                        subst ho
                        exact ⟨rfl, rfl⟩
                      simp only [Act.put, List.setIfInBounds_toArray, List.set_cons_zero, List.set_cons_succ]
                      refine AnyT.step 13 (by kernel_rfl) ?_
                      intro o ho K hK
                      simp only [List.getElem?_toArray, List.getElem?_cons_succ, List.getElem?_cons_zero, Option.some.injEq] at ho
                      subst ho
                      go_simp
                      refine hK.out _ _ (fun _ => HS0.out) ?_
                      refine AnyT.done (by kernel_rfl) ?_
                      have hyd := HS0.out
                      clear HSI HS0
                      generalize wc.drew = wd at *
                      have HBDc := Lib.hid (HBDc.out.ext hyd)
                      have HCHc : Hid (Ch (DvR wd) xs (rowD l p i)) := HCHc.out.mono fun c x hc => DvR.stab _ _ _ _ (fun _ _ => .of_below hyd) hc
                      have HXc := Lib.hid (HXc.out.trans hyd)
                      have BQ := Lib.hid (BQ.out.ext hyd)
                      have VQ := Lib.hid (VQ.out.ext hyd)
                      clear hyd
                      obtain ⟨k0, k1, k2, k3, k4⟩ := row5_cells HBDc.out HXL.out
                      have m0 := HBDc.out.frozen (i * 5)
                      have m1 := HBDc.out.frozen (i * 5 + 1)
                      have m2 := HBDc.out.frozen (i * 5 + 2)
                      have m3 := HBDc.out.frozen (i * 5 + 3)
                      have m4 := HBDc.out.frozen (i * 5 + 4)
                      obtain ⟨j0, j1, j2, j3⟩ := BQ.out.four
                      obtain ⟨W', hW', HB2, HK2, HO2⟩ := store5 HBDc.out HXL.out (.bool u0) (.slice U0 u1 u2) (.bool v0) (.slice V0 v1 v2) (.int .i64 j)
                      have HW := Lib.hid hW'
                      have HX2 := Lib.hid (HXc.out.only HO2.out (Nat.le_refl _))
                      have HCH2 : Hid (Ch (DvR W') xs (rowD l p i)) := HCHc.out.mono fun c x hc => DvR.stab _ _ _ _ (fun t ht => by simp only [List.mem_singleton] at ht; subst ht; exact HK2.out _ (by decide)) hc
                      have HDN : Hid (i + 1 < j + 1 → DvR W' [.bool u0, .slice U0 u1 u2, .bool v0, .slice V0 v1 v2, .int .i64 j] (dvb l p' i (j + 1 - i - 2))) := fun _ => by rw [HNB.out]; exact ⟨u0, U0, u1, u2, v0, V0, v1, v2, rfl, VQ.out.keep (HK2.out _ (by decide))⟩
                      clear hW' HK2 HO2
                      go_upto_region 16 with fail
                      rw [HW.out]
                      clear k0 k1 k2 k3 k4 m0 m1 m2 m3 m4 j0 j1 j2 j3 HW
                      go_wp2_with fail
                      go_roundw
                      case rel => exact ⟨j + 1, u0, U0, u1, u2, v0, V0, v1, v2, j, by omega, by omega, by go_num, HB2, HCH2, HDN, HX2⟩
                      case measure => simp [RowKit.intOf]; omega
                    · have hji : i + 1 < j := by omega
                      have HNX := Lib.hid (HN2.out hji)
                      have HDX := Lib.hid (HDVc.out hji)
                      have FBX := Lib.hid (FB.out hji)
                      have HVX := Lib.hid (DvR.open HDX.out)
                      generalize dvb l p' i (j - i - 2) = bx at *
                      have CMP := Lib.hid (fun w' hx => fcompare_any _ _ r bx.1 w' (VQ.out.ext hx) (HVX.out.ext hx) FS.out FBX.out (by omega))
                      have HCZ : Hid (cmpQ r bx.1 < 0 ↔ r < bx.1) := cmpQ_lt
                      generalize cmpQ r bx.1 = cz at *
                      by_cases hlt : cz < 0
                      · have HNB : Hid (dvb l p' i (j + 1 - i - 2) = (r, j)) := by rw [Hid, HNX.out, if_pos (HCZ.out.1 hlt)]
                        go_upto_region 18 with fail
                        have HSI : Hid (∀ w', Ext wc w' → (w'.cell? ⟨gd, 0, none⟩ = some (.bool u0) ∧ w'.cell? ⟨gd, 0 + 1, none⟩ = some (.slice U0 u1 u2) ∧ w'.cell? ⟨gd, 0 + 2, none⟩ = some (.bool v0) ∧ w'.cell? ⟨gd, 0 + 3, none⟩ = some (.slice V0 v1 v2)) ∧ (w'.cell? ⟨ws.heap.size, i * 5, none⟩ = some (.bool b) ∧ w'.cell? ⟨ws.heap.size, i * 5 + 1, none⟩ = some (.slice B1 n1 d1) ∧ w'.cell? ⟨ws.heap.size, i * 5 + 2, none⟩ = some (.bool b') ∧ w'.cell? ⟨ws.heap.size, i * 5 + 3, none⟩ = some (.slice B2 n2 d2))) := fun w' hx => ⟨(BQ.out.ext hx).four, (row5_cells (HBDc.out.ext hx) HXL.out).1, (row5_cells (HBDc.out.ext hx) HXL.out).2.1, (row5_cells (HBDc.out.ext hx) HXL.out).2.2.1, (row5_cells (HBDc.out.ext hx) HXL.out).2.2.2.1⟩
                        have HS0 : Hid (Ext wc wc.drew) := (Ext.refl wc).drew
                        refine AnyT.start (S := fun w' => Ext wc w') (T := fun _ => false) (by kernel_rfl) ?_
                        refine AnyT.ld 0 72 (.int .i64 j) _ rfl rfl (by kernel_rfl) (fun _ _ _ h => h) HS0.out rfl ?_ ?_
                        focus (intro w' hSw; have hs := HSI.out w' hSw; go_split_ands; go_simp; try (first | exact rfl | omega | go_num | (intro hbd; exfalso; omega)))
                        simp only [Act.put, List.setIfInBounds_toArray, List.set_cons_zero, List.set_cons_succ]
                        refine AnyT.ld 1 73 (.int .i64 i) _ rfl rfl (by kernel_rfl) (fun _ _ _ h => h) HS0.out rfl ?_ ?_
                        focus (intro w' hSw; have hs := HSI.out w' hSw; go_split_ands; go_simp; try (first | exact rfl | omega | go_num | (intro hbd; exfalso; omega)))
                        simp only [Act.put, List.setIfInBounds_toArray, List.set_cons_zero, List.set_cons_succ]
                        refine AnyT.ld 2 74 (.int .i64 ((i + 1 : Nat) : Int)) _ rfl rfl (by kernel_rfl) (fun _ _ _ h => h) HS0.out rfl ?_ ?_
                        focus (intro w' hSw; have hs := HSI.out w' hSw; go_split_ands; go_simp; try (first | exact rfl | omega | go_num | (intro hbd; exfalso; omega)))
                        simp only [Act.put, List.setIfInBounds_toArray, List.set_cons_zero, List.set_cons_succ]
                        refine AnyT.ld 3 75 (.bool false) _ rfl rfl (by kernel_rfl) (fun _ _ _ h => h) HS0.out rfl ?_ ?_
                        focus (intro w' hSw; have hs := HSI.out w' hSw; go_split_ands; go_simp; try (first | exact rfl | omega | go_num | (intro hbd; exfalso; omega)))
                        simp only [Act.put, List.setIfInBounds_toArray, List.set_cons_zero, List.set_cons_succ]
                        refine AnyT.ld 4 76 (.bool false) _ rfl rfl (by kernel_rfl) (fun _ _ _ h => h) HS0.out rfl ?_ ?_
                        focus (intro w' hSw; have hs := HSI.out w' hSw; go_split_ands; go_simp; try (first | exact rfl | omega | go_num | (intro hbd; exfalso; omega)))
                        simp only [Act.put, List.setIfInBounds_toArray, List.set_cons_zero, List.set_cons_succ]
                        refine AnyT.ld 5 77 (.agg #[.bool u0, .slice U0 u1 u2, .bool v0, .slice V0 v1 v2]) _ rfl rfl (by kernel_rfl) (fun _ _ _ h => h) HS0.out rfl ?_ ?_
                        focus (intro w' hSw; have hs := HSI.out w' hSw; go_split_ands; go_simp; try (first | exact rfl | omega | go_num | (intro hbd; exfalso; omega)))
                        simp only [Act.put, List.setIfInBounds_toArray, List.set_cons_zero, List.set_cons_succ]
                        refine AnyT.ld 6 78 (.slice (some ⟨ws.heap.size, 0, none⟩) q q) _ rfl rfl (by kernel_rfl) (fun _ _ _ h => h) HS0.out rfl ?_ ?_
                        focus (intro w' hSw; have hs := HSI.out w' hSw; go_split_ands; go_simp; try (first | exact rfl | omega | go_num | (intro hbd; exfalso; omega)))
                        simp only [Act.put, List.setIfInBounds_toArray, List.set_cons_zero, List.set_cons_succ]
                        refine AnyT.ld 7 79 (.int .i64 i) _ rfl rfl (by kernel_rfl) (fun _ _ _ h => h) HS0.out rfl ?_ ?_
                        focus (intro w' hSw; have hs := HSI.out w' hSw; go_split_ands; go_simp; try (first | exact rfl | omega | go_num | (intro hbd; exfalso; omega)))
                        simp only [Act.put, List.setIfInBounds_toArray, List.set_cons_zero, List.set_cons_succ]
                        refine AnyT.ld 8 80 (.pointer (some ⟨ws.heap.size, i * 5, none⟩)) _ rfl rfl (by kernel_rfl) (fun _ _ _ h => h) HS0.out rfl ?_ ?_
                        focus (intro w' hSw; have hs := HSI.out w' hSw; go_split_ands; go_simp; try (first | exact rfl | omega | go_num | (intro hbd; exfalso; omega)))
                        simp only [Act.put, List.setIfInBounds_toArray, List.set_cons_zero, List.set_cons_succ]
                        refine AnyT.ld 9 81 (.pointer (some ⟨ws.heap.size, i * 5, none⟩)) _ rfl rfl (by kernel_rfl) (fun _ _ _ h => h) HS0.out rfl ?_ ?_
                        focus (intro w' hSw; have hs := HSI.out w' hSw; go_split_ands; go_simp; try (first | exact rfl | omega | go_num | (intro hbd; exfalso; omega)))
                        simp only [Act.put, List.setIfInBounds_toArray, List.set_cons_zero, List.set_cons_succ]
                        refine AnyT.ld 10 82 (.agg #[.bool b, .slice B1 n1 d1, .bool b', .slice B2 n2 d2]) _ rfl rfl (by kernel_rfl) (fun _ _ _ h => h) HS0.out rfl ?_ ?_
                        focus (intro w' hSw; have hs := HSI.out w' hSw; go_split_ands; go_simp; try (first | exact rfl | omega | go_num | (intro hbd; exfalso; omega)))
                        simp only [Act.put, List.setIfInBounds_toArray, List.set_cons_zero, List.set_cons_succ]
                        refine AnyT.step 11 (by kernel_rfl) ?_
                        intro o ho K hK
                        simp only [List.getElem?_toArray, List.getElem?_cons_succ, List.getElem?_cons_zero, Option.some.injEq] at ho
                        subst ho
                        go_simp
                        refine (CMP.out _ HS0.out).mono ?_
                        rintro e w1 ⟨rfl, hx1⟩
                        have hy1 := HS0.out.trans hx1
                        refine hK.out _ _ (fun _ => hy1) ?_
                        clear HS0 hx1
                        have HS0 := Lib.hid hy1
                        clear hy1
                        refine AnyT.ld 12 84 (.bool true) _ rfl rfl (by kernel_rfl) (fun _ _ _ h => h) HS0.out rfl ?_ ?_
                        focus (intro w' hSw; have hs := HSI.out w' hSw; go_split_ands; go_simp; try (first | exact rfl | omega | go_num | (intro hbd; exfalso; omega)))
                        simp only [Act.put, List.setIfInBounds_toArray, List.set_cons_zero, List.set_cons_succ]
                        refine AnyT.step 13 (by kernel_rfl) ?_
                        intro o ho K hK
                        simp only [List.getElem?_toArray, List.getElem?_cons_succ, List.getElem?_cons_zero, Option.some.injEq] at ho
                        subst ho
                        go_simp
                        refine hK.out _ _ (fun _ => HS0.out) ?_
                        refine AnyT.done (by kernel_rfl) ?_
                        have hyd := HS0.out
                        clear HSI HS0
                        generalize w1 = wd at *
                        have HBDc := Lib.hid (HBDc.out.ext hyd)
                        have HCHc : Hid (Ch (DvR wd) xs (rowD l p i)) := HCHc.out.mono fun c x hc => DvR.stab _ _ _ _ (fun _ _ => .of_below hyd) hc
                        have HXc := Lib.hid (HXc.out.trans hyd)
                        have BQ := Lib.hid (BQ.out.ext hyd)
                        have VQ := Lib.hid (VQ.out.ext hyd)
                        clear hyd
                        obtain ⟨k0, k1, k2, k3, k4⟩ := row5_cells HBDc.out HXL.out
                        have m0 := HBDc.out.frozen (i * 5)
                        have m1 := HBDc.out.frozen (i * 5 + 1)
                        have m2 := HBDc.out.frozen (i * 5 + 2)
                        have m3 := HBDc.out.frozen (i * 5 + 3)
                        have m4 := HBDc.out.frozen (i * 5 + 4)
                        obtain ⟨j0, j1, j2, j3⟩ := BQ.out.four
                        obtain ⟨W', hW', HB2, HK2, HO2⟩ := store5 HBDc.out HXL.out (.bool u0) (.slice U0 u1 u2) (.bool v0) (.slice V0 v1 v2) (.int .i64 j)
                        have HW := Lib.hid hW'
                        have HX2 := Lib.hid (HXc.out.only HO2.out (Nat.le_refl _))
                        have HCH2 : Hid (Ch (DvR W') xs (rowD l p i)) := HCHc.out.mono fun c x hc => DvR.stab _ _ _ _ (fun t ht => by simp only [List.mem_singleton] at ht; subst ht; exact HK2.out _ (by decide)) hc
                        have HDN : Hid (i + 1 < j + 1 → DvR W' [.bool u0, .slice U0 u1 u2, .bool v0, .slice V0 v1 v2, .int .i64 j] (dvb l p' i (j + 1 - i - 2))) := fun _ => by rw [HNB.out]; exact ⟨u0, U0, u1, u2, v0, V0, v1, v2, rfl, VQ.out.keep (HK2.out _ (by decide))⟩
                        clear hW' HK2 HO2
                        go_upto_region 16 with fail
                        rw [HW.out]
                        clear k0 k1 k2 k3 k4 m0 m1 m2 m3 m4 j0 j1 j2 j3 HW
                        go_wp2_with fail
                        go_roundw
                        case rel => exact ⟨j + 1, u0, U0, u1, u2, v0, V0, v1, v2, j, by omega, by omega, by go_num, HB2, HCH2, HDN, HX2⟩
                        case measure => simp [RowKit.intOf]; omega
                      · have HNB : Hid (dvb l p' i (j + 1 - i - 2) = bx) := by rw [Hid, HNX.out, if_neg (fun h => hlt (HCZ.out.2 h))]
                        go_upto_region 18 with fail
                        have HSI : Hid (∀ w', Ext wc w' → (w'.cell? ⟨gd, 0, none⟩ = some (.bool u0) ∧ w'.cell? ⟨gd, 0 + 1, none⟩ = some (.slice U0 u1 u2) ∧ w'.cell? ⟨gd, 0 + 2, none⟩ = some (.bool v0) ∧ w'.cell? ⟨gd, 0 + 3, none⟩ = some (.slice V0 v1 v2)) ∧ (w'.cell? ⟨ws.heap.size, i * 5, none⟩ = some (.bool b) ∧ w'.cell? ⟨ws.heap.size, i * 5 + 1, none⟩ = some (.slice B1 n1 d1) ∧ w'.cell? ⟨ws.heap.size, i * 5 + 2, none⟩ = some (.bool b') ∧ w'.cell? ⟨ws.heap.size, i * 5 + 3, none⟩ = some (.slice B2 n2 d2))) := fun w' hx => ⟨(BQ.out.ext hx).four, (row5_cells (HBDc.out.ext hx) HXL.out).1, (row5_cells (HBDc.out.ext hx) HXL.out).2.1, (row5_cells (HBDc.out.ext hx) HXL.out).2.2.1, (row5_cells (HBDc.out.ext hx) HXL.out).2.2.2.1⟩
                        have HS0 : Hid (Ext wc wc.drew) := (Ext.refl wc).drew
                        refine AnyT.start (S := fun w' => Ext wc w') (T := fun _ => false) (by kernel_rfl) ?_
                        refine AnyT.ld 0 72 (.int .i64 j) _ rfl rfl (by kernel_rfl) (fun _ _ _ h => h) HS0.out rfl ?_ ?_
                        focus (intro w' hSw; have hs := HSI.out w' hSw; go_split_ands; go_simp; try (first | exact rfl | omega | go_num | (intro hbd; exfalso; omega)))
                        simp only [Act.put, List.setIfInBounds_toArray, List.set_cons_zero, List.set_cons_succ]
                        refine AnyT.ld 1 73 (.int .i64 i) _ rfl rfl (by kernel_rfl) (fun _ _ _ h => h) HS0.out rfl ?_ ?_
                        focus (intro w' hSw; have hs := HSI.out w' hSw; go_split_ands; go_simp; try (first | exact rfl | omega | go_num | (intro hbd; exfalso; omega)))
                        simp only [Act.put, List.setIfInBounds_toArray, List.set_cons_zero, List.set_cons_succ]
                        refine AnyT.ld 2 74 (.int .i64 ((i + 1 : Nat) : Int)) _ rfl rfl (by kernel_rfl) (fun _ _ _ h => h) HS0.out rfl ?_ ?_
                        focus (intro w' hSw; have hs := HSI.out w' hSw; go_split_ands; go_simp; try (first | exact rfl | omega | go_num | (intro hbd; exfalso; omega)))
                        simp only [Act.put, List.setIfInBounds_toArray, List.set_cons_zero, List.set_cons_succ]
                        refine AnyT.ld 3 75 (.bool false) _ rfl rfl (by kernel_rfl) (fun _ _ _ h => h) HS0.out rfl ?_ ?_
                        focus (intro w' hSw; have hs := HSI.out w' hSw; go_split_ands; go_simp; try (first | exact rfl | omega | go_num | (intro hbd; exfalso; omega)))
                        simp only [Act.put, List.setIfInBounds_toArray, List.set_cons_zero, List.set_cons_succ]
                        refine AnyT.ld 4 76 (.bool false) _ rfl rfl (by kernel_rfl) (fun _ _ _ h => h) HS0.out rfl ?_ ?_
                        focus (intro w' hSw; have hs := HSI.out w' hSw; go_split_ands; go_simp; try (first | exact rfl | omega | go_num | (intro hbd; exfalso; omega)))
                        simp only [Act.put, List.setIfInBounds_toArray, List.set_cons_zero, List.set_cons_succ]
                        refine AnyT.ld 5 77 (.agg #[.bool u0, .slice U0 u1 u2, .bool v0, .slice V0 v1 v2]) _ rfl rfl (by kernel_rfl) (fun _ _ _ h => h) HS0.out rfl ?_ ?_
                        focus (intro w' hSw; have hs := HSI.out w' hSw; go_split_ands; go_simp; try (first | exact rfl | omega | go_num | (intro hbd; exfalso; omega)))
                        simp only [Act.put, List.setIfInBounds_toArray, List.set_cons_zero, List.set_cons_succ]
                        refine AnyT.ld 6 78 (.slice (some ⟨ws.heap.size, 0, none⟩) q q) _ rfl rfl (by kernel_rfl) (fun _ _ _ h => h) HS0.out rfl ?_ ?_
                        focus (intro w' hSw; have hs := HSI.out w' hSw; go_split_ands; go_simp; try (first | exact rfl | omega | go_num | (intro hbd; exfalso; omega)))
                        simp only [Act.put, List.setIfInBounds_toArray, List.set_cons_zero, List.set_cons_succ]
                        refine AnyT.ld 7 79 (.int .i64 i) _ rfl rfl (by kernel_rfl) (fun _ _ _ h => h) HS0.out rfl ?_ ?_
                        focus (intro w' hSw; have hs := HSI.out w' hSw; go_split_ands; go_simp; try (first | exact rfl | omega | go_num | (intro hbd; exfalso; omega)))
                        simp only [Act.put, List.setIfInBounds_toArray, List.set_cons_zero, List.set_cons_succ]
                        refine AnyT.ld 8 80 (.pointer (some ⟨ws.heap.size, i * 5, none⟩)) _ rfl rfl (by kernel_rfl) (fun _ _ _ h => h) HS0.out rfl ?_ ?_
                        focus (intro w' hSw; have hs := HSI.out w' hSw; go_split_ands; go_simp; try (first | exact rfl | omega | go_num | (intro hbd; exfalso; omega)))
                        simp only [Act.put, List.setIfInBounds_toArray, List.set_cons_zero, List.set_cons_succ]
                        refine AnyT.ld 9 81 (.pointer (some ⟨ws.heap.size, i * 5, none⟩)) _ rfl rfl (by kernel_rfl) (fun _ _ _ h => h) HS0.out rfl ?_ ?_
                        focus (intro w' hSw; have hs := HSI.out w' hSw; go_split_ands; go_simp; try (first | exact rfl | omega | go_num | (intro hbd; exfalso; omega)))
                        simp only [Act.put, List.setIfInBounds_toArray, List.set_cons_zero, List.set_cons_succ]
                        refine AnyT.ld 10 82 (.agg #[.bool b, .slice B1 n1 d1, .bool b', .slice B2 n2 d2]) _ rfl rfl (by kernel_rfl) (fun _ _ _ h => h) HS0.out rfl ?_ ?_
                        focus (intro w' hSw; have hs := HSI.out w' hSw; go_split_ands; go_simp; try (first | exact rfl | omega | go_num | (intro hbd; exfalso; omega)))
                        simp only [Act.put, List.setIfInBounds_toArray, List.set_cons_zero, List.set_cons_succ]
                        refine AnyT.step 11 (by kernel_rfl) ?_
                        intro o ho K hK
                        simp only [List.getElem?_toArray, List.getElem?_cons_succ, List.getElem?_cons_zero, Option.some.injEq] at ho
                        subst ho
                        go_simp
                        refine (CMP.out _ HS0.out).mono ?_
                        rintro e w1 ⟨rfl, hx1⟩
                        have hy1 := HS0.out.trans hx1
                        refine hK.out _ _ (fun _ => hy1) ?_
                        clear HS0 hx1
                        have HS0 := Lib.hid hy1
                        clear hy1
                        refine AnyT.ld 12 84 (.bool false) _ rfl rfl (by kernel_rfl) (fun _ _ _ h => h) HS0.out rfl ?_ ?_
                        focus (intro w' hSw; have hs := HSI.out w' hSw; go_split_ands; go_simp; try (first | exact rfl | omega | go_num | (intro hbd; exfalso; omega)))
                        simp only [Act.put, List.setIfInBounds_toArray, List.set_cons_zero, List.set_cons_succ]
                        refine AnyT.step 13 (by kernel_rfl) ?_
                        intro o ho K hK
                        simp only [List.getElem?_toArray, List.getElem?_cons_succ, List.getElem?_cons_zero, Option.some.injEq] at ho
                        subst ho
                        go_simp
                        refine hK.out _ _ (fun _ => HS0.out) ?_
                        refine AnyT.done (by kernel_rfl) ?_
                        have hyd := HS0.out
                        clear HSI HS0
                        generalize w1 = wd at *
                        have HDVd : Hid (DvR wd [.bool b, .slice B1 n1 d1, .bool b', .slice B2 n2 d2, .int .i64 z] bx) := DvR.stab _ _ _ _ (fun _ _ => .of_below hyd) (HDVc.out hji)
                        have HBDc := Lib.hid (HBDc.out.ext hyd)
                        have HCHc : Hid (Ch (DvR wd) xs (rowD l p i)) := HCHc.out.mono fun c x hc => DvR.stab _ _ _ _ (fun _ _ => .of_below hyd) hc
                        have HXc := Lib.hid (HXc.out.trans hyd)
                        have BQ := Lib.hid (BQ.out.ext hyd)
                        have VQ := Lib.hid (VQ.out.ext hyd)
                        clear hyd
                        have HDN : Hid (i + 1 < j + 1 → DvR wd [.bool b, .slice B1 n1 d1, .bool b', .slice B2 n2 d2, .int .i64 z] (dvb l p' i (j + 1 - i - 2))) := fun _ => by rw [HNB.out]; exact HDVd.out
                        go_wp2_with fail
                        go_roundw
                        case rel => exact ⟨j + 1, b, B1, n1, d1, b', B2, n2, d2, z, by omega, by omega, by go_num, HBDc, HCHc, HDN, HXc⟩
                        case measure => simp [RowKit.intOf]; omega
                · obtain rfl : j = q + 1 := by omega
                  have HD5 : Hid (DvR wr [.bool b, .slice B1 n1 d1, .bool b', .slice B2 n2 d2, .int .i64 z] (dvr l p i)) := by
                    have h := HDV.out (by omega)
                    have h1 := HN.out
                    have h2 := HQ.out
                    have h3 := HPP.out
                    rw [show q + 1 - i - 2 = l.length - i - (p' + 1) - 1 by omega, dvb_all (by omega), ← h3] at h
                    exact h
                  have HCN : Hid (Ch (DvR wr) (xs ++ [.bool b, .slice B1 n1 d1, .bool b', .slice B2 n2 d2, .int .i64 z]) (rowD l p (i + 1))) := by rw [Hid, rowD_next]; exact Ch.snoc HD5.out HCH.out
                  have HBN : Hid (Blk wr ws.heap.size tDivi ((xs ++ [.bool b, .slice B1 n1 d1, .bool b', .slice B2 n2 d2, .int .i64 z]) ++ zdivs (q - (i + 1)))) := by rw [List.append_assoc]; exact HBD
                  clear HD5 HDV
                  go_wp2_with fail
                  go_roundw
                  case rel => exact ⟨i + 1, _, by omega, by go_num, HBN, HCN, HXu⟩
                  case measure => simp [RowKit.intOf]; omega
            · obtain rfl : q = i := by omega
              have hq := HQ.out
              have HBR : Hid (Blk wr ws.heap.size tDivi xs) := by simpa [zdivs] using HBD
              have HRW := Lib.hid (row_blk HBR.out HCH.out (rowD_length _ _ _) (by omega))
              have HTN : Hid (tabD l (p + 1) = tabD l p ++ [rowD l p q]) := by rw [Hid, tabD_next, HN.out, show n - p = q by omega]
              have hq8 : q ≤ 8 := by omega
              have HBLn := Lib.hid (HBL.out.ext HXt.out)
              have hbw : W0.heap.size + 1 ≤ wr.heap.size := Nat.le_trans hgb HXt.out.size
              have hbt := b24 hpk hk
              clear hq
              clear HBD HBR HCH BN0 CN0
              have ROd := Lib.hid (own_extR RO.out HXt.out)
              go_wp2_with (at_builtin; refine wpList_app1 rfl _ _ 71 rfl (W0.heap.size + 1) divis_slice _ _ _ rfl ROd.out #[.slice (some ⟨ws.heap.size, 0, none⟩) q q] 1 1 rfl rfl rfl hbt hbw ?_)
              intro v' w6 ho6 hg6 _
              obtain ⟨A6, c6, rfl, _, _, _⟩ := own_parts ho6
              have O6 : Hid (TB (W0.heap.size + 1) w6 (.slice A6 (p + 1) c6) l (p + 1)) := by
                rw [Hid, TB, HTN.out]
                exact OwnL.snoc (R := OneR tDivi DvR) (w := wr) (x := rowD l p q) DDR.stab (by decide) (by rw [tabD_length]; exact ROd.out) (CO.out.mono fun c x hc => DDR.stab _ _ _ _ (fun _ _ => .of_below HXt.out) hc) HRW.out (by rw [tabD_length]; exact ho6) hg6
              have HXg : Hid (Ext w w6) := Lib.hid (grown_below (HXs.out.trans HXt.out) ROd.out hg6 (by omega))
              have HBLg := Lib.hid (blkG HBLn.out ROd.out hg6 (by omega))
              have hw6 : W0.heap.size + 1 ≤ w6.heap.size := Nat.le_trans hbw hg6.size
              clear ho6 hg6 ROd hbt
              go_wp2_with fail
              go_roundw
              case rel => exact ⟨p + 1, by omega, by omega, by omega, by go_num, hw6, O6, HBLg, HXg⟩
              case measure => simp [RowKit.intOf]; omega
        · have hm : ¬ (p < min k n) := by omega
          have e : min k n = p := by omega
          go_wp2_with fail
          go_ret
          exact ⟨_, rfl, by rw [e]; exact OwnL.ls HTB.out, HXs.out⟩
end Go.Proofs.YtkhmfgkbobblmaaGreatDoor
