/- machine.coordinates.terms, walked. -/
import Derived.Test.YtemnoemjmeflbaaGreatDoorTerms
namespace Go.Proofs.YtemnoemjmeflbaaGreatDoor
open Go.RowKit Go.Lib

/-- one more product behind a row, its powers in a box -/
theorem term_cells {w : World} {g : Nat} {p : List Int} {rest : List Value} (h : Blk w g tTerm (tcells p rest)) {i : Nat} (hi : i < p.length) : w.cell? ⟨g, i, none⟩ = some (.int .i64 p[i]) := h.cell (tcells_get hi)
theorem e1_get {i j : Nat} (hij : i < j) (hj : j < 3) : (e1 i)[j]'(by rw [e1_length]; exact hj) = 0 := by
  unfold e1
  rw [List.getElem_set_ne (by omega)]
  rcases j with _ | _ | _ | j
  · rfl
  · rfl
  · rfl
  · omega
theorem z_get {i : Nat} (hi : i < 3) : ([0, 0, 0] : List Int)[i] = 0 := by
  rcases i with _ | _ | _ | i
  · rfl
  · rfl
  · rfl
  · omega
theorem row_length (lin : List Rat) (fac : List (List Rat)) (i j : Nat) : (row lin fac i j).length = 1 + (j - (i + 1)) := by simp [row, Nat.add_comm]
set_option maxRecDepth 100000 in
set_option maxHeartbeats 8000000 in
theorem terms_any (v : Value) (n r : Nat) (c : Rat) (lin : List Rat) (fac : List (List Rat)) (w : World) (h : CV w v n c lin fac) (hm : MOk n r c lin fac) :
    Calls Tryz.prog 58 #[v] w fun e w' => ∃ A' k c', e = .returned (.slice A' k c') ∧ TL w' (.slice A' k c') ((termsF c lin fac n).filter fun t => decide (t.2 ≠ 0)) ∧ Ext w w' := by
  obtain ⟨a0, A0, a1, a2, b0, B0, b1, b2, Al, cl, Ax, cx, rfl, h1, h2, h3⟩ := h
  have HM := Lib.hid hm
  have HC := Lib.hid h1
  have HL := Lib.hid h2
  have HX := Lib.hid h3
  obtain ⟨-, -, hcl⟩ := cap_le h2
  obtain ⟨-, -, hcx⟩ := cap_le h3
  have hn3 := hm.n3
  have hr2 := hm.r2
  have HTF := Lib.hid (terms_fit hm)
  have HTN := Lib.hid (terms_length (c := c) (fac := fac) hm.ll hm.n3)
  clear h1 h2 h3 hm
  go_enter Tryz.func58, Tryz.ntmps58
  go_upto_region 1 with fail
  refine box1 (P := fun W => Code.wp _ _ _ _ W) fun W HX0 BM => ?_
  obtain ⟨k0, k1, k2, k3, k4, k5⟩ := BM.out.six
  go_upto_region 2 with fail
  refine lit_own (P := fun W => Code.wp _ _ _ _ W) [.int .i64 0, .int .i64 0, .int .i64 0, .bool a0, .slice A0 a1 a2, .bool b0, .slice B0 b1 b2] (k := 7) rfl fun W1 HX1 R1 => ?_
  have HO1 : Hid (OwnL tTerm 7 TmR W.heap.size W1 (.slice (some ⟨W.heap.size, 0, none⟩) 1 1) (termsF c lin fac 0)) := ⟨_, R1.out, ⟨_, [], rfl, ⟨0, 0, 0, a0, A0, a1, a2, b0, B0, b1, b2, rfl, rfl, (HC.out.ext HX0.out).ext HX1.out⟩, rfl⟩⟩
  have BM1 := Lib.hid (BM.out.ext HX1.out)
  have hgw : w.heap.size < W.heap.size := BM.out.lt
  clear k0 k1 k2 k3 k4 k5 R1
  obtain ⟨k0, k1, k2, k3, k4, k5⟩ := BM1.out.six
  go_wp2_with fail
  clear k0 k1 k2 k3 k4 k5 BM1
  go_loopw [3, 4, 5, 6, 7, 8, 9, 10, 18] (fun v3 _ _ _ _ _ _ _ v18 wr => ∃ i : Nat, i ≤ n ∧ v18 = .int .i64 i ∧ Hid (OwnL tTerm 7 TmR W.heap.size wr v3 (termsF c lin fac i)) ∧ Hid (Ext W wr)) (fun _ _ _ _ _ _ _ _ v18 _ => n - (RowKit.intOf v18).toNat)
  case atStart => exact ⟨0, Nat.zero_le _, rfl, HO1, HX1⟩
  case round =>
    obtain ⟨i, hi, rfl, HO, HXr⟩ := hrel
    obtain ⟨Ao, co, xs, rfl, _, _, HR, HCh⟩ := HO.out.parts
    by_cases hin : i < n
    · have hil : i < lin.length := by rw [HM.out.ll]; exact hin
      have hi3 : i < 3 := by omega
      have HNT := Lib.hid (termsF_next c lin fac i)
      have HRF := Lib.hid (row_first lin fac i)
      rw [getD_at hil] at HRF
      have HRN := Lib.hid (fun j (h : i + 1 ≤ j) => row_next lin fac h)
      have HTL := Lib.hid (HTN.out i hi)
      obtain ⟨g1, o1, x0, X0, x1, x2, y0, Y0, y1, y2, rfl, _, V1, p0, p1, p2, p3⟩ := FL.get (FL.ext HL.out (HX0.out.trans HXr.out)) hil
      rw [HM.out.ll] at HNT
      generalize lin[i] = li at *
      generalize htf : termsF c lin fac i = Ti at *
      clear htf
      generalize wr = wo at *
      go_upto_region 5 with fail
      refine newbox (P := fun W => Code.wp _ _ _ _ W) V1.out fun W2 HX2 BV hsz2 => ?_
      obtain ⟨x0, X0, x1, x2, y0, Y0, y1, y2, BV2, VV2⟩ := BV.out.parts
      obtain ⟨k0, k1, k2, k3⟩ := BV2.out.four
      clear p0 p1 p2 p3 hsz2
      go_upto_region 6 with fail
      refine box1 (P := fun W => Code.wp _ _ _ _ W) fun W3 HX3 BT => ?_
      have BT0 : Hid (Blk W3 W2.heap.size tTerm (tcells [0, 0, 0] [.bool x0, .slice X0 x1 x2, .bool y0, .slice Y0 y1 y2])) := BT
      have hc1 := term_cells BT0.out (i := i) (by simpa using hi3)
      rw [z_get hi3] at hc1
      have hf1 := BT0.out.frozen i
      have hy3 := HX2.out.trans HX3.out
      have hs2 : W.heap.size ≤ W2.heap.size := Nat.le_trans HXr.out.size HX2.out.size
      obtain ⟨W4, hW4, B4, K4, X4, N4⟩ := storeG (i := i) BT0.out hy3 HX2.out.size (.int .i64 1)
      rw [tcells_set (by simpa using hi3)] at B4
      have HW := Lib.hid hW4
      have VV4 := Lib.hid ((VV2.out.ext HX3.out).keep (K4.out _ (by decide)))
      clear k0 k1 k2 k3 hW4 BT BV BV2 VV2
      go_upto_region 7 with fail
      rw [HW.out]
      clear hc1 hf1
      obtain ⟨p0, p1, p2, hp⟩ := three (e1_length i)
      have HE1 := Lib.hid hp
      rw [show ([0, 0, 0] : List Int).set i 1 = e1 i from rfl, hp] at B4
      have B4' : Hid (Blk W4 W2.heap.size tTerm [.int .i64 p0, .int .i64 p1, .int .i64 p2, .bool x0, .slice X0 x1 x2, .bool y0, .slice Y0 y1 y2]) := B4
      have k0 := B4'.out.cell (i := 0) rfl
      have k1 := B4'.out.cell (i := 1) rfl
      have k2 := B4'.out.cell (i := 2) rfl
      have k3 := B4'.out.cell (i := 3) rfl
      have k4 := B4'.out.cell (i := 4) rfl
      have k5 := B4'.out.cell (i := 5) rfl
      have k6 := B4'.out.cell (i := 6) rfl
      have HR4 := Lib.hid (own_extR HR.out X4.out)
      have HC4 : Hid (Ch (TmR W4) xs Ti) := HCh.out.mono fun c x hc => TmR.stab _ _ _ _ (fun _ _ => .of_below X4.out) hc
      have hbt : (Ti.length + 1) * 88 ≤ 140737488355328 := by have := HTL.out; omega
      have hw4 : W.heap.size ≤ W4.heap.size := Nat.le_trans HXr.out.size X4.out.size
      have HX4 := Lib.hid (HXr.out.trans X4.out)
      clear hp B4
      go_wp2_with (at_builtin; refine wpList_app1 rfl _ _ 87 rfl W.heap.size term_slice _ _ _ rfl HR4.out #[.int .i64 p0, .int .i64 p1, .int .i64 p2, .bool x0, .slice X0 x1 x2, .bool y0, .slice Y0 y1 y2] 1 1 rfl rfl rfl hbt hw4 ?_)
      intro v' w5 ho5 hg5 _
      have O5 : Hid (OwnL tTerm 7 TmR W.heap.size w5 v' (Ti ++ row lin fac i (i + 1))) := by
        rw [Hid, HRF.out]
        exact OwnL.snoc (R := TmR) (w := W4) (x := (e1 i, li)) TmR.stab (by decide) HR4.out HC4.out ⟨p0, p1, p2, x0, X0, x1, x2, y0, Y0, y1, y2, rfl, HE1.out, VV4.out⟩ ho5 hg5
      have X5 := Lib.hid (grown_below HX4.out HR4.out hg5 (Nat.le_refl _))
      clear ho5 hg5 k0 k1 k2 k3 k4 k5 k6
      have hif : i < fac.length := by rw [HM.out.fl]; exact hin
      go_wp2_with fail
      go_loopw [3, 7, 8, 9, 10] (fun v3 v7 _ _ _ wr => ∃ j : Nat, i + 1 ≤ j ∧ j ≤ n ∧ v7 = .int .i64 j ∧ Hid (OwnL tTerm 7 TmR W.heap.size wr v3 (Ti ++ row lin fac i j)) ∧ Hid (Ext W wr)) (fun _ v7 _ _ _ _ => n - (RowKit.intOf v7).toNat)
      case atStart => exact ⟨i + 1, Nat.le_refl _, by omega, by go_num, O5, X5⟩
      case round =>
        obtain ⟨j, hij, hjn, rfl, HOj, HXj⟩ := hrel
        obtain ⟨Aj, cj, xj, rfl, _, _, HRj, HCj⟩ := HOj.out.parts
        have BMj := Lib.hid (BM.out.ext HXj.out)
        by_cases hjl : j < n
        · have hjf : j < fac.length := by rw [HM.out.fl]; exact hjl
          have hj3 : j < 3 := by omega
          have HRJ := Lib.hid (HRN.out j hij)
          rw [getD_at hif, getD_at hjf] at HRJ
          have HLR : Hid ((Ti ++ row lin fac i j).length ≤ 100) := by rw [Hid, List.length_append, row_length]; have := HTL.out; omega
          have HGJ := Lib.hid (GL.ext HX.out (HX0.out.trans HXj.out))
          obtain ⟨gx, ox, Ai, ci, rfl, _, HLi, q1⟩ := OneR.get HGJ.out hif
          obtain ⟨gx', ox', Ak, ck, e, _, HLk, q2⟩ := OneR.get HGJ.out hjf
          injection e with e
          injection e with e1 e2
          subst e1 e2
          have HFi := Lib.hid (HM.out.ffac _ (List.getElem_mem hif))
          have HFk := Lib.hid (HM.out.ffac _ (List.getElem_mem hjf))
          have HRi := Lib.hid (HM.out.fr _ (List.getElem_mem hif))
          have HRk := Lib.hid (HM.out.fr _ (List.getElem_mem hjf))
          rw [HRi.out] at q1 HLi
          rw [HRk.out] at q2 HLk
          have HQ : Hid (∀ w', Ext wr w' → w'.cell? ⟨gx, ox + i, none⟩ = some (.slice Ai r ci) ∧ w'.cell? ⟨gx, ox + j, none⟩ = some (.slice Ak r ck)) := fun w' hx => ⟨(hx.cell (by assumption)).trans q1, (hx.cell (by assumption)).trans q2⟩
          generalize fac[i] = fi at *
          generalize fac[j] = fk at *
          generalize hrw : Ti ++ row lin fac i j = Tj at *
          have HRW := Lib.hid hrw
          clear hrw q1 q2 HGJ
          generalize wr = wp at *
          obtain ⟨k0, k1, k2, k3, k4, k5⟩ := BMj.out.six
          go_wp2_with fail
          refine (xzero_any wp).mono ?_
          rintro e w6 ⟨v6, rfl, hv6, hx6⟩
          obtain ⟨r0, R0, r1, r2, s0, S0, s1, s2, rfl, _, _⟩ := hv6.parts
          clear k0 k1 k2 k3 k4 k5
          go_upto_region 12 with fail
          refine newbox (P := fun W => Code.wp _ _ _ _ W) hv6 fun W6 HX6 BS hsz6 => ?_
          have HB0 : Hid (Box W6 w6.heap.size (dot (fi.take 0) (fk.take 0))) := BS
          have HY6 := Lib.hid (hx6.trans HX6.out)
          have hg6 : wp.heap.size ≤ w6.heap.size := hx6.size
          clear hx6 hv6 HX6 BS hsz6
          have BM6 := Lib.hid (BMj.out.ext HY6.out)
          obtain ⟨k0, k1, k2, k3, k4, k5⟩ := BM6.out.six
          obtain ⟨q1, q2⟩ := HQ.out W6 HY6.out
          go_wp2_with fail
          clear k0 k1 k2 k3 k4 k5 q1 q2 BM6
          go_loopw [9, 52] (fun _ v52 wr => ∃ k : Nat, k ≤ r ∧ v52 = .int .i64 k ∧ Hid (Box wr w6.heap.size (dot (fi.take k) (fk.take k))) ∧ Hid (Ext wp wr)) (fun _ v52 _ => r - (RowKit.intOf v52).toNat)
          case atStart => exact ⟨0, Nat.zero_le _, rfl, HB0, HY6⟩
          case round =>
            obtain ⟨k, hk, rfl, HBS, HXS⟩ := hrel
            by_cases hkr : k < r
            · have hki : k < fi.length := by rw [HRi.out]; exact hkr
              have hkk : k < fk.length := by rw [HRk.out]; exact hkr
              have HNX := Lib.hid (dot_next hki hkk)
              have FS := Lib.hid (dot_fit HRi.out HRk.out HFi.out HFk.out k hk)
              have F1 := Lib.hid (HFi.out _ (List.getElem_mem hki))
              have F2 := Lib.hid (HFk.out _ (List.getElem_mem hkk))
              obtain ⟨g3, o3, x0, X0, x1, x2, y0, Y0, y1, y2, rfl, _, V3, c0, c1, c2, c3⟩ := FL.get (FL.ext HLi.out HXS.out) hki
              obtain ⟨g4, o4, z0, Z0, z1, z2, t0, T0, t1, t2, rfl, _, V4, d0, d1, d2, d3⟩ := FL.get (FL.ext HLk.out HXS.out) hkk
              have HC3 : Hid (∀ w', Ext wr w' → (w'.cell? ⟨g3, o3 + k * 4, none⟩ = some (.bool x0) ∧ w'.cell? ⟨g3, o3 + k * 4 + 1, none⟩ = some (.slice X0 x1 x2) ∧ w'.cell? ⟨g3, o3 + k * 4 + 2, none⟩ = some (.bool y0) ∧ w'.cell? ⟨g3, o3 + k * 4 + 3, none⟩ = some (.slice Y0 y1 y2)) ∧ (w'.cell? ⟨g4, o4 + k * 4, none⟩ = some (.bool z0) ∧ w'.cell? ⟨g4, o4 + k * 4 + 1, none⟩ = some (.slice Z0 z1 z2) ∧ w'.cell? ⟨g4, o4 + k * 4 + 2, none⟩ = some (.bool t0) ∧ w'.cell? ⟨g4, o4 + k * 4 + 3, none⟩ = some (.slice T0 t1 t2))) := fun w' hx => ⟨⟨(hx.cell (by assumption)).trans c0, (hx.cell (by assumption)).trans c1, (hx.cell (by assumption)).trans c2, (hx.cell (by assumption)).trans c3⟩, (hx.cell (by assumption)).trans d0, (hx.cell (by assumption)).trans d1, (hx.cell (by assumption)).trans d2, (hx.cell (by assumption)).trans d3⟩
              obtain ⟨r0, R0, r1, r2, s0, S0, s1, s2, BS, VS⟩ := HBS.out.parts
              generalize fi[k] = xi at *
              generalize fk[k] = xk at *
              clear c0 c1 c2 c3 d0 d1 d2 d3
              go_upto_region 15 with fail
              obtain ⟨S, hSd⟩ : ∃ S : World → Prop, S = fun w' => (w'.cell? ⟨w6.heap.size, 0, none⟩ = some (.bool r0) ∧ w'.cell? ⟨w6.heap.size, 0 + 1, none⟩ = some (.slice R0 r1 r2) ∧ w'.cell? ⟨w6.heap.size, 0 + 2, none⟩ = some (.bool s0) ∧ w'.cell? ⟨w6.heap.size, 0 + 3, none⟩ = some (.slice S0 s1 s2)) ∧ w'.cell? ⟨w.heap.size, 5, none⟩ = some (.slice (some ⟨gx, ox, none⟩) n cx) ∧ (w'.cell? ⟨gx, ox + i, none⟩ = some (.slice (some ⟨g3, o3, none⟩) r ci) ∧ w'.cell? ⟨gx, ox + j, none⟩ = some (.slice (some ⟨g4, o4, none⟩) r ck)) ∧ (w'.cell? ⟨g3, o3 + k * 4, none⟩ = some (.bool x0) ∧ w'.cell? ⟨g3, o3 + k * 4 + 1, none⟩ = some (.slice X0 x1 x2) ∧ w'.cell? ⟨g3, o3 + k * 4 + 2, none⟩ = some (.bool y0) ∧ w'.cell? ⟨g3, o3 + k * 4 + 3, none⟩ = some (.slice Y0 y1 y2)) ∧ (w'.cell? ⟨g4, o4 + k * 4, none⟩ = some (.bool z0) ∧ w'.cell? ⟨g4, o4 + k * 4 + 1, none⟩ = some (.slice Z0 z1 z2) ∧ w'.cell? ⟨g4, o4 + k * 4 + 2, none⟩ = some (.bool t0) ∧ w'.cell? ⟨g4, o4 + k * 4 + 3, none⟩ = some (.slice T0 t1 t2)) := ⟨_, rfl⟩
              have HSI : Hid (∀ w', S w' → (w'.cell? ⟨w6.heap.size, 0, none⟩ = some (.bool r0) ∧ w'.cell? ⟨w6.heap.size, 0 + 1, none⟩ = some (.slice R0 r1 r2) ∧ w'.cell? ⟨w6.heap.size, 0 + 2, none⟩ = some (.bool s0) ∧ w'.cell? ⟨w6.heap.size, 0 + 3, none⟩ = some (.slice S0 s1 s2)) ∧ w'.cell? ⟨w.heap.size, 5, none⟩ = some (.slice (some ⟨gx, ox, none⟩) n cx) ∧ (w'.cell? ⟨gx, ox + i, none⟩ = some (.slice (some ⟨g3, o3, none⟩) r ci) ∧ w'.cell? ⟨gx, ox + j, none⟩ = some (.slice (some ⟨g4, o4, none⟩) r ck)) ∧ (w'.cell? ⟨g3, o3 + k * 4, none⟩ = some (.bool x0) ∧ w'.cell? ⟨g3, o3 + k * 4 + 1, none⟩ = some (.slice X0 x1 x2) ∧ w'.cell? ⟨g3, o3 + k * 4 + 2, none⟩ = some (.bool y0) ∧ w'.cell? ⟨g3, o3 + k * 4 + 3, none⟩ = some (.slice Y0 y1 y2)) ∧ (w'.cell? ⟨g4, o4 + k * 4, none⟩ = some (.bool z0) ∧ w'.cell? ⟨g4, o4 + k * 4 + 1, none⟩ = some (.slice Z0 z1 z2) ∧ w'.cell? ⟨g4, o4 + k * 4 + 2, none⟩ = some (.bool t0) ∧ w'.cell? ⟨g4, o4 + k * 4 + 3, none⟩ = some (.slice T0 t1 t2))) := by rw [Hid, hSd]; exact fun _ h => h
              have HSE : Hid (∀ w', Ext wr w' → S w') := by rw [Hid, hSd]; exact fun w' h => ⟨(BS.out.ext h).four, (BMj.out.ext (HXS.out.trans h)).cell (i := 5) rfl, HQ.out w' (HXS.out.trans h), HC3.out w' h⟩
              have HS0 : Hid (S wr.drew) := HSE.out _ (Ext.refl wr).drew
              clear hSd
              refine AnyT.start (S := S) (T := fun j => decide (19 ≤ j)) (by kernel_rfl) ?_
              refine AnyT.load 0 55 (.agg #[.bool r0, .slice R0 r1 r2, .bool s0, .slice S0 s1 s2]) rfl (by kernel_rfl) (by kernel_rfl) (by kernel_rfl) (by kernel_rfl) (by kernel_rfl) (fun _ _ _ h => h) HS0.out ?_ ?_
              · intro o ho
                simp only [List.getElem?_toArray, List.getElem?_cons_zero, Option.some.injEq] at ho
                subst ho
                refine ⟨rfl, rfl, fun w' hSw => ?_⟩
                have hs := HSI.out w' hSw
                go_split_ands
                go_simp
              simp only [Act.put, List.setIfInBounds_toArray, List.set_cons_zero, List.set_cons_succ]
              refine AnyT.load 1 56 (.pointer (some ⟨w.heap.size, 5, none⟩)) rfl (by kernel_rfl) (by kernel_rfl) (by kernel_rfl) (by kernel_rfl) (by kernel_rfl) (fun _ _ _ h => h) HS0.out ?_ ?_
              · intro o ho
                simp only [List.getElem?_toArray, List.getElem?_cons_succ, List.getElem?_cons_zero, Option.some.injEq] at ho
                subst ho
                refine ⟨rfl, rfl, fun w' hSw => ?_⟩
                have hs := HSI.out w' hSw
                go_split_ands
                go_simp
              simp only [Act.put, List.setIfInBounds_toArray, List.set_cons_zero, List.set_cons_succ]
              refine AnyT.load 2 57 (.slice (some ⟨gx, ox, none⟩) n cx) rfl (by kernel_rfl) (by kernel_rfl) (by kernel_rfl) (by kernel_rfl) (by kernel_rfl) (fun _ _ _ h => h) HS0.out ?_ ?_
              · intro o ho
                simp only [List.getElem?_toArray, List.getElem?_cons_succ, List.getElem?_cons_zero, Option.some.injEq] at ho
                subst ho
                refine ⟨rfl, rfl, fun w' hSw => ?_⟩
                have hs := HSI.out w' hSw
                go_split_ands
                go_simp
              simp only [Act.put, List.setIfInBounds_toArray, List.set_cons_zero, List.set_cons_succ]
              refine AnyT.load 3 58 (.int .i64 i) rfl (by kernel_rfl) (by kernel_rfl) (by kernel_rfl) (by kernel_rfl) (by kernel_rfl) (fun _ _ _ h => h) HS0.out ?_ ?_
              · intro o ho
                simp only [List.getElem?_toArray, List.getElem?_cons_succ, List.getElem?_cons_zero, Option.some.injEq] at ho
                subst ho
                refine ⟨rfl, rfl, fun w' hSw => ?_⟩
                have hs := HSI.out w' hSw
                go_split_ands
                go_simp
              simp only [Act.put, List.setIfInBounds_toArray, List.set_cons_zero, List.set_cons_succ]
              refine AnyT.load 4 59 (.pointer (some ⟨gx, ox + i, none⟩)) rfl (by kernel_rfl) (by kernel_rfl) (by kernel_rfl) (by kernel_rfl) (by kernel_rfl) (fun _ _ _ h => h) HS0.out ?_ ?_
              · intro o ho
                simp only [List.getElem?_toArray, List.getElem?_cons_succ, List.getElem?_cons_zero, Option.some.injEq] at ho
                subst ho
                refine ⟨rfl, rfl, fun w' hSw => ?_⟩
                have hs := HSI.out w' hSw
                go_split_ands
                go_simp
              simp only [Act.put, List.setIfInBounds_toArray, List.set_cons_zero, List.set_cons_succ]
              refine AnyT.load 5 60 (.slice (some ⟨g3, o3, none⟩) r ci) rfl (by kernel_rfl) (by kernel_rfl) (by kernel_rfl) (by kernel_rfl) (by kernel_rfl) (fun _ _ _ h => h) HS0.out ?_ ?_
              · intro o ho
                simp only [List.getElem?_toArray, List.getElem?_cons_succ, List.getElem?_cons_zero, Option.some.injEq] at ho
                subst ho
                refine ⟨rfl, rfl, fun w' hSw => ?_⟩
                have hs := HSI.out w' hSw
                go_split_ands
                go_simp
              simp only [Act.put, List.setIfInBounds_toArray, List.set_cons_zero, List.set_cons_succ]
              refine AnyT.load 6 61 (.int .i64 k) rfl (by kernel_rfl) (by kernel_rfl) (by kernel_rfl) (by kernel_rfl) (by kernel_rfl) (fun _ _ _ h => h) HS0.out ?_ ?_
              · intro o ho
                simp only [List.getElem?_toArray, List.getElem?_cons_succ, List.getElem?_cons_zero, Option.some.injEq] at ho
                subst ho
                refine ⟨rfl, rfl, fun w' hSw => ?_⟩
                have hs := HSI.out w' hSw
                go_split_ands
                go_simp
              simp only [Act.put, List.setIfInBounds_toArray, List.set_cons_zero, List.set_cons_succ]
              refine AnyT.load 7 62 (.pointer (some ⟨g3, o3 + k * 4, none⟩)) rfl (by kernel_rfl) (by kernel_rfl) (by kernel_rfl) (by kernel_rfl) (by kernel_rfl) (fun _ _ _ h => h) HS0.out ?_ ?_
              · intro o ho
                simp only [List.getElem?_toArray, List.getElem?_cons_succ, List.getElem?_cons_zero, Option.some.injEq] at ho
                subst ho
                refine ⟨rfl, rfl, fun w' hSw => ?_⟩
                have hs := HSI.out w' hSw
                go_split_ands
                go_simp
              simp only [Act.put, List.setIfInBounds_toArray, List.set_cons_zero, List.set_cons_succ]
              refine AnyT.load 8 63 (.agg #[.bool x0, .slice X0 x1 x2, .bool y0, .slice Y0 y1 y2]) rfl (by kernel_rfl) (by kernel_rfl) (by kernel_rfl) (by kernel_rfl) (by kernel_rfl) (fun _ _ _ h => h) HS0.out ?_ ?_
              · intro o ho
                simp only [List.getElem?_toArray, List.getElem?_cons_succ, List.getElem?_cons_zero, Option.some.injEq] at ho
                subst ho
                refine ⟨rfl, rfl, fun w' hSw => ?_⟩
                have hs := HSI.out w' hSw
                go_split_ands
                go_simp
              simp only [Act.put, List.setIfInBounds_toArray, List.set_cons_zero, List.set_cons_succ]
              refine AnyT.load 9 64 (.pointer (some ⟨w.heap.size, 5, none⟩)) rfl (by kernel_rfl) (by kernel_rfl) (by kernel_rfl) (by kernel_rfl) (by kernel_rfl) (fun _ _ _ h => h) HS0.out ?_ ?_
              · intro o ho
                simp only [List.getElem?_toArray, List.getElem?_cons_succ, List.getElem?_cons_zero, Option.some.injEq] at ho
                subst ho
                refine ⟨rfl, rfl, fun w' hSw => ?_⟩
                have hs := HSI.out w' hSw
                go_split_ands
                go_simp
              simp only [Act.put, List.setIfInBounds_toArray, List.set_cons_zero, List.set_cons_succ]
              refine AnyT.load 10 65 (.slice (some ⟨gx, ox, none⟩) n cx) rfl (by kernel_rfl) (by kernel_rfl) (by kernel_rfl) (by kernel_rfl) (by kernel_rfl) (fun _ _ _ h => h) HS0.out ?_ ?_
              · intro o ho
                simp only [List.getElem?_toArray, List.getElem?_cons_succ, List.getElem?_cons_zero, Option.some.injEq] at ho
                subst ho
                refine ⟨rfl, rfl, fun w' hSw => ?_⟩
                have hs := HSI.out w' hSw
                go_split_ands
                go_simp
              simp only [Act.put, List.setIfInBounds_toArray, List.set_cons_zero, List.set_cons_succ]
              refine AnyT.load 11 66 (.int .i64 j) rfl (by kernel_rfl) (by kernel_rfl) (by kernel_rfl) (by kernel_rfl) (by kernel_rfl) (fun _ _ _ h => h) HS0.out ?_ ?_
              · intro o ho
                simp only [List.getElem?_toArray, List.getElem?_cons_succ, List.getElem?_cons_zero, Option.some.injEq] at ho
                subst ho
                refine ⟨rfl, rfl, fun w' hSw => ?_⟩
                have hs := HSI.out w' hSw
                go_split_ands
                go_simp
              simp only [Act.put, List.setIfInBounds_toArray, List.set_cons_zero, List.set_cons_succ]
              refine AnyT.load 12 67 (.pointer (some ⟨gx, ox + j, none⟩)) rfl (by kernel_rfl) (by kernel_rfl) (by kernel_rfl) (by kernel_rfl) (by kernel_rfl) (fun _ _ _ h => h) HS0.out ?_ ?_
              · intro o ho
                simp only [List.getElem?_toArray, List.getElem?_cons_succ, List.getElem?_cons_zero, Option.some.injEq] at ho
                subst ho
                refine ⟨rfl, rfl, fun w' hSw => ?_⟩
                have hs := HSI.out w' hSw
                go_split_ands
                go_simp
              simp only [Act.put, List.setIfInBounds_toArray, List.set_cons_zero, List.set_cons_succ]
              refine AnyT.load 13 68 (.slice (some ⟨g4, o4, none⟩) r ck) rfl (by kernel_rfl) (by kernel_rfl) (by kernel_rfl) (by kernel_rfl) (by kernel_rfl) (fun _ _ _ h => h) HS0.out ?_ ?_
              · intro o ho
                simp only [List.getElem?_toArray, List.getElem?_cons_succ, List.getElem?_cons_zero, Option.some.injEq] at ho
                subst ho
                refine ⟨rfl, rfl, fun w' hSw => ?_⟩
                have hs := HSI.out w' hSw
                go_split_ands
                go_simp
              simp only [Act.put, List.setIfInBounds_toArray, List.set_cons_zero, List.set_cons_succ]
              refine AnyT.load 14 69 (.int .i64 k) rfl (by kernel_rfl) (by kernel_rfl) (by kernel_rfl) (by kernel_rfl) (by kernel_rfl) (fun _ _ _ h => h) HS0.out ?_ ?_
              · intro o ho
                simp only [List.getElem?_toArray, List.getElem?_cons_succ, List.getElem?_cons_zero, Option.some.injEq] at ho
                subst ho
                refine ⟨rfl, rfl, fun w' hSw => ?_⟩
                have hs := HSI.out w' hSw
                go_split_ands
                go_simp
              simp only [Act.put, List.setIfInBounds_toArray, List.set_cons_zero, List.set_cons_succ]
              refine AnyT.load 15 70 (.pointer (some ⟨g4, o4 + k * 4, none⟩)) rfl (by kernel_rfl) (by kernel_rfl) (by kernel_rfl) (by kernel_rfl) (by kernel_rfl) (fun _ _ _ h => h) HS0.out ?_ ?_
              · intro o ho
                simp only [List.getElem?_toArray, List.getElem?_cons_succ, List.getElem?_cons_zero, Option.some.injEq] at ho
                subst ho
                refine ⟨rfl, rfl, fun w' hSw => ?_⟩
                have hs := HSI.out w' hSw
                go_split_ands
                go_simp
              simp only [Act.put, List.setIfInBounds_toArray, List.set_cons_zero, List.set_cons_succ]
              refine AnyT.load 16 71 (.agg #[.bool z0, .slice Z0 z1 z2, .bool t0, .slice T0 t1 t2]) rfl (by kernel_rfl) (by kernel_rfl) (by kernel_rfl) (by kernel_rfl) (by kernel_rfl) (fun _ _ _ h => h) HS0.out ?_ ?_
              · intro o ho
                simp only [List.getElem?_toArray, List.getElem?_cons_succ, List.getElem?_cons_zero, Option.some.injEq] at ho
                subst ho
                refine ⟨rfl, rfl, fun w' hSw => ?_⟩
                have hs := HSI.out w' hSw
                go_split_ands
                go_simp
              simp only [Act.put, List.setIfInBounds_toArray, List.set_cons_zero, List.set_cons_succ]
              refine AnyT.step 17 (by kernel_rfl) ?_
              intro o ho K hK
              simp only [List.getElem?_toArray, List.getElem?_cons_succ, List.getElem?_cons_zero, Option.some.injEq] at ho
              subst ho
              go_simp
              refine (fmul_any _ _ _ _ _ (V3.out.ext (Ext.refl wr).drew) (V4.out.ext (Ext.refl wr).drew) F1.out F2.out (by decide)).mono ?_
              rintro e w7 ⟨v7, rfl, hv7, hx7⟩
              have hy7 := (Ext.refl wr).drew.trans hx7
              refine hK.out _ _ (fun _ => HSE.out _ hy7) ?_
              refine AnyT.step 18 (by kernel_rfl) ?_
              intro o ho K hK
              simp only [List.getElem?_toArray, List.getElem?_cons_succ, List.getElem?_cons_zero, Option.some.injEq] at ho
              subst ho
              go_simp
              refine (fadd_any _ _ _ _ _ (VS.out.ext hy7) hv7 FS.out (F1.out.mul F2.out) (by omega)).mono ?_
              rintro e w8 ⟨v8, rfl, hv8, hx8⟩
              obtain ⟨e0, E0, e1, e2, f0, F0, f1, f2, rfl, _, _⟩ := hv8.parts
              have hy8 := hy7.trans hx8
              refine hK.out _ _ (fun _ => HSE.out _ hy8) ?_
              rw [← HNX.out] at hv8
              have BS8 := Lib.hid (BS.out.ext hy8)
              obtain ⟨k0, k1, k2, k3⟩ := BS8.out.four
              obtain ⟨m0, m1, m2, m3⟩ := BS8.out.free4
              obtain ⟨W', hW', HBN, _, HE, _⟩ := Box.put BS8.out hv8 (HXS.out.trans hy8) hg6
              have HW' := Lib.hid hW'
              clear hW' hx7 hy7 hx8 hy8 hv7
              refine AnyT.step 19 (by kernel_rfl) ?_
              intro o ho K hK
              simp only [List.getElem?_toArray, List.getElem?_cons_succ, List.getElem?_cons_zero, Option.some.injEq] at ho
              subst ho
              go_simp
              refine hK.out _ _ (fun h => by cases h) ?_
              refine AnyT.done (by kernel_rfl) ?_
              rw [HW'.out]
              clear k0 k1 k2 k3 m0 m1 m2 m3
              go_wp2_with fail
              go_roundw
              case rel => exact ⟨k + 1, by omega, by go_num, HBN, HE⟩
              case measure => simp [RowKit.intOf]; omega
            · obtain rfl : k = r := by omega
              rw [List.take_of_length_le (by rw [HRi.out]; exact Nat.le_refl _), List.take_of_length_le (by rw [HRk.out]; exact Nat.le_refl _)] at HBS
              obtain ⟨x0, X0, x1, x2, y0, Y0, y1, y2, BV2, VV2⟩ := HBS.out.parts
              obtain ⟨k0, k1, k2, k3⟩ := BV2.out.four
              generalize hdd : dot fi fk = dd at *
              clear hdd
              go_upto_region 18 with fail
              refine box1 (P := fun W => Code.wp _ _ _ _ W) fun W3 HX3 BT => ?_
              have BT0 : Hid (Blk W3 wr.heap.size tTerm (tcells [0, 0, 0] [.bool x0, .slice X0 x1 x2, .bool y0, .slice Y0 y1 y2])) := BT
              have hc1 := term_cells BT0.out (i := i) (by simpa using hi3)
              rw [z_get hi3] at hc1
              have hf1 := BT0.out.frozen i
              have hy3 := HXS.out.trans HX3.out
              obtain ⟨W4, hW4, B4, K4, X4, N4⟩ := storeG (i := i) BT0.out hy3 HXS.out.size (.int .i64 1)
              rw [tcells_set (by simpa using hi3), show ([0, 0, 0] : List Int).set i 1 = e1 i from rfl] at B4
              have HW4 := Lib.hid hW4
              have VV4 := Lib.hid ((VV2.out.ext HX3.out).keep (K4.out _ (by decide)))
              clear k0 k1 k2 k3 hW4 BT BV2 VV2
              go_upto_region 19 with fail
              rw [HW4.out]
              clear hc1 hf1
              have hc2 := term_cells B4.out (i := j) (by rw [e1_length]; exact hj3)
              rw [e1_get (by omega) hj3] at hc2
              have hf2 := B4.out.frozen j
              obtain ⟨W5, hW5, B5, K5, X5, N5⟩ := storeG (i := j) B4.out X4.out HXS.out.size (.int .i64 1)
              rw [tcells_set (by rw [e1_length]; exact hj3), show (e1 i).set j 1 = e2 i j from rfl] at B5
              have HW5 := Lib.hid hW5
              have VV5 := Lib.hid (VV4.out.keep (K5.out _ (by decide)))
              clear hW5
              go_upto_region 20 with fail
              rw [HW5.out]
              clear hc2 hf2
              obtain ⟨p0, p1, p2, hp⟩ := three (e2_length i j)
              have HE2 := Lib.hid hp
              rw [hp] at B5
              have B5' : Hid (Blk W5 wr.heap.size tTerm [.int .i64 p0, .int .i64 p1, .int .i64 p2, .bool x0, .slice X0 x1 x2, .bool y0, .slice Y0 y1 y2]) := B5
              have k0 := B5'.out.cell (i := 0) rfl
              have k1 := B5'.out.cell (i := 1) rfl
              have k2 := B5'.out.cell (i := 2) rfl
              have k3 := B5'.out.cell (i := 3) rfl
              have k4 := B5'.out.cell (i := 4) rfl
              have k5 := B5'.out.cell (i := 5) rfl
              have k6 := B5'.out.cell (i := 6) rfl
              have HR5 := Lib.hid (own_extR HRj.out X5.out)
              have HC5 : Hid (Ch (TmR W5) xj Tj) := HCj.out.mono fun c x hc => TmR.stab _ _ _ _ (fun _ _ => .of_below X5.out) hc
              have hbt2 : (Tj.length + 1) * 88 ≤ 140737488355328 := by have := HLR.out; omega
              have hw5 : W.heap.size ≤ W5.heap.size := Nat.le_trans HXj.out.size X5.out.size
              have HX5 := Lib.hid (HXj.out.trans X5.out)
              clear hp B5
              go_wp2_with (at_builtin; refine wpList_app1 rfl _ _ 87 rfl W.heap.size term_slice _ _ _ rfl HR5.out #[.int .i64 p0, .int .i64 p1, .int .i64 p2, .bool x0, .slice X0 x1 x2, .bool y0, .slice Y0 y1 y2] 1 1 rfl rfl rfl hbt2 hw5 ?_)
              intro v' w9 ho9 hg9 _
              have O9 : Hid (OwnL tTerm 7 TmR W.heap.size w9 v' (Ti ++ row lin fac i (j + 1))) := by
                rw [Hid, HRJ.out, ← List.append_assoc, HRW.out]
                exact OwnL.snoc (R := TmR) (w := W5) (x := (e2 i j, dd)) TmR.stab (by decide) HR5.out HC5.out ⟨p0, p1, p2, x0, X0, x1, x2, y0, Y0, y1, y2, rfl, HE2.out, VV5.out⟩ ho9 hg9
              have X9 := Lib.hid (grown_below HX5.out HR5.out hg9 (Nat.le_refl _))
              clear ho9 hg9 k0 k1 k2 k3 k4 k5 k6
              go_wp2_with fail
              go_roundw
              case rel => exact ⟨j + 1, by omega, by omega, by go_num, O9, X9⟩
              case measure => simp [RowKit.intOf]; omega
        · obtain rfl : j = n := by omega
          obtain ⟨k0, k1, k2, k3, k4, k5⟩ := BMj.out.six
          go_wp2_with fail
          clear k0 k1 k2 k3 k4 k5
          go_roundw
          case rel => exact ⟨i + 1, by omega, by go_num, by rw [HNT.out]; exact HOj, HXj⟩
          case measure => simp [RowKit.intOf]; omega
    · obtain rfl : i = n := by omega
      have DL := Lib.hid (tdelete_any Ao co W.heap.size (termsF c lin fac i) w wr HO.out (fun t ht => (HTF.out t ht).mono (by decide)) (HX0.out.trans HXr.out) (by omega))
      go_wp2_with fail
      refine DL.out.mono ?_
      rintro e w2 ⟨A2, m2, c2, rfl, htl, hx2⟩
      go_wp2
      go_ret
      exact ⟨A2, m2, c2, rfl, htl, hx2⟩
end Go.Proofs.YtemnoemjmeflbaaGreatDoor
