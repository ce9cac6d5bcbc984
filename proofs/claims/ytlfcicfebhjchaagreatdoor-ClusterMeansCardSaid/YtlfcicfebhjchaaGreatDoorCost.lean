/- cluster.Cost, Assign, Distance. -/
import Derived.Test.YtlfcicfebhjchaaGreatDoorRead
import Derived.Test.YtlfcicfebhjchaaGreatDoorMk
namespace Go.Proofs.YtlfcicfebhjchaaGreatDoor
open Go.RowKit Go.Lib

/-- what centres cost -/
def cost (l : List Pt) (cs : List (List Rat)) : Rat := l.foldl (fun s x => s + x.2 * (near x.1 cs).2) 0
theorem cost_next {l : List Pt} {cs : List (List Rat)} {k : Nat} (h : k < l.length) : cost (l.take (k + 1)) cs = cost (l.take k) cs + l[k].2 * (near l[k].1 cs).2 := by
  unfold cost
  rw [List.take_succ_eq_append_getElem h, List.foldl_append]
  rfl
theorem near_fit1 {n : Nat} {l : List Pt} {cs : List (List Rat)} (h : Good n l cs) {x : Pt} (hx : x ∈ l) : FitQ 5000 (near x.1 cs).2 := by
  have h1 := near_fit (p := x.1) (cs := cs) (fun c hc => by rw [h.cn c hc, h.pn x hx]) (by rw [h.pn x hx]; exact h.n3) (h.pf x hx) h.cf cs.length (Nat.le_refl _)
  rw [List.take_of_length_le (Nat.le_refl _)] at h1
  exact h1
theorem cost_fit' {n : Nat} {l : List Pt} {cs : List (List Rat)} (h : Good n l cs) : ∀ k, k ≤ l.length → FitQ (1 + k * 5401) (cost (l.take k) cs)
  | 0, _ => zero_fit (by decide)
  | k + 1, hk => by
    have h1 := cost_fit' h k (by omega)
    rw [cost_next (by omega)]
    exact (h1.add ((h.wf l[k] (by simp)).mul (near_fit1 h (by simp)))).mono (by omega)
theorem bigadd (k : Nat) (h : k < 100) : 1 + k * 5401 + (400 + 5000) + 1 ≤ 1000000 := by omega
theorem near1 {p : List Rat} {cs : List (List Rat)} : -1 ≤ (near p cs).1 ∧ (near p cs).1 < cs.length := by
  have h := near_lt p cs cs.length (Nat.le_refl _)
  rw [List.take_of_length_le (Nat.le_refl _)] at h
  exact h
set_option maxRecDepth 100000 in
set_option maxHeartbeats 4000000 in
theorem cost_any (vl vc : Value) (n : Nat) (l : List Pt) (cs : List (List Rat)) (w : World) (hl : CL w vl l) (hc : PL w vc cs) (hg : Good n l cs) (h100 : l.length ≤ 100) (hf : FitQ 400 (cost l cs)) (ht : Tab w) :
    Calls Tryz.prog 16 #[vl, vc] w fun e w' => e = .returned (.string ⟨(ratText (cost l cs)).toArray⟩) ∧ Ext w w' := by
  have RD := Lib.hid (cread_any vl vc n l cs w hl hc hg)
  have HG := Lib.hid hg
  have HF := Lib.hid hf
  have HT := Lib.hid ht
  obtain ⟨tc, htc⟩ : ∃ tc, ratText (cost l cs) = tc := ⟨_, rfl⟩
  rw [htc]
  have HTC := Lib.hid htc
  clear hl hc hg hf ht htc
  go_enter Tryz.func16, Tryz.ntmps16
  go_wp2_with fail
  refine RD.out.mono ?_
  rintro e w1 ⟨Ap, cp, Ac, cc, rfl, hql, hgl, hx1⟩
  have HQ := Lib.hid hql
  have HGL := Lib.hid hgl
  have hcp : cp ≤ 9223372036854775807 := by
    obtain ⟨_, _, e, _, h, _⟩ := hql.parts
    injection e with _ _ e
    subst e
    unfold maxLen at h; omega
  clear hql hgl RD
  go_wp2_with fail
  refine (xzero_any w1).mono ?_
  rintro e w2 ⟨v2, rfl, hv2, hx2⟩
  obtain ⟨a0, A0, a1, a2, b0, B0, b1, b2, rfl, _, _⟩ := hv2.parts
  go_wp2_with fail
  refine newbox (P := fun W => Code.wp _ _ _ _ W) hv2 fun W HX HB1 hsz => ?_
  have HX1 := Lib.hid (hx2.trans HX.out)
  have HE1 := Lib.hid hx1
  have hg2 : w1.heap.size ≤ w2.heap.size := hx2.size
  have HB0 : Hid (Box W w2.heap.size (cost (l.take 0) cs)) := HB1
  clear hx1 hx2 hv2 HX HB1
  go_loopw [10, 11, 12, 25] (fun _ _ _ v25 wr => ∃ k : Nat, k ≤ l.length ∧ v25 = .int .i64 k ∧ Hid (Box wr w2.heap.size (cost (l.take k) cs)) ∧ Hid (Ext w1 wr)) (fun _ _ _ v25 _ => l.length - (RowKit.intOf v25).toNat)
  case atStart => exact ⟨0, Nat.zero_le _, rfl, HB0, HX1⟩
  case round =>
    obtain ⟨k, hk, rfl, HBS, HXS⟩ := hrel
    by_cases hkl : k < l.length
    · have HNX := Lib.hid (cost_next (cs := cs) hkl)
      have hmem := List.getElem_mem hkl
      have FS := Lib.hid (cost_fit' HG.out k hk)
      have FD := Lib.hid (near_fit1 HG.out hmem)
      have FW := Lib.hid (HG.out.wf _ hmem)
      obtain ⟨g1, o1, Aq, cq, x0, X0, x1, x2, y0, Y0, y1, y2, rfl, _, HL1, HV1, p0, p1, p2, p3, p4⟩ := QL.get (QL.ext HQ.out HXS.out) hkl
      have NR : Hid (∀ w', Ext wr w' → Calls Tryz.prog 37 #[.slice Aq l[k].1.length cq, .slice Ac cs.length cc] w' fun e w'' => ∃ b A n c b' A' n' c', e = .returned (.tuple #[.int .i64 (near l[k].1 cs).1, .agg #[.bool b, .slice A n c, .bool b', .slice A' n' c']]) ∧ FracV w'' (.agg #[.bool b, .slice A n c, .bool b', .slice A' n' c']) (near l[k].1 cs).2 ∧ Ext w' w'') :=
        fun w' hx => near_any _ _ l[k].1 cs w' (FL.ext HL1.out hx) (GL.ext HGL.out (HXS.out.trans hx)) (fun c hc => by rw [HG.out.cn c hc, HG.out.pn _ hmem]) (by rw [HG.out.pn _ hmem]; exact HG.out.n3) (HG.out.pf _ hmem) HG.out.cf
      have hgs : w2.heap.size < wr.heap.size := HBS.out.lt
      have hbig := bigadd k (by omega : k < 100)
      clear hmem
      generalize l[k] = x at *
      obtain ⟨p, q⟩ := x
      simp only at HNX FD FW HL1 HV1 NR p0
      generalize near p cs = nb at *
      obtain ⟨ni, nd⟩ := nb
      simp only at HNX FD NR
      go_upto_region 8 with fail
      refine box1 (P := fun W => Code.wp _ _ _ _ W) fun W2 HX2 BP => ?_
      have i0 := BP.out.cell (i := 0) rfl
      clear p0 p1 p2 p3 p4
      go_wp2_with fail
      refine (NR.out W2 HX2.out).mono ?_
      rintro e w3 ⟨z0, Z0, z1, z2, t0, T0, t1, t2, rfl, hv3, hx3⟩
      go_upto_region 9 with fail
      refine newbox (P := fun W => Code.wp _ _ _ _ W) hv3 fun wq HXN BX2 hsz3 => ?_
      have hyq := HX2.out.trans (hx3.trans HXN.out)
      have BPQ := Lib.hid (BP.out.ext (hx3.trans HXN.out))
      have VP := Lib.hid (HV1.out.ext hyq)
      have HXQ := Lib.hid (HXS.out.trans hyq)
      obtain ⟨r0, R0, r1, r2, s0, S0, s1, s2, BS, VS⟩ := (HBS.out.ext hyq).parts
      obtain ⟨z0, Z0, z1, z2, t0, T0, t1, t2, BD, VD⟩ := BX2.out.parts
      clear hyq hx3 hv3 i0 HX2 BP HBS BX2
      obtain ⟨S, hSd⟩ : ∃ S : World → Prop, S = fun w' => (w'.cell? ⟨w2.heap.size, 0, none⟩ = some (.bool r0) ∧ w'.cell? ⟨w2.heap.size, 0 + 1, none⟩ = some (.slice R0 r1 r2) ∧ w'.cell? ⟨w2.heap.size, 0 + 2, none⟩ = some (.bool s0) ∧ w'.cell? ⟨w2.heap.size, 0 + 3, none⟩ = some (.slice S0 s1 s2)) ∧ (w'.cell? ⟨w3.heap.size, 0, none⟩ = some (.bool z0) ∧ w'.cell? ⟨w3.heap.size, 0 + 1, none⟩ = some (.slice Z0 z1 z2) ∧ w'.cell? ⟨w3.heap.size, 0 + 2, none⟩ = some (.bool t0) ∧ w'.cell? ⟨w3.heap.size, 0 + 3, none⟩ = some (.slice T0 t1 t2)) ∧ (w'.cell? ⟨wr.heap.size, 1, none⟩ = some (.bool x0) ∧ w'.cell? ⟨wr.heap.size, 2, none⟩ = some (.slice X0 x1 x2) ∧ w'.cell? ⟨wr.heap.size, 3, none⟩ = some (.bool y0) ∧ w'.cell? ⟨wr.heap.size, 4, none⟩ = some (.slice Y0 y1 y2)) := ⟨_, rfl⟩
      have HSI : Hid (∀ w', S w' → (w'.cell? ⟨w2.heap.size, 0, none⟩ = some (.bool r0) ∧ w'.cell? ⟨w2.heap.size, 0 + 1, none⟩ = some (.slice R0 r1 r2) ∧ w'.cell? ⟨w2.heap.size, 0 + 2, none⟩ = some (.bool s0) ∧ w'.cell? ⟨w2.heap.size, 0 + 3, none⟩ = some (.slice S0 s1 s2)) ∧ (w'.cell? ⟨w3.heap.size, 0, none⟩ = some (.bool z0) ∧ w'.cell? ⟨w3.heap.size, 0 + 1, none⟩ = some (.slice Z0 z1 z2) ∧ w'.cell? ⟨w3.heap.size, 0 + 2, none⟩ = some (.bool t0) ∧ w'.cell? ⟨w3.heap.size, 0 + 3, none⟩ = some (.slice T0 t1 t2)) ∧ (w'.cell? ⟨wr.heap.size, 1, none⟩ = some (.bool x0) ∧ w'.cell? ⟨wr.heap.size, 2, none⟩ = some (.slice X0 x1 x2) ∧ w'.cell? ⟨wr.heap.size, 3, none⟩ = some (.bool y0) ∧ w'.cell? ⟨wr.heap.size, 4, none⟩ = some (.slice Y0 y1 y2))) := by rw [Hid, hSd]; exact fun _ h => h
      have HSE : Hid (∀ w', Ext wq w' → S w') := by rw [Hid, hSd]; exact fun w' h => ⟨(BS.out.ext h).four, (BD.out.ext h).four, (BPQ.out.ext h).cell (i := 1) rfl, (BPQ.out.ext h).cell (i := 2) rfl, (BPQ.out.ext h).cell (i := 3) rfl, (BPQ.out.ext h).cell (i := 4) rfl⟩
      have HS0 : Hid (S wq.drew) := HSE.out _ (Ext.refl wq).drew
      clear hSd
      refine AnyT.start (S := S) (T := fun j => decide (6 ≤ j)) (by kernel_rfl) ?_
      refine AnyT.load 0 36 (.agg #[.bool r0, .slice R0 r1 r2, .bool s0, .slice S0 s1 s2]) rfl (by kernel_rfl) (by kernel_rfl) (by kernel_rfl) (by kernel_rfl) (by kernel_rfl) (fun _ _ _ h => h) HS0.out ?_ ?_
      · intro o ho
        simp only [List.getElem?_toArray, List.getElem?_cons_zero, Option.some.injEq] at ho
        subst ho
        refine ⟨rfl, rfl, fun w' hSw => ?_⟩
        have hs := HSI.out w' hSw
        go_split_ands
        go_simp
      simp only [Act.put, List.setIfInBounds_toArray, List.set_cons_zero, List.set_cons_succ]
      refine AnyT.load 1 37 (.pointer (some ⟨wr.heap.size, 1, none⟩)) rfl (by kernel_rfl) (by kernel_rfl) (by kernel_rfl) (by kernel_rfl) (by kernel_rfl) (fun _ _ _ h => h) HS0.out ?_ ?_
      · intro o ho
        simp only [List.getElem?_toArray, List.getElem?_cons_succ, List.getElem?_cons_zero, Option.some.injEq] at ho
        subst ho
        refine ⟨rfl, rfl, fun w' hSw => ?_⟩
        have hs := HSI.out w' hSw
        go_split_ands
        go_simp
      simp only [Act.put, List.setIfInBounds_toArray, List.set_cons_zero, List.set_cons_succ]
      refine AnyT.load 2 38 (.agg #[.bool x0, .slice X0 x1 x2, .bool y0, .slice Y0 y1 y2]) rfl (by kernel_rfl) (by kernel_rfl) (by kernel_rfl) (by kernel_rfl) (by kernel_rfl) (fun _ _ _ h => h) HS0.out ?_ ?_
      · intro o ho
        simp only [List.getElem?_toArray, List.getElem?_cons_succ, List.getElem?_cons_zero, Option.some.injEq] at ho
        subst ho
        refine ⟨rfl, rfl, fun w' hSw => ?_⟩
        have hs := HSI.out w' hSw
        go_split_ands
        go_simp
      simp only [Act.put, List.setIfInBounds_toArray, List.set_cons_zero, List.set_cons_succ]
      refine AnyT.load 3 39 (.agg #[.bool z0, .slice Z0 z1 z2, .bool t0, .slice T0 t1 t2]) rfl (by kernel_rfl) (by kernel_rfl) (by kernel_rfl) (by kernel_rfl) (by kernel_rfl) (fun _ _ _ h => h) HS0.out ?_ ?_
      · intro o ho
        simp only [List.getElem?_toArray, List.getElem?_cons_succ, List.getElem?_cons_zero, Option.some.injEq] at ho
        subst ho
        refine ⟨rfl, rfl, fun w' hSw => ?_⟩
        have hs := HSI.out w' hSw
        go_split_ands
        go_simp
      simp only [Act.put, List.setIfInBounds_toArray, List.set_cons_zero, List.set_cons_succ]
      refine AnyT.step 4 (by kernel_rfl) ?_
      intro o ho K hK
      simp only [List.getElem?_toArray, List.getElem?_cons_succ, List.getElem?_cons_zero, Option.some.injEq] at ho
      subst ho
      go_simp
      refine (fmul_any _ _ _ _ _ (VP.out.ext (Ext.refl wq).drew) (VD.out.ext (Ext.refl wq).drew) FW.out FD.out (by decide)).mono ?_
      rintro e w5 ⟨v5, rfl, hv5, hx5⟩
      have hy5 := (Ext.refl wq).drew.trans hx5
      refine hK.out _ _ (fun _ => HSE.out _ hy5) ?_
      refine AnyT.step 5 (by kernel_rfl) ?_
      intro o ho K hK
      simp only [List.getElem?_toArray, List.getElem?_cons_succ, List.getElem?_cons_zero, Option.some.injEq] at ho
      subst ho
      go_simp
      refine (fadd_any _ _ _ _ _ (VS.out.ext hy5) hv5 FS.out (FW.out.mul FD.out) hbig).mono ?_
      rintro e w6 ⟨v6, rfl, hv6, hx6⟩
      obtain ⟨e0, E0, e1, e2, f0, F0, f1, f2, rfl, _, _⟩ := hv6.parts
      have hy6 := hy5.trans hx6
      refine hK.out _ _ (fun _ => HSE.out _ hy6) ?_
      rw [← HNX.out] at hv6
      have BS6 := Lib.hid (BS.out.ext hy6)
      obtain ⟨k0, k1, k2, k3⟩ := BS6.out.four
      obtain ⟨m0, m1, m2, m3⟩ := BS6.out.free4
      obtain ⟨W', hW', HBN, _, HE, _⟩ := Box.put BS6.out hv6 (HXQ.out.trans hy6) (by omega)
      have HW := Lib.hid hW'
      clear hW' hx5 hy5 hx6 hy6
      refine AnyT.step 6 (by kernel_rfl) ?_
      intro o ho K hK
      simp only [List.getElem?_toArray, List.getElem?_cons_succ, List.getElem?_cons_zero, Option.some.injEq] at ho
      subst ho
      go_simp
      refine hK.out _ _ (fun h => by cases h) ?_
      refine AnyT.done (by kernel_rfl) ?_
      rw [HW.out]
      clear k0 k1 k2 k3 m0 m1 m2 m3
      go_wp2_with fail
      go_roundw
      case rel => exact ⟨k + 1, by omega, by go_num, HBN, HE⟩
      case measure => simp [RowKit.intOf]; omega
    · obtain rfl : k = l.length := by omega
      rw [List.take_of_length_le (Nat.le_refl _)] at HBS
      obtain ⟨r0, R0, r1, r2, s0, S0, s1, s2, BS, VS⟩ := HBS.out.parts
      obtain ⟨k0, k1, k2, k3⟩ := BS.out.four
      have TX := Lib.hid (xtext_any _ _ wr VS.out HF.out (HT.out.ext (HE1.out.trans HXS.out)))
      rw [HTC.out] at TX
      go_wp2_with fail
      refine TX.out.mono ?_
      rintro e w3 ⟨rfl, hx3⟩
      go_wp2
      go_ret
      exact ⟨rfl, HE1.out.trans (HXS.out.trans hx3)⟩
/-- the numbers of the nearest centres -/
def assign (l : List Pt) (cs : List (List Rat)) : List Int := l.map fun x => (near x.1 cs).1
theorem assign_next {l : List Pt} {cs : List (List Rat)} {k : Nat} (h : k < l.length) : assign (l.take (k + 1)) cs = assign (l.take k) cs ++ [(near l[k].1 cs).1] := by
  unfold assign
  rw [List.take_succ_eq_append_getElem h, List.map_append]
  rfl
set_option maxRecDepth 100000 in
set_option maxHeartbeats 4000000 in
theorem assign_any (vl vc : Value) (n : Nat) (l : List Pt) (cs : List (List Rat)) (w : World) (hl : CL w vl l) (hc : PL w vc cs) (hg : Good n l cs) :
    Calls Tryz.prog 18 #[vl, vc] w fun e w' => ∃ v', e = .returned v' ∧ IL w' v' (assign l cs) ∧ Ext w w' := by
  have RD := Lib.hid (cread_any vl vc n l cs w hl hc hg)
  have HG := Lib.hid hg
  have h300 := hg.pts
  clear hl hc hg
  go_enter Tryz.func18, Tryz.ntmps18
  go_wp2_with fail
  refine RD.out.mono ?_
  rintro e w1 ⟨Ap, cp, Ac, cc, rfl, hql, hgl, hx1⟩
  have HQ := Lib.hid hql
  have HGL := Lib.hid hgl
  have hcp : cp ≤ 9223372036854775807 := by
    obtain ⟨_, _, e, _, h, _⟩ := hql.parts
    injection e with _ _ e
    subst e
    unfold maxLen at h; omega
  have HE1 := Lib.hid hx1
  clear hql hgl RD hx1
  go_wp2_with fail
  go_loopw [8, 10, 11, 12, 24] (fun v8 _ _ _ v24 wr => ∃ k : Nat, k ≤ l.length ∧ v24 = .int .i64 k ∧ Hid (OwnL tInt 1 IntR w1.heap.size wr v8 (assign (l.take k) cs)) ∧ Hid (Ext w1 wr)) (fun _ _ _ _ v24 _ => l.length - (RowKit.intOf v24).toNat)
  case atStart => exact ⟨0, Nat.zero_le _, rfl, OwnL.nil, Ext.refl _⟩
  case round =>
    obtain ⟨k, hk, rfl, HO, HXS⟩ := hrel
    have HLK : Hid ((assign (l.take k) cs).length = k) := by rw [Hid, assign, List.length_map, List.length_take, Nat.min_eq_left hk]
    by_cases hkl : k < l.length
    · have HNX := Lib.hid (assign_next (cs := cs) hkl)
      have hmem := List.getElem_mem hkl
      obtain ⟨g1, o1, Aq, cq, x0, X0, x1, x2, y0, Y0, y1, y2, rfl, _, HL1, HV1, p0, p1, p2, p3, p4⟩ := QL.get (QL.ext HQ.out HXS.out) hkl
      have NR : Hid (∀ w', Ext wr w' → Calls Tryz.prog 37 #[.slice Aq l[k].1.length cq, .slice Ac cs.length cc] w' fun e w'' => ∃ b A n c b' A' n' c', e = .returned (.tuple #[.int .i64 (near l[k].1 cs).1, .agg #[.bool b, .slice A n c, .bool b', .slice A' n' c']]) ∧ FracV w'' (.agg #[.bool b, .slice A n c, .bool b', .slice A' n' c']) (near l[k].1 cs).2 ∧ Ext w' w'') :=
        fun w' hx => near_any _ _ l[k].1 cs w' (FL.ext HL1.out hx) (GL.ext HGL.out (HXS.out.trans hx)) (fun c hc => by rw [HG.out.cn c hc, HG.out.pn _ hmem]) (by rw [HG.out.pn _ hmem]; exact HG.out.n3) (HG.out.pf _ hmem) HG.out.cf
      have HBT := Lib.hid (bt88 hk h300)
      clear hmem
      obtain ⟨A4, c4, xs4, rfl, _, _, HR4, HC4⟩ := HO.out.parts
      rw [HLK.out] at HR4 ⊢
      generalize l[k] = x at *
      obtain ⟨p, q⟩ := x
      simp only at HNX NR p0
      generalize near p cs = nb at *
      obtain ⟨ni, nd⟩ := nb
      simp only at HNX NR
      go_upto_region 8 with fail
      refine box1 (P := fun W => Code.wp _ _ _ _ W) fun W2 HX2 BP => ?_
      have i0 := BP.out.cell (i := 0) rfl
      clear p0 p1 p2 p3 p4
      go_wp2_with fail
      refine (NR.out W2 HX2.out).mono ?_
      rintro e w3 ⟨z0, Z0, z1, z2, t0, T0, t1, t2, rfl, hv3, hx3⟩
      go_upto_region 9 with fail
      refine newbox (P := fun W => Code.wp _ _ _ _ W) hv3 fun wq HXN BX2 hsz3 => ?_
      have hyq := HX2.out.trans (hx3.trans HXN.out)
      have HXQ := Lib.hid (HXS.out.trans hyq)
      have HO2 := Lib.hid (own_extR HR4.out hyq)
      have hwq := HXQ.out.size
      have hbt : (k + 1) * 8 ≤ 140737488355328 := Nat.le_trans (Nat.mul_le_mul_left _ (by decide)) HBT.out
      clear hyq hx3 hv3 i0 HX2 BP BX2 hsz3
      go_wp2_with (at_builtin; refine wpList_app1 rfl _ _ 22 rfl w1.heap.size int_slice _ _ _ rfl HO2.out #[.int .i64 ni] 1 1 rfl rfl rfl hbt hwq ?_)
      intro v' w4 ho4 hg4 _
      have HX4 := Lib.hid (HXQ.out.grownO HO2.out hg4)
      have O4 : Hid (OwnL tInt 1 IntR w1.heap.size w4 v' (assign (l.take k) cs ++ [ni])) := OwnL.snoc (R := IntR) (w := wq) (x := ni) IntR.stab (fun u hu => by cases hu) (by rw [HLK.out]; exact HO2.out) HC4.out rfl (by rw [HLK.out]; exact ho4) hg4
      clear ho4 hg4
      go_wp2
      go_roundw
      case rel => exact ⟨k + 1, by omega, by go_num, by rw [HNX.out]; exact O4, HX4⟩
      case measure => simp [RowKit.intOf]; omega
    · obtain rfl : k = l.length := by omega
      rw [List.take_of_length_le (Nat.le_refl _)] at HO
      go_wp2
      go_ret
      exact ⟨_, rfl, HO.out.ls, HE1.out.trans HXS.out⟩
set_option maxRecDepth 100000 in
set_option maxHeartbeats 4000000 in
theorem cdist_any (va vb : Value) (a b : List Rat) (w : World) (ha : RL w va a) (hb : RL w vb b) (hl : a.length = b.length) (hn : a.length ≤ 3) (fa : ∀ q ∈ a, FitQ 400 q) (fb : ∀ q ∈ b, FitQ 400 q) (hf : FitQ 400 (dist a b)) (ht : Tab w) :
    Calls Tryz.prog 27 #[va, vb] w fun e w' => e = .returned (.string ⟨(ratText (dist a b)).toArray⟩) ∧ Ext w w' := by
  have V1 := Lib.hid (fun w' (hx : Ext w w') => xvalid_any va a w' (RL.ext ha hx) fa)
  have V2 := Lib.hid (fun w' (hx : Ext w w') => xvalid_any vb b w' (RL.ext hb hx) fb)
  have L1 := Lib.hid (fun w' (hx : Ext w w') => xlist_any va a w' (RL.ext ha hx) fa (by omega))
  have L2 := Lib.hid (fun w' (hx : Ext w w') => xlist_any vb b w' (RL.ext hb hx) fb (by omega))
  have DI := Lib.hid (fun u v w' h1 h2 => xdist_any u v a b w' h1 h2 hl hn fa fb)
  have TX := Lib.hid (fun v w' h1 hx => xtext_any v (dist a b) w' h1 hf (ht.ext hx))
  obtain ⟨A, ca, rfl, _, hca, _⟩ := ha.parts
  obtain ⟨B, cb, rfl, _, hcb, _⟩ := hb.parts
  generalize ratText (dist a b) = td at *
  have hne : ((a.length : Int) != (b.length : Int)) = false := by simp [hl]
  clear ha hb fa fb hf ht hl
  go_enter Tryz.func27, Tryz.ntmps27
  go_wp2_with fail
  refine (V1.out w (Ext.refl w)).mono ?_
  rintro e w1 ⟨rfl, hx1⟩
  go_wp2_with fail
  refine (V2.out w1 hx1).mono ?_
  rintro e w2 ⟨rfl, hx2⟩
  have hy2 := hx1.trans hx2
  go_wp2_with fail
  refine (L1.out w2 hy2).mono ?_
  rintro e w3 ⟨v3, rfl, hv3, hx3⟩
  have hy3 := hy2.trans hx3
  go_wp2_with fail
  refine (L2.out w3 hy3).mono ?_
  rintro e w4 ⟨v4, rfl, hv4, hx4⟩
  have hy4 := hy3.trans hx4
  go_wp2_with fail
  refine (DI.out v3 v4 w4 (FL.ext hv3 hx4) hv4).mono ?_
  rintro e w5 ⟨v5, rfl, hv5, hx5⟩
  have hy5 := hy4.trans hx5
  go_wp2_with fail
  refine (TX.out v5 w5 hv5 hy5).mono ?_
  rintro e w6 ⟨rfl, hx6⟩
  go_wp2
  go_ret
  exact ⟨rfl, hy5.trans hx6⟩
end Go.Proofs.YtlfcicfebhjchaaGreatDoor
