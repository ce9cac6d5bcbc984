/- corepoint.line: part, cost. -/
import Derived.Test.YtkhmfgkbobblmaaGreatDoorLay
namespace Go.Proofs.YtkhmfgkbobblmaaGreatDoor
open Go.RowKit Go.Lib

theorem box4 {P : World → Prop} {w : World} {t1 t2 t3 t4 : TypeId} {l1 l2 l3 l4 : List Value} (h : ∀ W, Hid (Ext w W) → Hid (Blk W w.heap.size t1 l1) → Hid (Blk W (w.heap.size + 1) t2 l2) → Hid (Blk W (w.heap.size + 1 + 1) t3 l3) → Hid (Blk W (w.heap.size + 1 + 1 + 1) t4 l4) → P W) :
    P ((((w.alloc (.cells l1.toArray t1)).alloc (.cells l2.toArray t2)).alloc (.cells l3.toArray t3)).alloc (.cells l4.toArray t4)) :=
  h _ (((((Ext.refl w).alloc _).alloc _).alloc _).alloc _) ((((Blk.new w t1 l1).alloc _).alloc _).alloc _) (((Blk.new' (w.alloc _) t2 l2 _ (by simp)).alloc _).alloc _) ((Blk.new' ((w.alloc _).alloc _) t3 l3 _ (by simp)).alloc _) (Blk.new' (((w.alloc _).alloc _).alloc _) t4 l4 _ (by simp))
theorem numpos {q : Rat} (h : 0 < q) : 0 < q.num := by
  have h1 := (@Rat.num_nonneg q).2 (Rat.le_of_lt h)
  have h2 : q.num ≠ 0 := fun e => by rw [Rat.num_eq_zero.1 e] at h; exact absurd h (by grind)
  omega
theorem box_load {w : World} {g : Nat} {q : Rat} (h : Box w g q) : ∃ v, (loadVar tFrac ⟨g, 0, none⟩).run Tryz.prog w = .ok v w ∧ FracV w v q := by
  obtain ⟨b, A, n, c, b', A', n', c', h1, h2⟩ := h
  exact ⟨_, run_loadVar_row w g tFrac tFrac #[.bool b, .slice A n c, .bool b', .slice A' n' c'] (0, 0) _ h1 Tryz.underlying78 rfl (by kernel_rfl), h2⟩
theorem ret_3frac {fn : Func} {t u s g h k : Nat} {w : World} {p q r : Rat} {a : Act} {R : Ending → World → Prop} (hres : fn.results = #[.cell t tFrac, .cell u tFrac, .cell s tFrac]) (ht : a.tmps.getD t undef = .pointer (some ⟨g, 0, none⟩)) (hu : a.tmps.getD u undef = .pointer (some ⟨h, 0, none⟩)) (hs : a.tmps.getD s undef = .pointer (some ⟨k, 0, none⟩)) (hd : a.defers = [])
    (hB : Box w g p) (hC : Box w h q) (hD : Box w k r) (hR : ∀ x y z, FracV w x p → FracV w y q → FracV w z r → R (.returned (.tuple #[x, y, z])) w) : bodyPost Tryz.prog fn R .ret a w := by
  obtain ⟨x, hx, fx⟩ := box_load hB
  obtain ⟨y, hy, fy⟩ := box_load hC
  obtain ⟨z, hz, fz⟩ := box_load hD
  have h1 : a.tmps[t]?.getD undef = .pointer (some ⟨g, 0, none⟩) := by simpa using ht
  have h2 : a.tmps[u]?.getD undef = .pointer (some ⟨h, 0, none⟩) := by simpa using hu
  have h3 : a.tmps[s]?.getD undef = .pointer (some ⟨k, 0, none⟩) := by simpa using hs
  refine bodyPost_ret (v := .tuple #[x, y, z]) ?_ hd (hR x y z fx fy fz)
  simp [results, hres, h1, h2, h3, asAddr, hx, hy, hz]
set_option maxRecDepth 100000 in
set_option maxHeartbeats 2000000 in
theorem part_any (v : Value) (l : List Ms) (i k : Nat) (w : World) (h : LnV w v l) (hm : MsOk l) (hik : i ≤ k) (hk : k ≤ l.length) :
    Calls Tryz.prog 40 #[v, .int .i64 i, .int .i64 k] w fun e w' => ∃ x y z, e = .returned (.tuple #[x, y, z]) ∧ FracV w' x (M0 (seg l i k)) ∧ FracV w' y (M1 (seg l i k)) ∧ FracV w' z (M2 (seg l i k)) ∧ Ext w w' := by
  obtain ⟨A0, c0, A1, c1, A2, c2, rfl, h0, h1, h2⟩ := h
  have hn8 := hm.1
  have F0k := Lib.hid (tb_fit hm 0 k (by decide))
  have F0i := Lib.hid (tb_fit hm 0 i (by decide))
  have F1k := Lib.hid (tb_fit hm 1 k (by decide))
  have F1i := Lib.hid (tb_fit hm 1 i (by decide))
  have F2k := Lib.hid (tb_fit hm 2 k (by decide))
  have F2i := Lib.hid (tb_fit hm 2 i (by decide))
  have E0 := Lib.hid (tb0 (l := l) hik)
  have E1 := Lib.hid (tb1 (l := l) hik)
  have E2 := Lib.hid (tb2 (l := l) hik)
  obtain ⟨-, -, hc0⟩ := cap_le h0
  obtain ⟨-, -, hc1⟩ := cap_le h1
  obtain ⟨-, -, hc2⟩ := cap_le h2
  clear hm
  obtain ⟨g0, o0, u0, uA, u1, u2, u3, uB, u4, u5, rfl, _, Vu, up, uq, ur, ut⟩ := FL.get h0 (i := k) (by rw [tbl_length]; omega)
  obtain ⟨g', o', b0, bA, b1, b2, b3, bB, b4, b5, e, _, Vb, bp, bq, br, bt⟩ := FL.get h0 (i := i) (by rw [tbl_length]; omega)
  injection e with e
  injection e with e1 e2
  subst e1 e2
  rw [tbl_get l 0 l.length (by omega)] at Vu Vb
  obtain ⟨g1, o1, m0, mA, m1, m2, m3, mB, m4, m5, rfl, _, Vm, mp, mq, mr, mt⟩ := FL.get h1 (i := k) (by rw [tbl_length]; omega)
  obtain ⟨g', o', d0, dA, d1, d2, d3, dB, d4, d5, e, _, Vd, dp, dq, dr, dt⟩ := FL.get h1 (i := i) (by rw [tbl_length]; omega)
  injection e with e
  injection e with e1 e2
  subst e1 e2
  rw [tbl_get l 1 l.length (by omega)] at Vm Vd
  obtain ⟨g2, o2, f0, fA, f1, f2, f3, fB, f4, f5, rfl, _, Vf, fp, fq, fr, ft⟩ := FL.get h2 (i := k) (by rw [tbl_length]; omega)
  obtain ⟨g', o', j0, jA, j1, j2, j3, jB, j4, j5, e, _, Vj, jp, jq, jr, jt⟩ := FL.get h2 (i := i) (by rw [tbl_length]; omega)
  injection e with e
  injection e with e1 e2
  subst e1 e2
  rw [tbl_get l 2 l.length (by omega)] at Vf Vj
  have HC := Lib.hid (fun w' (hx : Ext w w') => (show (w'.cell? ⟨g0, o0 + k * 4, none⟩ = some (.bool u0) ∧ w'.cell? ⟨g0, o0 + k * 4 + 1, none⟩ = some (.slice uA u1 u2) ∧ w'.cell? ⟨g0, o0 + k * 4 + 2, none⟩ = some (.bool u3) ∧ w'.cell? ⟨g0, o0 + k * 4 + 3, none⟩ = some (.slice uB u4 u5)) ∧ (w'.cell? ⟨g0, o0 + i * 4, none⟩ = some (.bool b0) ∧ w'.cell? ⟨g0, o0 + i * 4 + 1, none⟩ = some (.slice bA b1 b2) ∧ w'.cell? ⟨g0, o0 + i * 4 + 2, none⟩ = some (.bool b3) ∧ w'.cell? ⟨g0, o0 + i * 4 + 3, none⟩ = some (.slice bB b4 b5)) ∧ (w'.cell? ⟨g1, o1 + k * 4, none⟩ = some (.bool m0) ∧ w'.cell? ⟨g1, o1 + k * 4 + 1, none⟩ = some (.slice mA m1 m2) ∧ w'.cell? ⟨g1, o1 + k * 4 + 2, none⟩ = some (.bool m3) ∧ w'.cell? ⟨g1, o1 + k * 4 + 3, none⟩ = some (.slice mB m4 m5)) ∧ (w'.cell? ⟨g1, o1 + i * 4, none⟩ = some (.bool d0) ∧ w'.cell? ⟨g1, o1 + i * 4 + 1, none⟩ = some (.slice dA d1 d2) ∧ w'.cell? ⟨g1, o1 + i * 4 + 2, none⟩ = some (.bool d3) ∧ w'.cell? ⟨g1, o1 + i * 4 + 3, none⟩ = some (.slice dB d4 d5)) ∧ (w'.cell? ⟨g2, o2 + k * 4, none⟩ = some (.bool f0) ∧ w'.cell? ⟨g2, o2 + k * 4 + 1, none⟩ = some (.slice fA f1 f2) ∧ w'.cell? ⟨g2, o2 + k * 4 + 2, none⟩ = some (.bool f3) ∧ w'.cell? ⟨g2, o2 + k * 4 + 3, none⟩ = some (.slice fB f4 f5)) ∧ (w'.cell? ⟨g2, o2 + i * 4, none⟩ = some (.bool j0) ∧ w'.cell? ⟨g2, o2 + i * 4 + 1, none⟩ = some (.slice jA j1 j2) ∧ w'.cell? ⟨g2, o2 + i * 4 + 2, none⟩ = some (.bool j3) ∧ w'.cell? ⟨g2, o2 + i * 4 + 3, none⟩ = some (.slice jB j4 j5)) from
    ⟨⟨(hx.cell (by assumption)).trans up, (hx.cell (by assumption)).trans uq, (hx.cell (by assumption)).trans ur, (hx.cell (by assumption)).trans ut⟩, ⟨(hx.cell (by assumption)).trans bp, (hx.cell (by assumption)).trans bq, (hx.cell (by assumption)).trans br, (hx.cell (by assumption)).trans bt⟩,
     ⟨(hx.cell (by assumption)).trans mp, (hx.cell (by assumption)).trans mq, (hx.cell (by assumption)).trans mr, (hx.cell (by assumption)).trans mt⟩, ⟨(hx.cell (by assumption)).trans dp, (hx.cell (by assumption)).trans dq, (hx.cell (by assumption)).trans dr, (hx.cell (by assumption)).trans dt⟩,
     ⟨(hx.cell (by assumption)).trans fp, (hx.cell (by assumption)).trans fq, (hx.cell (by assumption)).trans fr, (hx.cell (by assumption)).trans ft⟩, ⟨(hx.cell (by assumption)).trans jp, (hx.cell (by assumption)).trans jq, (hx.cell (by assumption)).trans jr, (hx.cell (by assumption)).trans jt⟩⟩))
  clear up uq ur ut bp bq br bt mp mq mr mt dp dq dr dt fp fq fr ft jp jq jr jt h0 h1 h2
  go_enter Tryz.func40, Tryz.ntmps40
  go_upto_region 1 with fail
  refine box4 (P := fun W => Code.wp _ _ _ _ W) fun W HX0 BL B6 B7 B8 => ?_
  have HSI : Hid (∀ w', Ext W w' → (w'.cell? ⟨w.heap.size, 0, none⟩ = some (.slice (some ⟨g0, o0, none⟩) (l.length + 1) c0) ∧ w'.cell? ⟨w.heap.size, 1, none⟩ = some (.slice (some ⟨g1, o1, none⟩) (l.length + 1) c1) ∧ w'.cell? ⟨w.heap.size, 2, none⟩ = some (.slice (some ⟨g2, o2, none⟩) (l.length + 1) c2)) ∧ (w'.cell? ⟨g0, o0 + k * 4, none⟩ = some (.bool u0) ∧ w'.cell? ⟨g0, o0 + k * 4 + 1, none⟩ = some (.slice uA u1 u2) ∧ w'.cell? ⟨g0, o0 + k * 4 + 2, none⟩ = some (.bool u3) ∧ w'.cell? ⟨g0, o0 + k * 4 + 3, none⟩ = some (.slice uB u4 u5)) ∧ (w'.cell? ⟨g0, o0 + i * 4, none⟩ = some (.bool b0) ∧ w'.cell? ⟨g0, o0 + i * 4 + 1, none⟩ = some (.slice bA b1 b2) ∧ w'.cell? ⟨g0, o0 + i * 4 + 2, none⟩ = some (.bool b3) ∧ w'.cell? ⟨g0, o0 + i * 4 + 3, none⟩ = some (.slice bB b4 b5)) ∧ (w'.cell? ⟨g1, o1 + k * 4, none⟩ = some (.bool m0) ∧ w'.cell? ⟨g1, o1 + k * 4 + 1, none⟩ = some (.slice mA m1 m2) ∧ w'.cell? ⟨g1, o1 + k * 4 + 2, none⟩ = some (.bool m3) ∧ w'.cell? ⟨g1, o1 + k * 4 + 3, none⟩ = some (.slice mB m4 m5)) ∧ (w'.cell? ⟨g1, o1 + i * 4, none⟩ = some (.bool d0) ∧ w'.cell? ⟨g1, o1 + i * 4 + 1, none⟩ = some (.slice dA d1 d2) ∧ w'.cell? ⟨g1, o1 + i * 4 + 2, none⟩ = some (.bool d3) ∧ w'.cell? ⟨g1, o1 + i * 4 + 3, none⟩ = some (.slice dB d4 d5)) ∧ (w'.cell? ⟨g2, o2 + k * 4, none⟩ = some (.bool f0) ∧ w'.cell? ⟨g2, o2 + k * 4 + 1, none⟩ = some (.slice fA f1 f2) ∧ w'.cell? ⟨g2, o2 + k * 4 + 2, none⟩ = some (.bool f3) ∧ w'.cell? ⟨g2, o2 + k * 4 + 3, none⟩ = some (.slice fB f4 f5)) ∧ (w'.cell? ⟨g2, o2 + i * 4, none⟩ = some (.bool j0) ∧ w'.cell? ⟨g2, o2 + i * 4 + 1, none⟩ = some (.slice jA j1 j2) ∧ w'.cell? ⟨g2, o2 + i * 4 + 2, none⟩ = some (.bool j3) ∧ w'.cell? ⟨g2, o2 + i * 4 + 3, none⟩ = some (.slice jB j4 j5))) :=
    fun w' hx => ⟨⟨(BL.out.ext hx).cell (i := 0) rfl, (BL.out.ext hx).cell (i := 1) rfl, (BL.out.ext hx).cell (i := 2) rfl⟩, HC.out w' (HX0.out.trans hx)⟩
  have HS0 : Hid (Ext W W.drew) := (Ext.refl W).drew
  have hgW : w.heap.size + 1 + 1 + 1 < W.heap.size := B8.out.lt
  refine AnyT.start (S := fun w' => Ext W w') (T := fun j => decide (33 ≤ j)) (by kernel_rfl) ?_
  have hyc : Ext W W.drew := HS0.out
  have VA := Lib.hid (Vu.out.ext (HX0.out.trans hyc))
  have VB := Lib.hid (Vb.out.ext (HX0.out.trans hyc))
  have VC := Lib.hid (Vm.out.ext (HX0.out.trans hyc))
  have VD := Lib.hid (Vd.out.ext (HX0.out.trans hyc))
  have VF := Lib.hid (Vf.out.ext (HX0.out.trans hyc))
  have VH := Lib.hid (Vj.out.ext (HX0.out.trans hyc))
  obtain ⟨wd, hwd⟩ : ∃ wd : World, W.drew = wd := ⟨_, rfl⟩
  rw [hwd] at VA VB VC VD VF VH hyc HS0 ⊢
  clear hwd Vu Vb Vm Vd Vf Vj HC
  refine AnyT.ld 0 9 (.pointer (some ⟨w.heap.size, 0, none⟩)) _ rfl rfl (by kernel_rfl) (fun _ _ _ h => h) HS0.out rfl ?_ ?_
  focus (intro w' hSw; have hs := HSI.out w' hSw; go_split_ands; go_simp; try (first | exact rfl | omega | go_num | (intro hbd; exfalso; omega)))
  simp only [Act.put, List.setIfInBounds_toArray, List.set_cons_zero, List.set_cons_succ]
  refine AnyT.ld 1 10 (.slice (some ⟨g0, o0, none⟩) (l.length + 1) c0) _ rfl rfl (by kernel_rfl) (fun _ _ _ h => h) HS0.out rfl ?_ ?_
  focus (intro w' hSw; have hs := HSI.out w' hSw; go_split_ands; go_simp; try (first | exact rfl | omega | go_num | (intro hbd; exfalso; omega)))
  simp only [Act.put, List.setIfInBounds_toArray, List.set_cons_zero, List.set_cons_succ]
  refine AnyT.ld 2 11 (.int .i64 k) _ rfl rfl (by kernel_rfl) (fun _ _ _ h => h) HS0.out rfl ?_ ?_
  focus (intro w' hSw; have hs := HSI.out w' hSw; go_split_ands; go_simp; try (first | exact rfl | omega | go_num | (intro hbd; exfalso; omega)))
  simp only [Act.put, List.setIfInBounds_toArray, List.set_cons_zero, List.set_cons_succ]
  refine AnyT.ld 3 12 (.pointer (some ⟨g0, o0 + k * 4, none⟩)) _ rfl rfl (by kernel_rfl) (fun _ _ _ h => h) HS0.out rfl ?_ ?_
  focus (intro w' hSw; have hs := HSI.out w' hSw; go_split_ands; go_simp; try (first | exact rfl | omega | go_num | (intro hbd; exfalso; omega)))
  simp only [Act.put, List.setIfInBounds_toArray, List.set_cons_zero, List.set_cons_succ]
  refine AnyT.ld 4 13 (.agg #[.bool u0, .slice uA u1 u2, .bool u3, .slice uB u4 u5]) _ rfl rfl (by kernel_rfl) (fun _ _ _ h => h) HS0.out rfl ?_ ?_
  focus (intro w' hSw; have hs := HSI.out w' hSw; go_split_ands; go_simp; try (first | exact rfl | omega | go_num | (intro hbd; exfalso; omega)))
  simp only [Act.put, List.setIfInBounds_toArray, List.set_cons_zero, List.set_cons_succ]
  refine AnyT.ld 5 14 (.pointer (some ⟨w.heap.size, 0, none⟩)) _ rfl rfl (by kernel_rfl) (fun _ _ _ h => h) HS0.out rfl ?_ ?_
  focus (intro w' hSw; have hs := HSI.out w' hSw; go_split_ands; go_simp; try (first | exact rfl | omega | go_num | (intro hbd; exfalso; omega)))
  simp only [Act.put, List.setIfInBounds_toArray, List.set_cons_zero, List.set_cons_succ]
  refine AnyT.ld 6 15 (.slice (some ⟨g0, o0, none⟩) (l.length + 1) c0) _ rfl rfl (by kernel_rfl) (fun _ _ _ h => h) HS0.out rfl ?_ ?_
  focus (intro w' hSw; have hs := HSI.out w' hSw; go_split_ands; go_simp; try (first | exact rfl | omega | go_num | (intro hbd; exfalso; omega)))
  simp only [Act.put, List.setIfInBounds_toArray, List.set_cons_zero, List.set_cons_succ]
  refine AnyT.ld 7 16 (.int .i64 i) _ rfl rfl (by kernel_rfl) (fun _ _ _ h => h) HS0.out rfl ?_ ?_
  focus (intro w' hSw; have hs := HSI.out w' hSw; go_split_ands; go_simp; try (first | exact rfl | omega | go_num | (intro hbd; exfalso; omega)))
  simp only [Act.put, List.setIfInBounds_toArray, List.set_cons_zero, List.set_cons_succ]
  refine AnyT.ld 8 17 (.pointer (some ⟨g0, o0 + i * 4, none⟩)) _ rfl rfl (by kernel_rfl) (fun _ _ _ h => h) HS0.out rfl ?_ ?_
  focus (intro w' hSw; have hs := HSI.out w' hSw; go_split_ands; go_simp; try (first | exact rfl | omega | go_num | (intro hbd; exfalso; omega)))
  simp only [Act.put, List.setIfInBounds_toArray, List.set_cons_zero, List.set_cons_succ]
  refine AnyT.ld 9 18 (.agg #[.bool b0, .slice bA b1 b2, .bool b3, .slice bB b4 b5]) _ rfl rfl (by kernel_rfl) (fun _ _ _ h => h) HS0.out rfl ?_ ?_
  focus (intro w' hSw; have hs := HSI.out w' hSw; go_split_ands; go_simp; try (first | exact rfl | omega | go_num | (intro hbd; exfalso; omega)))
  simp only [Act.put, List.setIfInBounds_toArray, List.set_cons_zero, List.set_cons_succ]
  refine AnyT.ld 11 20 (.pointer (some ⟨w.heap.size, 1, none⟩)) _ rfl rfl (by kernel_rfl) (fun _ _ _ h => h) HS0.out rfl ?_ ?_
  focus (intro w' hSw; have hs := HSI.out w' hSw; go_split_ands; go_simp; try (first | exact rfl | omega | go_num | (intro hbd; exfalso; omega)))
  simp only [Act.put, List.setIfInBounds_toArray, List.set_cons_zero, List.set_cons_succ]
  refine AnyT.ld 12 21 (.slice (some ⟨g1, o1, none⟩) (l.length + 1) c1) _ rfl rfl (by kernel_rfl) (fun _ _ _ h => h) HS0.out rfl ?_ ?_
  focus (intro w' hSw; have hs := HSI.out w' hSw; go_split_ands; go_simp; try (first | exact rfl | omega | go_num | (intro hbd; exfalso; omega)))
  simp only [Act.put, List.setIfInBounds_toArray, List.set_cons_zero, List.set_cons_succ]
  refine AnyT.ld 13 22 (.int .i64 k) _ rfl rfl (by kernel_rfl) (fun _ _ _ h => h) HS0.out rfl ?_ ?_
  focus (intro w' hSw; have hs := HSI.out w' hSw; go_split_ands; go_simp; try (first | exact rfl | omega | go_num | (intro hbd; exfalso; omega)))
  simp only [Act.put, List.setIfInBounds_toArray, List.set_cons_zero, List.set_cons_succ]
  refine AnyT.ld 14 23 (.pointer (some ⟨g1, o1 + k * 4, none⟩)) _ rfl rfl (by kernel_rfl) (fun _ _ _ h => h) HS0.out rfl ?_ ?_
  focus (intro w' hSw; have hs := HSI.out w' hSw; go_split_ands; go_simp; try (first | exact rfl | omega | go_num | (intro hbd; exfalso; omega)))
  simp only [Act.put, List.setIfInBounds_toArray, List.set_cons_zero, List.set_cons_succ]
  refine AnyT.ld 15 24 (.agg #[.bool m0, .slice mA m1 m2, .bool m3, .slice mB m4 m5]) _ rfl rfl (by kernel_rfl) (fun _ _ _ h => h) HS0.out rfl ?_ ?_
  focus (intro w' hSw; have hs := HSI.out w' hSw; go_split_ands; go_simp; try (first | exact rfl | omega | go_num | (intro hbd; exfalso; omega)))
  simp only [Act.put, List.setIfInBounds_toArray, List.set_cons_zero, List.set_cons_succ]
  refine AnyT.ld 16 25 (.pointer (some ⟨w.heap.size, 1, none⟩)) _ rfl rfl (by kernel_rfl) (fun _ _ _ h => h) HS0.out rfl ?_ ?_
  focus (intro w' hSw; have hs := HSI.out w' hSw; go_split_ands; go_simp; try (first | exact rfl | omega | go_num | (intro hbd; exfalso; omega)))
  simp only [Act.put, List.setIfInBounds_toArray, List.set_cons_zero, List.set_cons_succ]
  refine AnyT.ld 17 26 (.slice (some ⟨g1, o1, none⟩) (l.length + 1) c1) _ rfl rfl (by kernel_rfl) (fun _ _ _ h => h) HS0.out rfl ?_ ?_
  focus (intro w' hSw; have hs := HSI.out w' hSw; go_split_ands; go_simp; try (first | exact rfl | omega | go_num | (intro hbd; exfalso; omega)))
  simp only [Act.put, List.setIfInBounds_toArray, List.set_cons_zero, List.set_cons_succ]
  refine AnyT.ld 18 27 (.int .i64 i) _ rfl rfl (by kernel_rfl) (fun _ _ _ h => h) HS0.out rfl ?_ ?_
  focus (intro w' hSw; have hs := HSI.out w' hSw; go_split_ands; go_simp; try (first | exact rfl | omega | go_num | (intro hbd; exfalso; omega)))
  simp only [Act.put, List.setIfInBounds_toArray, List.set_cons_zero, List.set_cons_succ]
  refine AnyT.ld 19 28 (.pointer (some ⟨g1, o1 + i * 4, none⟩)) _ rfl rfl (by kernel_rfl) (fun _ _ _ h => h) HS0.out rfl ?_ ?_
  focus (intro w' hSw; have hs := HSI.out w' hSw; go_split_ands; go_simp; try (first | exact rfl | omega | go_num | (intro hbd; exfalso; omega)))
  simp only [Act.put, List.setIfInBounds_toArray, List.set_cons_zero, List.set_cons_succ]
  refine AnyT.ld 20 29 (.agg #[.bool d0, .slice dA d1 d2, .bool d3, .slice dB d4 d5]) _ rfl rfl (by kernel_rfl) (fun _ _ _ h => h) HS0.out rfl ?_ ?_
  focus (intro w' hSw; have hs := HSI.out w' hSw; go_split_ands; go_simp; try (first | exact rfl | omega | go_num | (intro hbd; exfalso; omega)))
  simp only [Act.put, List.setIfInBounds_toArray, List.set_cons_zero, List.set_cons_succ]
  refine AnyT.ld 22 31 (.pointer (some ⟨w.heap.size, 2, none⟩)) _ rfl rfl (by kernel_rfl) (fun _ _ _ h => h) HS0.out rfl ?_ ?_
  focus (intro w' hSw; have hs := HSI.out w' hSw; go_split_ands; go_simp; try (first | exact rfl | omega | go_num | (intro hbd; exfalso; omega)))
  simp only [Act.put, List.setIfInBounds_toArray, List.set_cons_zero, List.set_cons_succ]
  refine AnyT.ld 23 32 (.slice (some ⟨g2, o2, none⟩) (l.length + 1) c2) _ rfl rfl (by kernel_rfl) (fun _ _ _ h => h) HS0.out rfl ?_ ?_
  focus (intro w' hSw; have hs := HSI.out w' hSw; go_split_ands; go_simp; try (first | exact rfl | omega | go_num | (intro hbd; exfalso; omega)))
  simp only [Act.put, List.setIfInBounds_toArray, List.set_cons_zero, List.set_cons_succ]
  refine AnyT.ld 24 33 (.int .i64 k) _ rfl rfl (by kernel_rfl) (fun _ _ _ h => h) HS0.out rfl ?_ ?_
  focus (intro w' hSw; have hs := HSI.out w' hSw; go_split_ands; go_simp; try (first | exact rfl | omega | go_num | (intro hbd; exfalso; omega)))
  simp only [Act.put, List.setIfInBounds_toArray, List.set_cons_zero, List.set_cons_succ]
  refine AnyT.ld 25 34 (.pointer (some ⟨g2, o2 + k * 4, none⟩)) _ rfl rfl (by kernel_rfl) (fun _ _ _ h => h) HS0.out rfl ?_ ?_
  focus (intro w' hSw; have hs := HSI.out w' hSw; go_split_ands; go_simp; try (first | exact rfl | omega | go_num | (intro hbd; exfalso; omega)))
  simp only [Act.put, List.setIfInBounds_toArray, List.set_cons_zero, List.set_cons_succ]
  refine AnyT.ld 26 35 (.agg #[.bool f0, .slice fA f1 f2, .bool f3, .slice fB f4 f5]) _ rfl rfl (by kernel_rfl) (fun _ _ _ h => h) HS0.out rfl ?_ ?_
  focus (intro w' hSw; have hs := HSI.out w' hSw; go_split_ands; go_simp; try (first | exact rfl | omega | go_num | (intro hbd; exfalso; omega)))
  simp only [Act.put, List.setIfInBounds_toArray, List.set_cons_zero, List.set_cons_succ]
  refine AnyT.ld 27 36 (.pointer (some ⟨w.heap.size, 2, none⟩)) _ rfl rfl (by kernel_rfl) (fun _ _ _ h => h) HS0.out rfl ?_ ?_
  focus (intro w' hSw; have hs := HSI.out w' hSw; go_split_ands; go_simp; try (first | exact rfl | omega | go_num | (intro hbd; exfalso; omega)))
  simp only [Act.put, List.setIfInBounds_toArray, List.set_cons_zero, List.set_cons_succ]
  refine AnyT.ld 28 37 (.slice (some ⟨g2, o2, none⟩) (l.length + 1) c2) _ rfl rfl (by kernel_rfl) (fun _ _ _ h => h) HS0.out rfl ?_ ?_
  focus (intro w' hSw; have hs := HSI.out w' hSw; go_split_ands; go_simp; try (first | exact rfl | omega | go_num | (intro hbd; exfalso; omega)))
  simp only [Act.put, List.setIfInBounds_toArray, List.set_cons_zero, List.set_cons_succ]
  refine AnyT.ld 29 38 (.int .i64 i) _ rfl rfl (by kernel_rfl) (fun _ _ _ h => h) HS0.out rfl ?_ ?_
  focus (intro w' hSw; have hs := HSI.out w' hSw; go_split_ands; go_simp; try (first | exact rfl | omega | go_num | (intro hbd; exfalso; omega)))
  simp only [Act.put, List.setIfInBounds_toArray, List.set_cons_zero, List.set_cons_succ]
  refine AnyT.ld 30 39 (.pointer (some ⟨g2, o2 + i * 4, none⟩)) _ rfl rfl (by kernel_rfl) (fun _ _ _ h => h) HS0.out rfl ?_ ?_
  focus (intro w' hSw; have hs := HSI.out w' hSw; go_split_ands; go_simp; try (first | exact rfl | omega | go_num | (intro hbd; exfalso; omega)))
  simp only [Act.put, List.setIfInBounds_toArray, List.set_cons_zero, List.set_cons_succ]
  refine AnyT.ld 31 40 (.agg #[.bool j0, .slice jA j1 j2, .bool j3, .slice jB j4 j5]) _ rfl rfl (by kernel_rfl) (fun _ _ _ h => h) HS0.out rfl ?_ ?_
  focus (intro w' hSw; have hs := HSI.out w' hSw; go_split_ands; go_simp; try (first | exact rfl | omega | go_num | (intro hbd; exfalso; omega)))
  simp only [Act.put, List.setIfInBounds_toArray, List.set_cons_zero, List.set_cons_succ]
  refine AnyT.step 10 (by kernel_rfl) ?_
  intro o ho K hK
  simp only [List.getElem?_toArray, List.getElem?_cons_succ, List.getElem?_cons_zero, Option.some.injEq] at ho
  subst ho
  go_simp
  refine (fsub_any _ _ _ _ _ VA.out VB.out F0k.out F0i.out (by decide)).mono ?_
  rintro e w1 ⟨v1, rfl, hv1, hx1⟩
  rw [E0.out] at hv1
  have hy1 := hyc.trans hx1
  refine hK.out _ _ (fun _ => hy1) ?_
  refine AnyT.step 21 (by kernel_rfl) ?_
  intro o ho K hK
  simp only [List.getElem?_toArray, List.getElem?_cons_succ, List.getElem?_cons_zero, Option.some.injEq] at ho
  subst ho
  go_simp
  refine (fsub_any _ _ _ _ _ (VC.out.ext hx1) (VD.out.ext hx1) F1k.out F1i.out (by decide)).mono ?_
  rintro e w2 ⟨v2, rfl, hv2, hx2⟩
  rw [E1.out] at hv2
  have hy2 := hy1.trans hx2
  refine hK.out _ _ (fun _ => hy2) ?_
  refine AnyT.step 32 (by kernel_rfl) ?_
  intro o ho K hK
  simp only [List.getElem?_toArray, List.getElem?_cons_succ, List.getElem?_cons_zero, Option.some.injEq] at ho
  subst ho
  go_simp
  refine (fsub_any _ _ _ _ _ (VF.out.ext (hx1.trans hx2)) (VH.out.ext (hx1.trans hx2)) F2k.out F2i.out (by decide)).mono ?_
  rintro e w3 ⟨v3, rfl, hv3, hx3⟩
  rw [E2.out] at hv3
  have hy3 := hy2.trans hx3
  refine hK.out _ _ (fun _ => hy3) ?_
  have hv1 := hv1.ext (hx2.trans hx3)
  have hv2 := hv2.ext hx3
  obtain ⟨a0', aA', a1', a2', a3', aB', a4', a5', rfl, _, _⟩ := hv1.parts
  obtain ⟨b0', bA', b1', b2', b3', bB', b4', b5', rfl, _, _⟩ := hv2.parts
  obtain ⟨d0', dA', d1', d2', d3', dB', d4', d5', rfl, _, _⟩ := hv3.parts
  have HV1 := Lib.hid hv1
  have HV2 := Lib.hid hv2
  have HV3 := Lib.hid hv3
  have HX3 := Lib.hid (HX0.out.trans hy3)
  have B63 := Lib.hid (B6.out.ext hy3)
  have B73 := Lib.hid (B7.out.ext hy3)
  have B83 := Lib.hid (B8.out.ext hy3)
  clear hv1 hv2 hv3 hx1 hx2 hx3 hy1 hy2 hy3 hyc VA VB VC VD VF VH B6 B7 B8
  obtain ⟨k0, k1, k2, k3⟩ := B63.out.four
  obtain ⟨m0, m1, m2, m3⟩ := B63.out.free4
  obtain ⟨W1, hW1, C6, K6, X6, N6⟩ := Box.put B63.out HV1.out HX3.out (by omega)
  have HW1 := Lib.hid hW1
  have B74 := Lib.hid (B73.out.only N6.out (by omega))
  have B84 := Lib.hid (B83.out.only N6.out (by omega))
  have HV24 := Lib.hid (HV2.out.keep K6.out)
  have HV34 := Lib.hid (HV3.out.keep K6.out)
  clear hW1
  refine AnyT.step 33 (by kernel_rfl) ?_
  intro o ho K hK
  simp only [List.getElem?_toArray, List.getElem?_cons_succ, List.getElem?_cons_zero, Option.some.injEq] at ho
  subst ho
  go_simp
  refine hK.out _ _ (fun h => by cases h) ?_
  rw [HW1.out]
  clear k0 k1 k2 k3 m0 m1 m2 m3
  obtain ⟨k0, k1, k2, k3⟩ := B74.out.four
  obtain ⟨m0, m1, m2, m3⟩ := B74.out.free4
  obtain ⟨W2, hW2, C7, K7, X7, N7⟩ := Box.put B74.out HV24.out X6.out (by omega)
  have HW2 := Lib.hid hW2
  have C67 := Lib.hid (C6.out.far N7.out (by omega) K7.out)
  have B85 := Lib.hid (B84.out.only N7.out (by omega))
  have HV35 := Lib.hid (HV34.out.keep K7.out)
  clear hW2
  refine AnyT.step 34 (by kernel_rfl) ?_
  intro o ho K hK
  simp only [List.getElem?_toArray, List.getElem?_cons_succ, List.getElem?_cons_zero, Option.some.injEq] at ho
  subst ho
  go_simp
  refine hK.out _ _ (fun h => by cases h) ?_
  rw [HW2.out]
  clear k0 k1 k2 k3 m0 m1 m2 m3
  obtain ⟨k0, k1, k2, k3⟩ := B85.out.four
  obtain ⟨m0, m1, m2, m3⟩ := B85.out.free4
  obtain ⟨W3, hW3, C8, K8, X8, N8⟩ := Box.put B85.out HV35.out X7.out (by omega)
  have HW3 := Lib.hid hW3
  have C68 := Lib.hid (C67.out.far N8.out (by omega) K8.out)
  have C78 := Lib.hid (C7.out.far N8.out (by omega) K8.out)
  clear hW3
  refine AnyT.step 35 (by kernel_rfl) ?_
  intro o ho K hK
  simp only [List.getElem?_toArray, List.getElem?_cons_succ, List.getElem?_cons_zero, Option.some.injEq] at ho
  subst ho
  go_simp
  refine hK.out _ _ (fun h => by cases h) ?_
  refine AnyT.done (by kernel_rfl) ?_
  rw [HW3.out]
  clear k0 k1 k2 k3 m0 m1 m2 m3
  go_wp2_with fail
  exact ret_3frac rfl rfl rfl rfl rfl C68.out C78.out C8.out (fun x y z h1 h2 h3 => ⟨x, y, z, rfl, h1, h2, h3, X8.out⟩)
set_option maxRecDepth 100000 in
set_option maxHeartbeats 2000000 in
theorem ccost_any (v : Value) (l : List Ms) (i k : Nat) (w : World) (h : LnV w v l) (hm : MsOk l) (hik : i < k) (hk : k ≤ l.length) :
    Calls Tryz.prog 66 #[v, .int .i64 i, .int .i64 k] w fun e w' => ∃ x, e = .returned x ∧ FracV w' x (cst (seg l i k)) ∧ Ext w w' := by
  have hsk := seg_ok hm i k
  have hne := seg_ne hik hk
  have F0 := Lib.hid (M0_fit hsk)
  have F1 := Lib.hid (M1_fit hsk)
  have F2 := Lib.hid (M2_fit hsk)
  have P0 := Lib.hid (numpos (M0_pos hsk.pos hne))
  have HL := Lib.hid h
  have HP := Lib.hid (fun v w' h => part_any v l i k w' h hm (Nat.le_of_lt hik) hk)
  have HE : Hid (M2 (seg l i k) - M1 (seg l i k) * M1 (seg l i k) / M0 (seg l i k) = cst (seg l i k)) := rfl
  obtain ⟨A0, c0, A1, c1, A2, c2, rfl, -, -, -⟩ := h
  generalize cst (seg l i k) = r at *
  generalize M0 (seg l i k) = p0 at *
  generalize M1 (seg l i k) = p1 at *
  generalize M2 (seg l i k) = p2 at *
  clear hm hsk hne
  go_enter Tryz.func66, Tryz.ntmps66
  go_upto_region 1 with fail
  refine box2 (P := fun W => Code.wp _ _ _ _ W) fun W HX0 BL BR => ?_
  have q0 := BL.out.cell (i := 0) rfl
  have q1 := BL.out.cell (i := 1) rfl
  have q2 := BL.out.cell (i := 2) rfl
  have hgW : w.heap.size + 1 < W.heap.size := BR.out.lt
  go_wp2_with fail
  refine (HP.out _ W (HL.out.ext HX0.out)).mono ?_
  rintro e w1 ⟨x, y, z, rfl, hx, hy, hz, hx1⟩
  obtain ⟨a0, aA, a1, a2, a3, aB, a4, a5, rfl, _, _⟩ := hx.parts
  obtain ⟨b0, bA, b1, b2, b3, bB, b4, b5, rfl, _, _⟩ := hy.parts
  obtain ⟨d0, dA, d1, d2, d3, dB, d4, d5, rfl, _, _⟩ := hz.parts
  clear q0 q1 q2
  go_upto_region 2 with fail
  refine box3 (P := fun W => Code.wp _ _ _ _ W) fun W2 HX2 B7 B8 B9 => ?_
  have hy2 := hx1.trans HX2.out
  have HVx := Lib.hid (hx.ext HX2.out)
  have HVy := Lib.hid (hy.ext HX2.out)
  have HVz := Lib.hid (hz.ext HX2.out)
  have BR2 := Lib.hid (BR.out.ext hy2)
  have HXW := Lib.hid (HX0.out.trans hy2)
  clear hx hy hz hx1 hy2 HX2 BR BL
  have HSI : Hid (∀ w', Ext W2 w' → (w'.cell? ⟨w1.heap.size, 0, none⟩ = some (.bool a0) ∧ w'.cell? ⟨w1.heap.size, 0 + 1, none⟩ = some (.slice aA a1 a2) ∧ w'.cell? ⟨w1.heap.size, 0 + 2, none⟩ = some (.bool a3) ∧ w'.cell? ⟨w1.heap.size, 0 + 3, none⟩ = some (.slice aB a4 a5)) ∧ (w'.cell? ⟨w1.heap.size + 1, 0, none⟩ = some (.bool b0) ∧ w'.cell? ⟨w1.heap.size + 1, 0 + 1, none⟩ = some (.slice bA b1 b2) ∧ w'.cell? ⟨w1.heap.size + 1, 0 + 2, none⟩ = some (.bool b3) ∧ w'.cell? ⟨w1.heap.size + 1, 0 + 3, none⟩ = some (.slice bB b4 b5)) ∧ (w'.cell? ⟨w1.heap.size + 1 + 1, 0, none⟩ = some (.bool d0) ∧ w'.cell? ⟨w1.heap.size + 1 + 1, 0 + 1, none⟩ = some (.slice dA d1 d2) ∧ w'.cell? ⟨w1.heap.size + 1 + 1, 0 + 2, none⟩ = some (.bool d3) ∧ w'.cell? ⟨w1.heap.size + 1 + 1, 0 + 3, none⟩ = some (.slice dB d4 d5))) := fun w' hx => ⟨(B7.out.ext hx).four, (B8.out.ext hx).four, (B9.out.ext hx).four⟩
  have HS0 : Hid (Ext W2 W2.drew) := (Ext.refl W2).drew
  have hyc : Ext W2 W2.drew := HS0.out
  refine AnyT.start (S := fun w' => Ext W2 w') (T := fun j => decide (7 ≤ j)) (by kernel_rfl) ?_
  obtain ⟨wd, hwd⟩ : ∃ wd : World, W2.drew = wd := ⟨_, rfl⟩
  rw [hwd] at hyc HS0 ⊢
  clear hwd
  refine AnyT.ld 0 18 (.agg #[.bool d0, .slice dA d1 d2, .bool d3, .slice dB d4 d5]) _ rfl rfl (by kernel_rfl) (fun _ _ _ h => h) HS0.out rfl ?_ ?_
  focus (intro w' hSw; have hs := HSI.out w' hSw; go_split_ands; go_simp; try (first | exact rfl | omega | go_num | (intro hbd; exfalso; omega)))
  simp only [Act.put, List.setIfInBounds_toArray, List.set_cons_zero, List.set_cons_succ]
  refine AnyT.ld 1 19 (.agg #[.bool b0, .slice bA b1 b2, .bool b3, .slice bB b4 b5]) _ rfl rfl (by kernel_rfl) (fun _ _ _ h => h) HS0.out rfl ?_ ?_
  focus (intro w' hSw; have hs := HSI.out w' hSw; go_split_ands; go_simp; try (first | exact rfl | omega | go_num | (intro hbd; exfalso; omega)))
  simp only [Act.put, List.setIfInBounds_toArray, List.set_cons_zero, List.set_cons_succ]
  refine AnyT.ld 2 20 (.agg #[.bool b0, .slice bA b1 b2, .bool b3, .slice bB b4 b5]) _ rfl rfl (by kernel_rfl) (fun _ _ _ h => h) HS0.out rfl ?_ ?_
  focus (intro w' hSw; have hs := HSI.out w' hSw; go_split_ands; go_simp; try (first | exact rfl | omega | go_num | (intro hbd; exfalso; omega)))
  simp only [Act.put, List.setIfInBounds_toArray, List.set_cons_zero, List.set_cons_succ]
  refine AnyT.ld 4 22 (.agg #[.bool a0, .slice aA a1 a2, .bool a3, .slice aB a4 a5]) _ rfl rfl (by kernel_rfl) (fun _ _ _ h => h) HS0.out rfl ?_ ?_
  focus (intro w' hSw; have hs := HSI.out w' hSw; go_split_ands; go_simp; try (first | exact rfl | omega | go_num | (intro hbd; exfalso; omega)))
  simp only [Act.put, List.setIfInBounds_toArray, List.set_cons_zero, List.set_cons_succ]
  refine AnyT.step 3 (by kernel_rfl) ?_
  intro o ho K hK
  simp only [List.getElem?_toArray, List.getElem?_cons_succ, List.getElem?_cons_zero, Option.some.injEq] at ho
  subst ho
  go_simp
  refine (fmul_any _ _ _ _ _ (HVy.out.ext hyc) (HVy.out.ext hyc) F1.out F1.out (by decide)).mono ?_
  rintro e w3 ⟨v3, rfl, hv3, hx3⟩
  have hy3 := hyc.trans hx3
  refine hK.out _ _ (fun _ => hy3) ?_
  refine AnyT.step 5 (by kernel_rfl) ?_
  intro o ho K hK
  simp only [List.getElem?_toArray, List.getElem?_cons_succ, List.getElem?_cons_zero, Option.some.injEq] at ho
  subst ho
  go_simp
  refine (fdiv_any _ _ _ _ _ hv3 (HVx.out.ext hy3) (F1.out.mul F1.out) F0.out (by decide) P0.out).mono ?_
  rintro e w4 ⟨v4, rfl, hv4, hx4⟩
  have hy4 := hy3.trans hx4
  refine hK.out _ _ (fun _ => hy4) ?_
  refine AnyT.step 6 (by kernel_rfl) ?_
  intro o ho K hK
  simp only [List.getElem?_toArray, List.getElem?_cons_succ, List.getElem?_cons_zero, Option.some.injEq] at ho
  subst ho
  go_simp
  refine (fsub_any _ _ _ _ _ (HVz.out.ext hy4) hv4 F2.out ((F1.out.mul F1.out).div F0.out P0.out) (by decide)).mono ?_
  rintro e w5 ⟨v5, rfl, hv5, hx5⟩
  rw [HE.out] at hv5
  obtain ⟨e0, eA, e1, e2, e3, eB, e4, e5, rfl, _, _⟩ := hv5.parts
  have hy5 := hy4.trans hx5
  refine hK.out _ _ (fun _ => hy5) ?_
  have BR5 := Lib.hid (BR2.out.ext hy5)
  obtain ⟨k0, k1, k2, k3⟩ := BR5.out.four
  obtain ⟨m0, m1, m2, m3⟩ := BR5.out.free4
  obtain ⟨W', hW', HBN, _, HEX, _⟩ := Box.put BR5.out hv5 (HXW.out.trans hy5) (by omega)
  have HW' := Lib.hid hW'
  clear hW' hx3 hy3 hx4 hy4 hx5 hy5 hv3 hv4 hyc
  refine AnyT.step 7 (by kernel_rfl) ?_
  intro o ho K hK
  simp only [List.getElem?_toArray, List.getElem?_cons_succ, List.getElem?_cons_zero, Option.some.injEq] at ho
  subst ho
  go_simp
  refine hK.out _ _ (fun h => by cases h) ?_
  refine AnyT.done (by kernel_rfl) ?_
  rw [HW'.out]
  clear k0 k1 k2 k3 m0 m1 m2 m3
  go_wp2_with fail
  exact ret_box rfl rfl rfl HBN.out (fun v h => ⟨v, rfl, h, HEX.out⟩)
end Go.Proofs.YtkhmfgkbobblmaaGreatDoor
