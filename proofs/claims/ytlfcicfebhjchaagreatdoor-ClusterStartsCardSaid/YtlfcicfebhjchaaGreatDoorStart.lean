/- cluster.Start; what it chooses. -/
import Derived.Test.YtlfcicfebhjchaaGreatDoorCPlain
namespace Go.Proofs.YtlfcicfebhjchaaGreatDoor
open Go.RowKit Go.Lib

theorem lt_of_le_lt {a b c : Rat} (h : a ≤ b) (k : b < c) : a < c := by grind
theorem lt_of_lt_le {a b c : Rat} (h : a < b) (k : b ≤ c) : a < c := by grind
/-- how much a point is worth as the next centre -/
def worth (cs : List (List Rat)) (x : Pt) : Rat := if cs = [] then x.2 else x.2 * (near x.1 cs).2
theorem worth_nil (x : Pt) : worth [] x = x.2 := rfl
theorem worth_some {cs : List (List Rat)} (h : cs ≠ []) (x : Pt) : worth cs x = x.2 * (near x.1 cs).2 := if_neg h
/-- the best of the first t points -/
structure Best (l : List Pt) (cs : List (List Rat)) (t : Nat) (b : Int) (m : Rat) : Prop where
  nn : 0 ≤ m
  le : ∀ j (h : j < l.length), j < t → worth cs l[j] ≤ m
  at_ : (b = -1 ∧ m = 0) ∨ ∃ i, ∃ h : i < l.length, i < t ∧ b = (i : Int) ∧ m = worth cs l[i] ∧ 0 < m ∧ ∀ j (h : j < l.length), j < i → worth cs l[j] < m
theorem Best.zero (l : List Pt) (cs : List (List Rat)) : Best l cs 0 (-1) 0 := ⟨Rat.le_refl, fun j _ h => by omega, .inl ⟨rfl, rfl⟩⟩
theorem Best.take {l : List Pt} {cs : List (List Rat)} {t : Nat} {b : Int} {m : Rat} (h : Best l cs t b m) (ht : t < l.length) (hv : m < worth cs l[t]) : Best l cs (t + 1) (t : Int) (worth cs l[t]) := by
  refine ⟨Rat.le_of_lt (lt_of_le_lt h.nn hv), fun j hj hjt => ?_, .inr ⟨t, ht, by omega, rfl, rfl, lt_of_le_lt h.nn hv, fun j hj hjt => lt_of_le_lt (h.le j hj hjt) hv⟩⟩
  by_cases e : j = t
  · subst e; exact Rat.le_refl
  · exact Rat.le_of_lt (lt_of_le_lt (h.le j hj (by omega)) hv)
theorem Best.skip {l : List Pt} {cs : List (List Rat)} {t : Nat} {b : Int} {m : Rat} (h : Best l cs t b m) (ht : t < l.length) (hv : ¬ m < worth cs l[t]) : Best l cs (t + 1) b m := by
  refine ⟨h.nn, fun j hj hjt => ?_, ?_⟩
  · by_cases e : j = t
    · subst e; exact Rat.not_lt.1 hv
    · exact h.le j hj (by omega)
  · rcases h.at_ with h1 | ⟨i, h1, h2, h3⟩
    · exact .inl h1
    · exact .inr ⟨i, h1, by omega, h3⟩
/-- centres that are chosen one by one -/
def Greedy (l : List Pt) (cs : List (List Rat)) : Prop := ∀ i (h : i < cs.length), ∃ b, ∃ hb : b < l.length, cs[i] = l[b].1 ∧ 0 < worth (cs.take i) l[b] ∧ (∀ j (h : j < l.length), worth (cs.take i) l[j] ≤ worth (cs.take i) l[b]) ∧ ∀ j (h : j < l.length), j < b → worth (cs.take i) l[j] < worth (cs.take i) l[b]
theorem Greedy.nil {l : List Pt} : Greedy l [] := fun i h => by simp at h
theorem Greedy.snoc {l : List Pt} {cs : List (List Rat)} {b : Nat} (h : Greedy l cs) (hb : b < l.length) (hp : 0 < worth cs l[b]) (hm : ∀ j (h : j < l.length), worth cs l[j] ≤ worth cs l[b]) (hf : ∀ j (h : j < l.length), j < b → worth cs l[j] < worth cs l[b]) : Greedy l (cs ++ [l[b].1]) := by
  intro i hi
  rw [List.length_append, List.length_singleton] at hi
  by_cases hil : i < cs.length
  · rw [List.getElem_append_left hil, List.take_append_of_le_length (by omega)]
    exact h i hil
  · obtain rfl : i = cs.length := by omega
    rw [List.getElem_append_right (Nat.le_refl _), List.take_left]
    exact ⟨b, hb, by simp, hp, hm, hf⟩
theorem Greedy.mem {l : List Pt} {cs : List (List Rat)} (h : Greedy l cs) : ∀ c ∈ cs, ∃ x ∈ l, x.1 = c := by
  intro c hc
  obtain ⟨i, hi, rfl⟩ := List.mem_iff_getElem.1 hc
  obtain ⟨b, hb, e, _⟩ := h i hi
  exact ⟨l[b], List.getElem_mem hb, e.symm⟩
theorem dist_self (p : List Rat) : dist p p = 0 := by
  rw [dist_rsum rfl]
  exact rsum_zero fun i _ => by grind
theorem Greedy.diff {l : List Pt} {cs : List (List Rat)} (hw : ∀ x ∈ l, 0 < x.2) (h : Greedy l cs) (i j : Nat) (hij : i < j) (hj : j < cs.length) : ¬ cs[j] = cs[i] := by
  intro e
  obtain ⟨b, hb, e1, hp, _⟩ := h j hj
  have hil : i < (cs.take j).length := by rw [List.length_take]; omega
  have hne : cs.take j ≠ [] := fun h => by rw [h] at hil; simp at hil
  rw [worth_some hne] at hp
  have h1 := near_le l[b].1 hil
  rw [List.getElem_take, ← e, e1, dist_self] at h1
  have hwb := hw l[b] (List.getElem_mem hb)
  have h2 := Rat.mul_le_mul_of_nonneg_left h1 (Rat.le_of_lt hwb)
  rw [Rat.mul_zero] at h2
  exact absurd (lt_of_lt_le hp h2) (by grind)
theorem Greedy.first {l : List Pt} {cs : List (List Rat)} (h : Greedy l cs) (h0 : 0 < cs.length) {b : Nat} (hb : b < l.length) (hm : ∀ j (h : j < l.length), l[j].2 ≤ l[b].2) (hf : ∀ j (h : j < l.length), j < b → l[j].2 < l[b].2) : cs[0] = l[b].1 := by
  obtain ⟨a, ha, e1, _, hm', hf'⟩ := h 0 h0
  rw [List.take_zero] at hm' hf'
  have e : a = b := by
    rcases Nat.lt_trichotomy a b with h | h | h
    · have h1 := hf a ha h
      have h2 := hm' b hb
      rw [worth_nil, worth_nil] at h2
      grind
    · exact h
    · have h1 := hf' b hb h
      have h2 := hm a ha
      rw [worth_nil, worth_nil] at h1
      grind
  subst e
  exact e1
theorem Greedy.end_ {l : List Pt} {cs : List (List Rat)} {n : Nat} (hn : ∀ x ∈ l, x.1.length = n) (hw : ∀ x ∈ l, 0 < x.2) (h : Greedy l cs) (h0 : 0 < l.length) (he : ∀ x ∈ l, worth cs x ≤ 0) : cost l cs = 0 := by
  have hne : cs ≠ [] := by
    rintro rfl
    have h1 := he l[0] (List.getElem_mem h0)
    rw [worth_nil] at h1
    have h2 := hw l[0] (List.getElem_mem h0)
    grind
  rw [cost_sum, ← sumW_zero l]
  refine sumW_congr fun x hx => ?_
  have h1 := he x hx
  rw [worth_some hne] at h1
  obtain ⟨i, hi, _, h2⟩ := near_is x.1 (cs := cs) (List.length_pos_iff.2 hne)
  obtain ⟨y, hy, hy2⟩ := h.mem _ (List.getElem_mem hi)
  have h3 : 0 ≤ (near x.1 cs).2 := by
    rw [h2]
    exact dist_nonneg (by rw [hn x hx, ← hy2, hn y hy])
  have h4 := Rat.mul_nonneg (Rat.le_of_lt (hw x hx)) h3
  grind
theorem good_greedy {n : Nat} {l : List Pt} {cs : List (List Rat)} (hg : Good n l []) (h : Greedy l cs) (h4 : cs.length ≤ 4) : Good n l cs := by
  refine ⟨hg.n1, hg.n3, hg.pts, h4, hg.pn, ?_, hg.pf, ?_, hg.wf, hg.wp⟩
  · intro c hc
    obtain ⟨x, hx, rfl⟩ := h.mem c hc
    exact hg.pn x hx
  · intro c hc
    obtain ⟨x, hx, rfl⟩ := h.mem c hc
    exact hg.pf x hx
theorem worth_fit {n : Nat} {l : List Pt} {cs : List (List Rat)} (h : Good n l cs) {x : Pt} (hx : x ∈ l) : FitQ 5400 (worth cs x) := by
  unfold worth
  split
  · exact (h.wf x hx).mono (by decide)
  · exact ((h.wf x hx).mul (near_fit1 h hx)).mono (by decide)
set_option maxRecDepth 100000 in
set_option maxHeartbeats 8000000 in
theorem start_any (vl : Value) (n : Nat) (l : List Pt) (k : Nat) (w : World) (hl : CL w vl l) (hg : Good n l []) (hk4 : k ≤ 4) :
    Calls Tryz.prog 22 #[vl, .int .i64 k] w fun e w' => ∃ A c cs, e = .returned (.slice A cs.length c) ∧ cs.length ≤ k ∧ Greedy l cs ∧ (cs.length = k ∨ ∀ x ∈ l, worth cs x ≤ 0) ∧ PL w' (.slice A cs.length c) cs ∧ Ext w w' := by
  have RD := Lib.hid (cread_any vl (.slice none 0 0) n l [] w hl Ls.nil hg)
  obtain ⟨A, ca, rfl, _, hca, HCL⟩ := hl.parts
  have hca : ca ≤ 9223372036854775807 := by unfold maxLen at hca; omega
  have HG := Lib.hid hg
  have h300 := hg.pts
  have hmin : min (k : Int) 4 = k := by omega
  have hmax : max 0 (k : Int) = k := by omega
  clear hl hg
  go_enter Tryz.func22, Tryz.ntmps22
  go_wp2_with fail
  refine RD.out.mono ?_
  rintro e w1 ⟨Ap, cp, Ac, cc, rfl, hql, hgl, hx1⟩
  have HQ := Lib.hid hql
  have hcp : cp ≤ 9223372036854775807 := by
    obtain ⟨_, _, e, _, h, _⟩ := hql.parts
    injection e with _ _ e
    subst e
    unfold maxLen at h; omega
  have HE1 := Lib.hid hx1
  clear hql hgl RD hx1
  by_cases hl0 : l.length = 0
  · have hd0 : ((l.length : Int) == 0) = true := by simp [hl0]
    go_wp2
    go_ret
    have : l = [] := List.length_eq_zero_iff.1 hl0
    subst this
    exact ⟨none, 0, [], rfl, Nat.zero_le _, .nil, .inr (fun x hx => by cases hx), Ls.nil, HE1.out⟩
  · have hd0 : ((l.length : Int) == 0) = false := by simp [hl0]
    go_wp2_with fail
    clear hd0 hmin hmax
    go_loopw [8, 9, 10, 11, 12, 13, 14, 15, 16, 33] (fun v8 v9 _ _ _ _ _ _ _ v33 wr => ∃ cs : List (List Rat), cs.length ≤ k ∧ v33 = .int .i64 cs.length ∧ Hid (Greedy l cs) ∧ Hid (OwnL tFracs 1 GR w1.heap.size wr v8 cs) ∧ Hid (OwnL tRats 1 PR w1.heap.size wr v9 cs) ∧ Hid (Ext w1 wr)) (fun _ _ _ _ _ _ _ _ _ v33 _ => k - (RowKit.intOf v33).toNat)
    case atStart => exact ⟨[], Nat.zero_le _, rfl, .nil, OwnL.nil, OwnL.nil, Ext.refl _⟩
    case round =>
      obtain ⟨cs, hcl, rfl, HGR, HO8, HO9, HXo⟩ := hrel
      obtain ⟨A8, c8, xs8, rfl, _, hc8, HR8, HC8⟩ := HO8.out.parts
      obtain ⟨A9, c9, xs9, rfl, _, hc9, HR9, HC9⟩ := HO9.out.parts
      have hc8 : c8 ≤ 9223372036854775807 := by unfold maxLen at hc8; omega
      by_cases hck : cs.length < k
      · have HGC := Lib.hid (good_greedy HG.out HGR.out (by omega))
        have HGL := Lib.hid HO8.out.ls
        generalize wr = wo at *
        go_wp2_with fail
        refine (xzero_any wo).mono ?_
        rintro e w2 ⟨v2, rfl, hv2, hx2⟩
        obtain ⟨a0, A0, a1, a2, b0, B0, b1, b2, rfl, _, _⟩ := hv2.parts
        go_wp2_with fail
        refine newbox (P := fun W => Code.wp _ _ _ _ W) hv2 fun W HX HB1 hsz => ?_
        have HXI := Lib.hid (hx2.trans HX.out)
        have hg2 : wo.heap.size ≤ w2.heap.size := hx2.size
        clear hx2 hv2 HX
        go_loopw [10, 12, 13, 14, 15, 16, 38] (fun v10 _ _ _ _ _ v38 wr => ∃ (t : Nat) (b : Int) (m : Rat), t ≤ l.length ∧ v38 = .int .i64 t ∧ v10 = .int .i64 b ∧ Hid (Best l cs t b m) ∧ Hid (FitQ 5400 m) ∧ Hid (Box wr w2.heap.size m) ∧ Hid (Ext wo wr)) (fun _ _ _ _ _ _ v38 _ => l.length - (RowKit.intOf v38).toNat)
        case atStart => exact ⟨0, -1, 0, Nat.zero_le _, rfl, rfl, Best.zero l cs, zero_fit (by decide), HB1, HXI⟩
        case round =>
          obtain ⟨t, b, m, htl, rfl, rfl, HBE, FM, HBM, HXS⟩ := hrel
          by_cases hkl : t < l.length
          · have hmem := List.getElem_mem hkl
            obtain ⟨g1, o1, Aq, cq, x0, X0, x1, x2, y0, Y0, y1, y2, rfl, _, HL1, HV1, p0, p1, p2, p3, p4⟩ := QL.get (QL.ext HQ.out (HXo.out.trans HXS.out)) hkl
            have NR : Hid (∀ w', Ext wr w' → Calls Tryz.prog 37 #[.slice Aq l[t].1.length cq, .slice A8 cs.length c8] w' fun e w'' => ∃ b A n c b' A' n' c', e = .returned (.tuple #[.int .i64 (near l[t].1 cs).1, .agg #[.bool b, .slice A n c, .bool b', .slice A' n' c']]) ∧ FracV w'' (.agg #[.bool b, .slice A n c, .bool b', .slice A' n' c']) (near l[t].1 cs).2 ∧ Ext w' w'') :=
              fun w' hx => near_any _ _ l[t].1 cs w' (FL.ext HL1.out hx) (GL.ext HGL.out (HXS.out.trans hx)) (fun c hc => by rw [HGC.out.cn c hc, HGC.out.pn _ hmem]) (by rw [HGC.out.pn _ hmem]; exact HGC.out.n3) (HGC.out.pf _ hmem) HGC.out.cf
            have FV := Lib.hid (worth_fit HGC.out hmem)
            have FD := Lib.hid (near_fit1 HGC.out hmem)
            have FW := Lib.hid (HGC.out.wf _ hmem)
            have HTK : Hid (m < worth cs l[t] → Best l cs (t + 1) (t : Int) (worth cs l[t])) := fun h => HBE.out.take hkl h
            have HSK : Hid (¬ m < worth cs l[t] → Best l cs (t + 1) b m) := fun h => HBE.out.skip hkl h
            have hgs : w2.heap.size < wr.heap.size := HBM.out.lt
            clear hmem HBE
            generalize l[t] = x at *
            have HV0 : Hid (cs.length = 0 → worth cs x = x.2) := fun h => by rw [List.length_eq_zero_iff.1 h]; rfl
            have HVS : Hid (¬ cs.length = 0 → worth cs x = x.2 * (near x.1 cs).2) := fun h => worth_some (fun e => h (by rw [e]; rfl)) x
            go_upto_region 12 with fail
            refine box1 (P := fun W => Code.wp _ _ _ _ W) fun W2 HX2 BP => ?_
            have i0 := BP.out.cell (i := 0) rfl
            have i1 := BP.out.cell (i := 1) rfl
            have i2 := BP.out.cell (i := 2) rfl
            have i3 := BP.out.cell (i := 3) rfl
            have i4 := BP.out.cell (i := 4) rfl
            clear p0 p1 p2 p3 p4
            go_upto_region 13 with fail
            refine newbox (P := fun W => Code.wp _ _ _ _ W) (HV1.out.ext HX2.out) fun W3 HX3 BX hsz3 => ?_
            have hy3 := HX2.out.trans HX3.out
            have BP3 := Lib.hid (BP.out.ext HX3.out)
            clear i0 i1 i2 i3 i4 BP
            have i0 := BP3.out.cell (i := 0) rfl
            by_cases hc0 : cs.length = 0
            · have hd0 : decide (cs.length > 0) = false := decide_eq_false (by omega)
              have BM := Lib.hid (HBM.out.ext hy3)
              have HXQ := Lib.hid (HXS.out.trans hy3)
              rw [← HV0.out hc0] at BX
              clear HV0 HVS hy3 i0 hc0
              generalize hvv : worth cs x = vv at *
              clear hvv
              obtain ⟨x0, X0, x1, x2, y0, Y0, y1, y2, BS, VS⟩ := BM.out.parts
              obtain ⟨z0, Z0, z1, z2, t0, T0, t1, t2, BD, VD⟩ := BX.out.parts
              obtain ⟨k0, k1, k2, k3⟩ := BS.out.four
              obtain ⟨j0, j1, j2, j3⟩ := BD.out.four
              go_wp2_with fail
              refine (fcompare_any _ _ vv m _ VD.out VS.out FV.out FM.out (by decide)).mono ?_
              rintro e wq ⟨rfl, hx5⟩
              have BM := Lib.hid (BM.out.ext hx5)
              have BX := Lib.hid (BX.out.ext hx5)
              have HXQ := Lib.hid (HXQ.out.trans hx5)
              clear hx5 k0 k1 k2 k3 j0 j1 j2 j3 BS VS BD VD
              by_cases hlt : m < vv
              · have hd2 : decide (cmpQ vv m > 0) = true := decide_eq_true (cmpQ_gt.2 hlt)
                have HB2 := Lib.hid (HTK.out hlt)
                clear hlt
                generalize cmpQ vv m = cq at *
                obtain ⟨x0, X0, x1, x2, y0, Y0, y1, y2, BS, VS⟩ := BM.out.parts
                obtain ⟨z0, Z0, z1, z2, t0, T0, t1, t2, BD, VD⟩ := BX.out.parts
                go_upto_region 17 with fail
                obtain ⟨S, hSd⟩ : ∃ S : World → Prop, S = fun w' => (w'.cell? ⟨W2.heap.size, 0, none⟩ = some (.bool z0) ∧ w'.cell? ⟨W2.heap.size, 0 + 1, none⟩ = some (.slice Z0 z1 z2) ∧ w'.cell? ⟨W2.heap.size, 0 + 2, none⟩ = some (.bool t0) ∧ w'.cell? ⟨W2.heap.size, 0 + 3, none⟩ = some (.slice T0 t1 t2)) := ⟨_, rfl⟩
                have HSI : Hid (∀ w', S w' → (w'.cell? ⟨W2.heap.size, 0, none⟩ = some (.bool z0) ∧ w'.cell? ⟨W2.heap.size, 0 + 1, none⟩ = some (.slice Z0 z1 z2) ∧ w'.cell? ⟨W2.heap.size, 0 + 2, none⟩ = some (.bool t0) ∧ w'.cell? ⟨W2.heap.size, 0 + 3, none⟩ = some (.slice T0 t1 t2))) := by rw [Hid, hSd]; exact fun _ h => h
                have HS0 : Hid (S wq.drew) := by rw [Hid, hSd]; exact (BD.out.ext (Ext.refl wq).drew).four
                clear hSd
                have BS4 := Lib.hid (BS.out.ext (Ext.refl wq).drew)
                obtain ⟨W', hW', HBN, HKN, HE, HON⟩ := Box.put BS4.out (VD.out.ext (Ext.refl wq).drew) (HXQ.out.drew) hg2
                have HW := Lib.hid hW'
                clear hW'
                refine AnyT.start (S := S) (T := fun j => decide (3 ≤ j)) (by kernel_rfl) ?_
                refine AnyT.load 0 62 (.int .i64 t) rfl (by kernel_rfl) (by kernel_rfl) (by kernel_rfl) (by kernel_rfl) (by kernel_rfl) (fun _ _ _ h => h) HS0.out ?_ ?_
                · intro o ho
                  simp only [List.getElem?_toArray, List.getElem?_cons_zero, Option.some.injEq] at ho
                  subst ho
                  refine ⟨rfl, rfl, fun w' hSw => ?_⟩
                  have hs := HSI.out w' hSw
                  go_split_ands
                  go_simp
                simp only [Act.put, List.setIfInBounds_toArray, List.set_cons_zero, List.set_cons_succ]
                refine AnyT.load 1 63 (.agg #[.bool z0, .slice Z0 z1 z2, .bool t0, .slice T0 t1 t2]) rfl (by kernel_rfl) (by kernel_rfl) (by kernel_rfl) (by kernel_rfl) (by kernel_rfl) (fun _ _ _ h => h) HS0.out ?_ ?_
                · intro o ho
                  simp only [List.getElem?_toArray, List.getElem?_cons_succ, List.getElem?_cons_zero, Option.some.injEq] at ho
                  subst ho
                  refine ⟨rfl, rfl, fun w' hSw => ?_⟩
                  have hs := HSI.out w' hSw
                  go_split_ands
                  go_simp
                simp only [Act.put, List.setIfInBounds_toArray, List.set_cons_zero, List.set_cons_succ]
                refine AnyT.step 2 (by kernel_rfl) ?_
                intro o ho K hK
                simp only [List.getElem?_toArray, List.getElem?_cons_succ, List.getElem?_cons_zero, Option.some.injEq] at ho
                subst ho
                go_simp
                refine hK.out _ _ (fun _ => HS0.out) ?_
                obtain ⟨W5, hW5⟩ : ∃ W5 : World, wq.drew = W5 := ⟨_, rfl⟩
                rw [hW5] at BS4 HW ⊢
                clear hW5
                obtain ⟨k0, k1, k2, k3⟩ := BS4.out.four
                obtain ⟨f0, f1, f2, f3⟩ := BS4.out.free4
                refine AnyT.step 3 (by kernel_rfl) ?_
                intro o ho K hK
                simp only [List.getElem?_toArray, List.getElem?_cons_succ, List.getElem?_cons_zero, Option.some.injEq] at ho
                subst ho
                go_simp
                refine hK.out _ _ (fun h => by cases h) ?_
                refine AnyT.done (by kernel_rfl) ?_
                rw [HW.out]
                clear k0 k1 k2 k3 f0 f1 f2 f3
                go_wp2_with fail
                go_roundw
                case rel => exact ⟨t + 1, (t : Int), vv, by omega, by go_num, rfl, HB2, FV, HBN, HE⟩
                case measure => simp [RowKit.intOf]; omega
              · have hd2 : decide (cmpQ vv m > 0) = false := decide_eq_false (fun h => hlt (cmpQ_gt.1 h))
                have HB2 := Lib.hid (HSK.out hlt)
                clear hlt
                generalize cmpQ vv m = cq at *
                go_wp2_with fail
                go_roundw
                case rel => exact ⟨t + 1, b, m, by omega, by go_num, rfl, HB2, FM, BM, HXQ⟩
                case measure => simp [RowKit.intOf]; omega
            · have hd0 : decide (cs.length > 0) = true := decide_eq_true (by omega)
              go_wp2_with fail
              refine (NR.out W3 hy3).mono ?_
              rintro e w4 ⟨z0, Z0, z1, z2, t0, T0, t1, t2, rfl, hv4, hx4⟩
              go_upto_region 15 with fail
              refine newbox (P := fun W => Code.wp _ _ _ _ W) hv4 fun w5 HX5 BN hsz5 => ?_
              have hy5 := hx4.trans HX5.out
              have BX5 := Lib.hid (BX.out.ext hy5)
              have BM5 := Lib.hid (HBM.out.ext (hy3.trans hy5))
              have HX5' := Lib.hid (HXS.out.trans (hy3.trans hy5))
              have hs4 := hx4.size
              clear hy5 hv4 hx4 BX hy3 i0 HX5
              obtain ⟨x0, X0, x1, x2, y0, Y0, y1, y2, BS, VS⟩ := BX5.out.parts
              obtain ⟨z0, Z0, z1, z2, t0, T0, t1, t2, BD, VD⟩ := BN.out.parts
              obtain ⟨k0, k1, k2, k3⟩ := BS.out.four
              obtain ⟨j0, j1, j2, j3⟩ := BD.out.four
              go_wp2_with fail
              refine (fmul_any _ _ _ _ _ VS.out VD.out FW.out FD.out (by decide)).mono ?_
              rintro e w6 ⟨v6, rfl, hv6, hx6⟩
              obtain ⟨e0, E0, e1, e2, f0, F0, f1, f2, rfl, _, _⟩ := hv6.parts
              rw [← HVS.out hc0] at hv6
              have BS6 := Lib.hid (BS.out.ext hx6)
              have BM6 := Lib.hid (BM5.out.ext hx6)
              have hsW : wr.heap.size ≤ W2.heap.size := HX2.out.size
              obtain ⟨W7, hW7, BX, K7, HXQ, O7⟩ := Box.put BS6.out hv6 (HX5'.out.trans hx6) (by have := HXS.out.size; omega)
              have BM := Lib.hid (BM6.out.far O7.out (by omega) K7.out)
              have HW := Lib.hid hW7
              clear k0 k1 k2 k3 j0 j1 j2 j3 hW7 hx6 hv6 BS VS BD VD BN HV0 HVS
              obtain ⟨k0, k1, k2, k3⟩ := BS6.out.four
              obtain ⟨m0, m1, m2, m3⟩ := BS6.out.free4
              go_upto_region 16 with fail
              rw [HW.out]
              clear k0 k1 k2 k3 m0 m1 m2 m3 BM5 BX5 BS6 BM6
              generalize hvv : worth cs x = vv at *
              clear hvv
              obtain ⟨x0, X0, x1, x2, y0, Y0, y1, y2, BS, VS⟩ := BM.out.parts
              obtain ⟨z0, Z0, z1, z2, t0, T0, t1, t2, BD, VD⟩ := BX.out.parts
              obtain ⟨k0, k1, k2, k3⟩ := BS.out.four
              obtain ⟨j0, j1, j2, j3⟩ := BD.out.four
              go_wp2_with fail
              refine (fcompare_any _ _ vv m _ VD.out VS.out FV.out FM.out (by decide)).mono ?_
              rintro e wq ⟨rfl, hx5⟩
              have BM := Lib.hid (BM.out.ext hx5)
              have BX := Lib.hid (BX.out.ext hx5)
              have HXQ := Lib.hid (HXQ.out.trans hx5)
              clear hx5 k0 k1 k2 k3 j0 j1 j2 j3 BS VS BD VD
              by_cases hlt : m < vv
              · have hd2 : decide (cmpQ vv m > 0) = true := decide_eq_true (cmpQ_gt.2 hlt)
                have HB2 := Lib.hid (HTK.out hlt)
                clear hlt
                generalize cmpQ vv m = cq at *
                obtain ⟨x0, X0, x1, x2, y0, Y0, y1, y2, BS, VS⟩ := BM.out.parts
                obtain ⟨z0, Z0, z1, z2, t0, T0, t1, t2, BD, VD⟩ := BX.out.parts
                go_upto_region 17 with fail
                obtain ⟨S, hSd⟩ : ∃ S : World → Prop, S = fun w' => (w'.cell? ⟨W2.heap.size, 0, none⟩ = some (.bool z0) ∧ w'.cell? ⟨W2.heap.size, 0 + 1, none⟩ = some (.slice Z0 z1 z2) ∧ w'.cell? ⟨W2.heap.size, 0 + 2, none⟩ = some (.bool t0) ∧ w'.cell? ⟨W2.heap.size, 0 + 3, none⟩ = some (.slice T0 t1 t2)) := ⟨_, rfl⟩
                have HSI : Hid (∀ w', S w' → (w'.cell? ⟨W2.heap.size, 0, none⟩ = some (.bool z0) ∧ w'.cell? ⟨W2.heap.size, 0 + 1, none⟩ = some (.slice Z0 z1 z2) ∧ w'.cell? ⟨W2.heap.size, 0 + 2, none⟩ = some (.bool t0) ∧ w'.cell? ⟨W2.heap.size, 0 + 3, none⟩ = some (.slice T0 t1 t2))) := by rw [Hid, hSd]; exact fun _ h => h
                have HS0 : Hid (S wq.drew) := by rw [Hid, hSd]; exact (BD.out.ext (Ext.refl wq).drew).four
                clear hSd
                have BS4 := Lib.hid (BS.out.ext (Ext.refl wq).drew)
                obtain ⟨W', hW', HBN, HKN, HE, HON⟩ := Box.put BS4.out (VD.out.ext (Ext.refl wq).drew) (HXQ.out.drew) hg2
                have HW := Lib.hid hW'
                clear hW'
                refine AnyT.start (S := S) (T := fun j => decide (3 ≤ j)) (by kernel_rfl) ?_
                refine AnyT.load 0 62 (.int .i64 t) rfl (by kernel_rfl) (by kernel_rfl) (by kernel_rfl) (by kernel_rfl) (by kernel_rfl) (fun _ _ _ h => h) HS0.out ?_ ?_
                · intro o ho
                  simp only [List.getElem?_toArray, List.getElem?_cons_zero, Option.some.injEq] at ho
                  subst ho
                  refine ⟨rfl, rfl, fun w' hSw => ?_⟩
                  have hs := HSI.out w' hSw
                  go_split_ands
                  go_simp
                simp only [Act.put, List.setIfInBounds_toArray, List.set_cons_zero, List.set_cons_succ]
                refine AnyT.load 1 63 (.agg #[.bool z0, .slice Z0 z1 z2, .bool t0, .slice T0 t1 t2]) rfl (by kernel_rfl) (by kernel_rfl) (by kernel_rfl) (by kernel_rfl) (by kernel_rfl) (fun _ _ _ h => h) HS0.out ?_ ?_
                · intro o ho
                  simp only [List.getElem?_toArray, List.getElem?_cons_succ, List.getElem?_cons_zero, Option.some.injEq] at ho
                  subst ho
                  refine ⟨rfl, rfl, fun w' hSw => ?_⟩
                  have hs := HSI.out w' hSw
                  go_split_ands
                  go_simp
                simp only [Act.put, List.setIfInBounds_toArray, List.set_cons_zero, List.set_cons_succ]
                refine AnyT.step 2 (by kernel_rfl) ?_
                intro o ho K hK
                simp only [List.getElem?_toArray, List.getElem?_cons_succ, List.getElem?_cons_zero, Option.some.injEq] at ho
                subst ho
                go_simp
                refine hK.out _ _ (fun _ => HS0.out) ?_
                obtain ⟨W5, hW5⟩ : ∃ W5 : World, wq.drew = W5 := ⟨_, rfl⟩
                rw [hW5] at BS4 HW ⊢
                clear hW5
                obtain ⟨k0, k1, k2, k3⟩ := BS4.out.four
                obtain ⟨f0, f1, f2, f3⟩ := BS4.out.free4
                refine AnyT.step 3 (by kernel_rfl) ?_
                intro o ho K hK
                simp only [List.getElem?_toArray, List.getElem?_cons_succ, List.getElem?_cons_zero, Option.some.injEq] at ho
                subst ho
                go_simp
                refine hK.out _ _ (fun h => by cases h) ?_
                refine AnyT.done (by kernel_rfl) ?_
                rw [HW.out]
                clear k0 k1 k2 k3 f0 f1 f2 f3
                go_wp2_with fail
                go_roundw
                case rel => exact ⟨t + 1, (t : Int), vv, by omega, by go_num, rfl, HB2, FV, HBN, HE⟩
                case measure => simp [RowKit.intOf]; omega
              · have hd2 : decide (cmpQ vv m > 0) = false := decide_eq_false (fun h => hlt (cmpQ_gt.1 h))
                have HB2 := Lib.hid (HSK.out hlt)
                clear hlt
                generalize cmpQ vv m = cq at *
                go_wp2_with fail
                go_roundw
                case rel => exact ⟨t + 1, b, m, by omega, by go_num, rfl, HB2, FM, BM, HXQ⟩
                case measure => simp [RowKit.intOf]; omega
          · obtain rfl : t = l.length := by omega
            rcases HBE.out.at_ with ⟨rfl, hm0⟩ | ⟨i, hi, _, rfl, hmv, hmp, hmf⟩
            · have HEND : Hid (∀ x ∈ l, worth cs x ≤ 0) := by
                intro x hx
                obtain ⟨j, hj, rfl⟩ := List.mem_iff_getElem.1 hx
                have := HBE.out.le j hj hj
                rw [hm0] at this
                exact this
              go_wp2
              go_ret
              exact ⟨A9, c9, cs, rfl, hcl, HGR.out, .inr HEND.out, PL.ext HO9.out.ls HXS.out, HE1.out.trans (HXo.out.trans HXS.out)⟩
            · have HGN : Hid (Greedy l (cs ++ [l[i].1])) := .snoc HGR.out hi (by rw [← hmv]; exact hmp) (fun j hj => by rw [← hmv]; exact HBE.out.le j hj hj) (fun j hj hji => by rw [← hmv]; exact hmf j hj hji)
              clear hmv hmp hmf HBE
              obtain ⟨g1, o1, Aq, cq, x0, X0, x1, x2, y0, Y0, y1, y2, rfl, _, HL1, HV1, p0, p1, p2, p3, p4⟩ := QL.get (QL.ext HQ.out (HXo.out.trans HXS.out)) hi
              have HCG := Lib.hid (fun w' (hx : Ext w1 w') => CL.get (CL.ext HCL.out (HE1.out.trans hx)) hi)
              have CLN : Hid (∀ A2 c2 w', RL w' (.slice A2 l[i].1.length c2) l[i].1 → Calls Tryz.prog 44 #[.slice A2 l[i].1.length c2] w' fun e w'' => ∃ v', e = .returned v' ∧ RL w'' v' l[i].1 ∧ Ext w' w'') := by
                intro A2 c2 w' hx
                obtain ⟨A', c', xs, e, h2, h3, h4', h5, h6⟩ := hx
                injection e with e1 _ e3
                subst e1 e3
                have hxl := Ch.length (RatR.one w') h6
                refine (clone_rat A2 l[i].1.length c2 xs w' h4' h5 hxl h2 (Ch.all (fun c x e u hu => by rw [show c = _ from e] at hu; simp only [List.mem_singleton] at hu; subst hu; rfl) h6) (by rw [HG.out.pn _ (List.getElem_mem hi)]; have := HG.out.n3; omega)).mono ?_
                rintro e w'' ⟨v', rfl, ho, hx'⟩
                exact ⟨v', rfl, Ls.of_own ho (h6.mono fun c x hc => RatR.stab _ _ _ _ (fun u hu => by cases hu) hc), hx'⟩
              generalize l[i] = x at *
              obtain ⟨p, q⟩ := x
              simp only at HGN CLN HL1 p0 HCG
              have O8 := Lib.hid (own_extR HR8.out HXS.out)
              have C8' : Hid (Ch (GR wr) xs8 cs) := HC8.out.mono fun c x hc => GR.stab _ _ _ _ (fun _ _ => .of_below HXS.out) hc
              have O9 := Lib.hid (own_extR HR9.out HXS.out)
              have C9' : Hid (Ch (PR wr) xs9 cs) := HC9.out.mono fun c x hc => PR.stab _ _ _ _ (fun _ _ => .of_below HXS.out) hc
              have HXA := Lib.hid (HXo.out.trans HXS.out)
              have hwA := HXA.out.size
              have hbt : (cs.length + 1) * 24 ≤ 140737488355328 := by omega
              clear p1 p2 p3 p4
              go_wp2_with (at_builtin; refine wpList_app1 rfl _ _ 69 rfl w1.heap.size fracs_slice _ _ _ rfl O8.out #[.slice Aq p.length cq] 1 1 rfl rfl rfl hbt hwA ?_)
              intro v' w4 ho4 hg4 _
              have HQ4 : Hid (OwnL tFracs 1 GR w1.heap.size w4 v' (cs ++ [p])) := OwnL.snoc (R := GR) (w := wr) (x := p) GR.stab (by decide) O8.out C8'.out ⟨Aq, cq, rfl, HL1.out⟩ ho4 hg4
              have HX4 := Lib.hid (HXA.out.grownO O8.out hg4)
              have O94 := Lib.hid ((OwnL.of O9.out C9'.out).grown PR.stab hg4 (fun g hg he => own_apart O8.out O9.out (by decide) g hg he) (fun u hu => Kept.grown O8.out hg4 (by rintro rfl; revert hu; decide)))
              clear ho4 hg4 p0
              obtain ⟨A4, c4, xs4, rfl, _, _, _, _⟩ := HQ4.out.parts
              obtain ⟨g2, o2, A2, c2, rfl, _, HL2, q0, _⟩ := HCG.out w4 HX4.out
              go_wp2_with fail
              refine (CLN.out A2 c2 w4 HL2.out).mono ?_
              rintro e w5 ⟨v5, rfl, hv5, hx5⟩
              obtain ⟨A5, c5, rfl, _, _, HV5⟩ := hv5.parts
              have HX5 := Lib.hid (HX4.out.trans hx5)
              have HO5 := Lib.hid (O94.out.ext PR.stab hx5)
              have HQ5 := Lib.hid (HQ4.out.ext GR.stab hx5)
              obtain ⟨A', c', xs95, e, _, _, R95, C95⟩ := HO5.out.parts
              injection e with e1 _ e2
              subst e1 e2
              obtain ⟨A', c', xs85, e, _, _, R85, C85⟩ := HQ5.out.parts
              injection e with e1 _ e2
              subst e1 e2
              have hw5 := HX5.out.size
              clear hx5 hv5 q0
              go_wp2_with (at_builtin; refine wpList_app1 rfl _ _ 30 rfl w1.heap.size rats_slice _ _ _ rfl R95.out #[.slice A5 p.length c5] 1 1 rfl rfl rfl hbt hw5 ?_)
              intro v' w6 ho6 hg6 _
              have O96 : Hid (OwnL tRats 1 PR w1.heap.size w6 v' (cs ++ [p])) := OwnL.snoc (R := PR) (w := w5) (x := p) PR.stab (by decide) R95.out C95.out ⟨A5, c5, rfl, HV5.out⟩ ho6 hg6
              have O86 := Lib.hid (HQ5.out.grown GR.stab hg6 (fun g hg he => own_apart R95.out R85.out (by decide) g hg he) (fun u hu => Kept.grown R95.out hg6 (by rintro rfl; revert hu; decide)))
              have HX6 := Lib.hid (HX5.out.grownO R95.out hg6)
              clear ho6 hg6
              go_wp2
              go_roundw
              case rel => exact ⟨cs ++ [p], by rw [List.length_append]; exact hck, by rw [List.length_append]; go_num, HGN, by have h := O86; rw [List.length_append] at h; exact h, O96, HX6⟩
              case measure => simp [RowKit.intOf]; omega
      · obtain hck : cs.length = k := by omega
        go_wp2
        go_ret
        exact ⟨A9, c9, cs, rfl, hcl, HGR.out, .inl hck, HO9.out.ls, HE1.out.trans HXo.out⟩
end Go.Proofs.YtlfcicfebhjchaaGreatDoor
