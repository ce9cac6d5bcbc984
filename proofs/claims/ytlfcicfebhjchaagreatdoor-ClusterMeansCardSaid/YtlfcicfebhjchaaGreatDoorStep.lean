/- cluster.step. -/
import Derived.Test.YtlfcicfebhjchaaGreatDoorRw
namespace Go.Proofs.YtlfcicfebhjchaaGreatDoor
open Go.RowKit Go.Lib

/-- append(s, x), as one operation -/
theorem wp_app2 {P : Program} {o : Oper} {a : Act} {w : World} {K : Act → World → Prop} {Q : Exit → Act → World → Prop} (s x : Operand) (t : TypeId)
    (ho : o.op = .call { callee := .builtin .append, args := #[s, x], argTypes := #[t, t] })
    (base : Nat) {e : TypeId} {size bytes : Nat} (T : SliceTy P t e size bytes)
    (v : Value) (n : Nat) (xs : List Value) (hs : a.eval s = v) (hown : w.ownsRow base e size v n xs)
    (cs : Array Value) (m c : Nat) (hx : a.eval x = .slice (some ⟨w.heap.size, 0, none⟩) m c) (hl : cs.size = m * size) (h1 : cs.toList.all (·.oneCell') = true)
    (hbytes : (n + m) * bytes ≤ 140737488355328) (hbase : base ≤ w.heap.size)
    (h : ∀ v' w', w'.ownsRow base e size v' (n + m) (xs ++ cs.toList) → w.grownBy w' v.ownBlock → (v'.ownBlock = v.ownBlock ∨ v'.ownBlock = some (w.heap.size + 1)) → K (a.put o.dst v') w') : o.wp P a (w.alloc (.cells cs e)) K Q := by
  obtain ⟨i, z, hi, hz, hz1, hz2, hz3⟩ := T.inf
  have hle : n + m ≤ maxLen := by
    have hp := T.bpos
    have := Nat.le_mul_of_pos_right (n + m) hp
    unfold maxLen; omega
  have hnews : ∀ j u, cs.toList[j]? = some u → (w.alloc (.cells cs e)).cell? ((⟨w.heap.size, 0, none⟩ : Addr).add j) = some u := by
    intro j u hu
    obtain ⟨g, o', cur, fr, hA, hg, hcu⟩ := Sl.new w e cs j u hu
    injection hA with hA
    rw [hA, Addr.add_lit]
    simp [World.cell?, hg, hcu]
  obtain ⟨v', w', hr, h2, h3, _, h5⟩ := run_append_own_at (P := P) (w.alloc (.cells cs e)) base t o.type e i z size bytes T.ht hi hz hz1 hz2 hz3 T.pos v n xs (hown.alloc _) ⟨w.heap.size, 0, none⟩ m c cs.toList (by simpa using hl) hnews (List.all_eq_true.1 h1) hle hbytes (by simp; omega)
  unfold Oper.wp execOp
  simp only [ho, resolve, invoke, builtin, Sem.run_bind, Sem.run_pure, Result.andThen_ok, List.map_toArray, List.map_cons, List.map_nil, hs, hx, hr]
  exact h v' w' h2 (grownBy_alloc h3) (by simpa using h5)
theorem blk_grown {w w' : World} {g base k n : Nat} {t e : TypeId} {l xs : List Value} {v : Value} (hB : Blk w g t l) (hown : w.ownsRow base e k v n xs) (hg : w.grownBy w' v.ownBlock) (hl : g < base) : Blk w' g t l :=
  (hg.block g hB.lt (fun h => by have := (hown.lt g h.symm).1; omega)).trans hB
theorem rows_grown {w w' : World} {b base k n' n m : Nat} {g cp : Nat → Nat} {f : Nat → List Rat} {xs : List Value} {v : Value} (h : Rows w b n m g cp f) (hown : w.ownsRow base tFrac k v n' xs) (hg : w.grownBy w' v.ownBlock) (hne : ∀ i, i < m → v.ownBlock ≠ some (g i)) : Rows w' b n m g cp f :=
  h.keep (fun i hi => hg.block _ (h.lt hi) (fun e => hne i hi e.symm)) (Kept.grown hown hg (by decide))
theorem ch_kept {w w' : World} {xs : List Value} {l : List Rat} (h : Ch (FrR w) xs l) (hk : Kept tU64 w w') : Ch (FrR w') xs l :=
  h.mono fun c x hc => FrR.stab _ _ _ _ (fun t ht => by simp only [List.mem_singleton] at ht; subst ht; exact hk) hc
/-- a store of a slice into a row of slices: the world behind it, named -/
theorem store1 {a w : World} {g k : Nat} {l : List Value} (hB : Blk w g tFracs l) (he : Ext a w) (hg : a.heap.size ≤ g) (x : Value) :
    ∃ W', w.setCell ⟨g, k, none⟩ x = W' ∧ Hid (Blk W' g tFracs (l.set k x)) ∧ Hid (Kept tU64 w W') ∧ Hid (Kept tFrac w W') ∧ Hid (Ext a W') ∧ Hid (Only g w W') :=
  ⟨_, rfl, hB.set_ k x, hB.kept_set (by decide) _ _, hB.kept_set (by decide) _ _, he.setCell (p := ⟨g, k, none⟩) hg x, (Only.refl g w).set_ k x⟩
theorem fracs_info : (Tryz.prog.info? tFracs).map (fun i => (i.zero, i.size, i.bytes)) = some (some (.slice none 0 0), 1, 24) := by kernel_rfl
theorem make_fracs (n : Nat) (h : n ≤ 1000000) (w : World) :
    (Instr.makeSlice 69 (.int .i64 (n : Int)) (.int .i64 (n : Int))).run Tryz.prog w = .ok (.slice (some ⟨w.heap.size, 0, none⟩) n n) (w.alloc (.cells (List.replicate n (Value.slice none 0 0)).toArray tFracs)) := by
  obtain ⟨i0, hi, hz0, hz1, hz2⟩ := info_parts fracs_info
  have hr := run_make (P := Tryz.prog) w 69 tFracs i0 (.slice none 0 0) Tryz.underlying69 hi hz0 .i64 .i64 (n : Int) (n : Int) (by omega) (Int.le_refl _) (by rw [hz2]; omega) (by omega)
  simp only [Int.toNat_natCast, hz1, Nat.mul_one] at hr
  rw [hr, ← madeCells_one]
  rfl
theorem big17 {t : Nat} (h : t < 100) : 1 + t * 401 + 400 + 1 ≤ 1000000 := by omega
theorem big21 {t : Nat} (h : t < 100) : 1 + t * 801 + (400 + 400) + 1 ≤ 1000000 := by omega
theorem big32 {t : Nat} (h : t ≤ 100) : 1 + t * 801 + (1 + t * 401) ≤ 1000000 := by omega
theorem bt64 {j n : Nat} (h : j ≤ n) (hn : n ≤ 3) : (j + 1) * 64 ≤ 140737488355328 := by omega
theorem set_mid' {α : Type} (a : List α) (x y : α) (b : List α) : (a ++ x :: b).set a.length y = a ++ y :: b := by
  rw [List.set_append_right _ _ (Nat.le_refl _), Nat.sub_self]; rfl
theorem get_mid {α : Type} (a : List α) (x : α) (b : List α) : (a ++ x :: b)[a.length]? = some x := by simp
theorem nil_row (m i : Nat) (h : i < m) : (List.replicate (m - i) (Value.slice none 0 0)) = .slice none 0 0 :: List.replicate (m - (i + 1)) (.slice none 0 0) := by
  rw [show m - i = (m - (i + 1)) + 1 by omega, List.replicate_succ]
/-- a centre behind a step -/
def stepR (n : Nat) (l : List Pt) (cs : List (List Rat)) (a : Nat) : List Rat := if wsum l cs a = 0 then cs.getD a [] else (List.range n).map fun k => ssum l cs a k / wsum l cs a
theorem stepF_eq (n : Nat) (l : List Pt) (cs : List (List Rat)) : stepF n l cs = (List.range cs.length).map (stepR n l cs) := rfl
theorem num_zero {q : Rat} (h : ¬ q = 0) (h0 : 0 ≤ q) : 0 < q.num := by
  have h1 := @Rat.num_nonneg q
  have h2 : q.num ≠ 0 := fun e => h (Rat.num_eq_zero.1 e)
  have h3 := h1.2 h0
  omega
theorem frow_cells (w : World) : ∀ c x, FrR w c x → ∀ u ∈ c, u.oneCell' = true := by
  rintro c x ⟨b, A, n, c1, b', A', n', c2, rfl, _⟩ u hu
  simp only [List.mem_cons, List.not_mem_nil, or_false] at hu
  rcases hu with rfl | rfl | rfl | rfl <;> rfl
theorem clone_fl {w : World} {A : Option Addr} {n c : Nat} {l : List Rat} (h : FL w (.slice A n c) l) (hn : l.length = n) (h0 : n ≤ 3) : ∃ xs, Ch (FrR w) xs l ∧ ∀ w', Ext w w' → Calls Tryz.prog 75 #[.slice A n c] w' fun e w'' => ∃ v', e = .returned v' ∧ w''.ownsRow w'.heap.size tFrac 4 v' n xs ∧ Ext w' w'' := by
  obtain ⟨A', c', xs, e, h2, h3, h4, h5, h6⟩ := h
  injection e with e1 e2 e3
  subst e1 e3
  exact ⟨xs, h6, fun w' hx => clone_frac A n c xs w' h4 (h5.ext hx) (by rw [Ch.length (FrR.four w) h6, hn]) (by omega) (Ch.all (frow_cells w) h6) (by omega)⟩
set_option maxRecDepth 100000 in
set_option maxHeartbeats 4000000 in
theorem cstep_any (vp vc : Value) (n : Nat) (l : List Pt) (cs : List (List Rat)) (w : World) (hq : QL w vp l) (hc : GL w vc cs) (hg : Good n l cs) (h100 : l.length ≤ 100) :
    Calls Tryz.prog 42 #[vp, vc] w fun e w' => ∃ A c, e = .returned (.slice A cs.length c) ∧ GL w' (.slice A cs.length c) (stepF n l cs) ∧ Ext w w' := by
  obtain ⟨A, ca, rfl, _, hca, HQ⟩ := hq.parts
  obtain ⟨B, cb, rfl, _, hcb, HC⟩ := hc.parts
  have hca : ca ≤ 9223372036854775807 := by unfold maxLen at hca; omega
  have hcb : cb ≤ 9223372036854775807 := by unfold maxLen at hcb; omega
  have HG := Lib.hid hg
  have hn1 := hg.n1
  have hn3 := hg.n3
  have hm4 := hg.cts
  clear hq hc hg
  obtain ⟨m, hm⟩ : ∃ m, cs.length = m := ⟨_, rfl⟩
  have HM := Lib.hid hm
  rw [hm] at hm4 HC ⊢
  have hmk1 := make_frac m (by omega) w
  have hmk2 := make_fracs m (by omega) (w.alloc (.cells (zfracs m).toArray tFrac))
  rw [show (w.alloc (.cells (zfracs m).toArray tFrac)).heap.size = w.heap.size + 1 by simp] at hmk2
  clear hm
  go_enter Tryz.func42, Tryz.ntmps42
  go_wp2_with fail
  refine box2 (P := fun W => Code.wp _ _ _ _ W) fun W HX BW BS => ?_
  clear hmk1 hmk2
  have BW0 : Hid (Blk W w.heap.size tFrac ([] ++ zfracs (m - 0))) := BW
  have BS0 : Hid (Blk W (w.heap.size + 1) tFracs (heads n 0 (fun _ => 0) (fun _ => 0) ++ List.replicate (m - 0) (.slice none 0 0))) := BS
  go_loopw [7, 25] (fun _ v25 wr => ∃ (i : Nat) (xs : List Value) (g cp : Nat → Nat), i ≤ m ∧ v25 = .int .i64 i ∧ Hid (Blk wr w.heap.size tFrac (xs ++ zfracs (m - i))) ∧ Hid (Ch (FrR wr) xs (List.replicate i 0)) ∧ Hid (Blk wr (w.heap.size + 1) tFracs (heads n i g cp ++ List.replicate (m - i) (.slice none 0 0))) ∧ Hid (Rows wr (w.heap.size + 2) n i g cp (fun _ => List.replicate n 0)) ∧ Hid (Ext w wr)) (fun _ v25 _ => m - (RowKit.intOf v25).toNat)
  case atStart => exact ⟨0, [], fun _ => 0, fun _ => 0, Nat.zero_le _, rfl, BW0, rfl, BS0, Rows.nil, HX⟩
  case round =>
    obtain ⟨i, xs, g, cp, hi, rfl, HBW, HCW, HBS, HRS, HXS⟩ := hrel
    by_cases him : i < m
    · have hic : i < cs.length := by rw [HM.out]; exact him
      go_wp2_with fail
      refine (xzero_any wr).mono ?_
      rintro e w1 ⟨v1, rfl, hv1, hx1⟩
      obtain ⟨b, A1, n1, c1, b', A2, n2, c2, rfl, _, _⟩ := hv1.parts
      have hxl : xs.length = i * 4 := by rw [Ch.length (FrR.four wr) HCW.out, List.length_replicate]
      have HB1 : Hid (Blk w1 w.heap.size tFrac (xs ++ (zfour ++ zfracs (m - (i + 1))))) := by rw [Hid, ← zfracs_succ him]; exact HBW.out.ext hx1
      obtain ⟨k0, k1, k2, k3⟩ := row4_cells HB1.out hxl
      have f0 := HB1.out.frozen (i * 4)
      have f1 := HB1.out.frozen (i * 4 + 1)
      have f2 := HB1.out.frozen (i * 4 + 2)
      have f3 := HB1.out.frozen (i * 4 + 3)
      obtain ⟨W', hW', HB2, HK2, HX2, HO2⟩ := store4 HB1.out hxl (HXS.out.trans hx1) (Nat.le_refl _) (.bool b) (.slice A1 n1 c1) (.bool b') (.slice A2 n2 c2)
      have HW := Lib.hid hW'
      have HCW2 : Hid (Ch (FrR W') (xs ++ [.bool b, .slice A1 n1 c1, .bool b', .slice A2 n2 c2]) (List.replicate (i + 1) 0)) := by
        rw [Hid, List.replicate_succ']
        refine Ch.snoc ⟨b, A1, n1, c1, b', A2, n2, c2, rfl, hv1.keep HK2.out⟩ (HCW.out.mono fun c x hc => ?_)
        exact FrR.stab _ _ _ _ (fun t ht => by simp only [List.mem_singleton] at ht; subst ht; exact (Kept.of_below hx1).trans HK2.out) hc
      have HBW2 : Hid (Blk W' w.heap.size tFrac ((xs ++ [.bool b, .slice A1 n1 c1, .bool b', .slice A2 n2 c2]) ++ zfracs (m - (i + 1)))) := by rw [List.append_assoc]; exact HB2
      have HBS2 : Hid (Blk W' (w.heap.size + 1) tFracs (heads n i g cp ++ (.slice none 0 0 :: List.replicate (m - (i + 1)) (.slice none 0 0)))) := by
        rw [Hid, ← nil_row m i him]
        exact (HBS.out.ext hx1).only HO2.out (by omega)
      have HRS2 := Lib.hid ((HRS.out.ext hx1).low HO2.out (by omega) HK2.out)
      clear hW' HB2 HK2 HO2 HB1 hx1 hv1
      go_upto_region 7 with fail
      rw [HW.out]
      clear k0 k1 k2 k3 f0 f1 f2 f3 HW hxl
      obtain ⟨g1, o1, Ac, cc, hAe, hg1, HL1, hc1⟩ := OneR.get (GL.ext HC.out HX2.out) hic
      rw [HG.out.cn _ (List.getElem_mem hic)] at hc1
      subst hAe
      clear HL1
      generalize xs ++ [.bool b, .slice A1 n1 c1, .bool b', .slice A2 n2 c2] = xs2 at *
      clear HBW HCW HBS HRS
      generalize wr = w0 at *
      go_wp2_with fail
      go_loopw [37] (fun v37 wr => ∃ (j : Nat) (v : Value), j ≤ n ∧ v37 = .int .i64 j ∧ Hid (OwnL tFrac 4 FrR (w.heap.size + 2) wr v (List.replicate j 0)) ∧ Hid (Blk wr (w.heap.size + 1) tFracs (heads n i g cp ++ (v :: List.replicate (m - (i + 1)) (.slice none 0 0)))) ∧ Hid (∀ k, k < i → v.ownBlock ≠ some (g k)) ∧ Hid (Rows wr (w.heap.size + 2) n i g cp (fun _ => List.replicate n 0)) ∧ Hid (Blk wr w.heap.size tFrac (xs2 ++ zfracs (m - (i + 1)))) ∧ Hid (Ch (FrR wr) xs2 (List.replicate (i + 1) 0)) ∧ Hid (Ext w wr)) (fun v37 _ => n - (RowKit.intOf v37).toNat)
      case atStart => exact ⟨0, .slice none 0 0, Nat.zero_le _, rfl, OwnL.nil, HBS2, (fun k _ h => by cases h), HRS2, HBW2, HCW2, HX2⟩
      case round =>
        obtain ⟨j, v, hj, rfl, HO, HBSj, HNE, HRj, HBWj, HCWj, HXj⟩ := hrel
        obtain ⟨Av, cv, xv, rfl, hcv, hcvm, HRv, HCv⟩ := HO.out.parts
        have HLK : Hid ((List.replicate j (0 : Rat)).length = j) := List.length_replicate
        rw [HLK.out] at HRv
        by_cases hjn : j < n
        · have HBT := Lib.hid (bt64 hj hn3)
          have HCE := Lib.hid (get_mid (heads n i g cp) (.slice Av j cv) (List.replicate (m - (i + 1)) (.slice none 0 0)))
          have HST := Lib.hid (fun y => set_mid' (heads n i g cp) (.slice Av j cv) y (List.replicate (m - (i + 1)) (.slice none 0 0)))
          rw [heads_length] at HCE HST
          rw [HLK.out] at HBSj HNE
          have hcell := HBSj.out.cell HCE.out
          go_upto_region 9 with fail
          obtain ⟨S, hSd⟩ : ∃ S : World → Prop, S = fun w' => w'.cell? ⟨w.heap.size + 1, i, none⟩ = some (.slice Av j cv) := ⟨_, rfl⟩
          have HSI : Hid (∀ w', S w' → w'.cell? ⟨w.heap.size + 1, i, none⟩ = some (.slice Av j cv)) := by rw [Hid, hSd]; exact fun _ h => h
          have HSE : Hid (∀ w', Ext wr w' → S w') := by rw [Hid, hSd]; exact fun w' h => (HBSj.out.ext h).cell HCE.out
          have HSB : Hid (∀ w', Blk w' (w.heap.size + 1) tFracs (heads n i g cp ++ (.slice Av j cv :: List.replicate (m - (i + 1)) (.slice none 0 0))) → S w') := by rw [Hid, hSd]; exact fun w' h => h.cell HCE.out
          have HS0 : Hid (S wr.drew) := HSE.out _ (Ext.refl wr).drew
          clear hSd hcell
          refine AnyT.start (S := S) (T := fun j => decide (10 ≤ j)) (by kernel_rfl) ?_
          refine AnyT.load 0 39 (.slice (some ⟨w.heap.size + 1, 0, none⟩) m m) rfl (by kernel_rfl) (by kernel_rfl) (by kernel_rfl) (by kernel_rfl) (by kernel_rfl) (fun _ _ _ h => h) HS0.out ?_ ?_
          · intro o ho
            simp only [List.getElem?_toArray, List.getElem?_cons_zero, Option.some.injEq] at ho
            subst ho
            refine ⟨rfl, rfl, fun w' hSw => ?_⟩
            have hs := HSI.out w' hSw
            go_split_ands
            go_simp
          simp only [Act.put, List.setIfInBounds_toArray, List.set_cons_zero, List.set_cons_succ]
          refine AnyT.load 1 40 (.int .i64 i) rfl (by kernel_rfl) (by kernel_rfl) (by kernel_rfl) (by kernel_rfl) (by kernel_rfl) (fun _ _ _ h => h) HS0.out ?_ ?_
          · intro o ho
            simp only [List.getElem?_toArray, List.getElem?_cons_succ, List.getElem?_cons_zero, Option.some.injEq] at ho
            subst ho
            refine ⟨rfl, rfl, fun w' hSw => ?_⟩
            have hs := HSI.out w' hSw
            go_split_ands
            go_simp
          simp only [Act.put, List.setIfInBounds_toArray, List.set_cons_zero, List.set_cons_succ]
          refine AnyT.load 2 41 (.slice (some ⟨w.heap.size + 1, 0, none⟩) m m) rfl (by kernel_rfl) (by kernel_rfl) (by kernel_rfl) (by kernel_rfl) (by kernel_rfl) (fun _ _ _ h => h) HS0.out ?_ ?_
          · intro o ho
            simp only [List.getElem?_toArray, List.getElem?_cons_succ, List.getElem?_cons_zero, Option.some.injEq] at ho
            subst ho
            refine ⟨rfl, rfl, fun w' hSw => ?_⟩
            have hs := HSI.out w' hSw
            go_split_ands
            go_simp
          simp only [Act.put, List.setIfInBounds_toArray, List.set_cons_zero, List.set_cons_succ]
          refine AnyT.load 3 42 (.int .i64 i) rfl (by kernel_rfl) (by kernel_rfl) (by kernel_rfl) (by kernel_rfl) (by kernel_rfl) (fun _ _ _ h => h) HS0.out ?_ ?_
          · intro o ho
            simp only [List.getElem?_toArray, List.getElem?_cons_succ, List.getElem?_cons_zero, Option.some.injEq] at ho
            subst ho
            refine ⟨rfl, rfl, fun w' hSw => ?_⟩
            have hs := HSI.out w' hSw
            go_split_ands
            go_simp
          simp only [Act.put, List.setIfInBounds_toArray, List.set_cons_zero, List.set_cons_succ]
          refine AnyT.load 4 43 (.pointer (some ⟨w.heap.size + 1, i, none⟩)) rfl (by kernel_rfl) (by kernel_rfl) (by kernel_rfl) (by kernel_rfl) (by kernel_rfl) (fun _ _ _ h => h) HS0.out ?_ ?_
          · intro o ho
            simp only [List.getElem?_toArray, List.getElem?_cons_succ, List.getElem?_cons_zero, Option.some.injEq] at ho
            subst ho
            refine ⟨rfl, rfl, fun w' hSw => ?_⟩
            have hs := HSI.out w' hSw
            go_split_ands
            go_simp
          simp only [Act.put, List.setIfInBounds_toArray, List.set_cons_zero, List.set_cons_succ]
          refine AnyT.load 5 44 (.slice Av j cv) rfl (by kernel_rfl) (by kernel_rfl) (by kernel_rfl) (by kernel_rfl) (by kernel_rfl) (fun _ _ _ h => h) HS0.out ?_ ?_
          · intro o ho
            simp only [List.getElem?_toArray, List.getElem?_cons_succ, List.getElem?_cons_zero, Option.some.injEq] at ho
            subst ho
            refine ⟨rfl, rfl, fun w' hSw => ?_⟩
            have hs := HSI.out w' hSw
            go_split_ands
            go_simp
          simp only [Act.put, List.setIfInBounds_toArray, List.set_cons_zero, List.set_cons_succ]
          refine AnyT.step 6 (by kernel_rfl) ?_
          intro o ho K hK
          simp only [List.getElem?_toArray, List.getElem?_cons_succ, List.getElem?_cons_zero, Option.some.injEq] at ho
          subst ho
          go_simp
          refine (xzero_any _).mono ?_
          rintro e w1 ⟨v1, rfl, hv1, hx1⟩
          obtain ⟨r0, R0, r1, r2, s0, S0, s1, s2, rfl, _, _⟩ := hv1.parts
          have hy1 := (Ext.refl wr).drew.trans hx1
          refine hK.out _ _ (fun _ => HSE.out _ hy1) ?_
          have HV1 := Lib.hid hv1
          refine AnyT.step 7 (by kernel_rfl) ?_
          intro o ho K hK
          simp only [List.getElem?_toArray, List.getElem?_cons_succ, List.getElem?_cons_zero, Option.some.injEq] at ho
          subst ho
          go_simp
          refine hK.out _ _ (fun _ => HSE.out _ (hy1.alloc _)) ?_
          have HO1 := Lib.hid (own_extR HRv.out hy1)
          have hw1 : w.heap.size + 2 ≤ w1.heap.size := Nat.le_trans (Nat.succ_le_of_lt HBSj.out.lt) hy1.size
          refine AnyT.step 8 (by kernel_rfl) ?_
          intro o ho K hK
          simp only [List.getElem?_toArray, List.getElem?_cons_succ, List.getElem?_cons_zero, Option.some.injEq] at ho
          subst ho
          refine if_go rfl ?_
          refine wp_app2 _ _ tFracs rfl (w.heap.size + 2) frac_slice _ _ _ rfl HO1.out #[.bool r0, .slice R0 r1 r2, .bool s0, .slice S0 s1 s2] 1 1 rfl rfl rfl HBT.out hw1 ?_
          intro v' w2 ho2 hg2 hb2
          obtain ⟨A2, c2, rfl, _, _, _⟩ := own_parts ho2
          have O2 : Hid (OwnL tFrac 4 FrR (w.heap.size + 2) w2 (.slice A2 (j + 1) c2) (List.replicate (j + 1) 0)) := by
            rw [Hid, List.replicate_succ']
            exact OwnL.snoc (R := FrR) (w := w1) (x := 0) FrR.stab (by decide) (by rw [HLK.out]; exact HO1.out) (ch_kept HCv.out (.of_below hy1)) ⟨r0, R0, r1, r2, s0, S0, s1, s2, rfl, HV1.out⟩ (by rw [HLK.out]; exact ho2) hg2
          have K2 := Lib.hid (Kept.grown (t := tU64) HO1.out hg2 (by decide))
          have BS2 := Lib.hid (blk_grown (HBSj.out.ext hy1) HO1.out hg2 (by omega))
          have BW2 := Lib.hid (blk_grown (HBWj.out.ext hy1) HO1.out hg2 (by omega))
          have CW2 := Lib.hid (ch_kept (ch_kept HCWj.out (.of_below hy1)) K2.out)
          have R2 := Lib.hid (rows_grown (HRj.out.ext hy1) HO1.out hg2 HNE.out)
          have X2 := Lib.hid (grown_below (HXj.out.trans hy1) HO1.out hg2 (by omega))
          have NE2 : Hid (∀ k, k < i → (Value.slice A2 (j + 1) c2).ownBlock ≠ some (g k)) := by
            intro k hk h
            rcases hb2 with h2 | h2
            · exact HNE.out k hk (h2.symm.trans h)
            · rw [h2] at h
              injection h with h
              have := (HRj.out.ext hy1).lt hk
              omega
          clear ho2 hg2 hb2
          simp only [Act.put, List.setIfInBounds_toArray, List.set_cons_zero, List.set_cons_succ]
          refine hK.out _ _ (fun _ => HSB.out _ BS2.out) ?_
          refine AnyT.step 9 (by kernel_rfl) ?_
          intro o ho K hK
          simp only [List.getElem?_toArray, List.getElem?_cons_succ, List.getElem?_cons_zero, Option.some.injEq] at ho
          subst ho
          go_simp
          refine hK.out _ _ (fun _ => HSB.out _ BS2.out) ?_
          have i0 := BS2.out.cell HCE.out
          have i1 := BS2.out.frozen i
          obtain ⟨W', hW', BS3, K3, K3', X3, N3⟩ := store1 (k := i) BS2.out X2.out (by omega) (.slice A2 (j + 1) c2)
          rw [HST.out] at BS3
          have HW := Lib.hid hW'
          have O3 : Hid (OwnL tFrac 4 FrR (w.heap.size + 2) W' (.slice A2 (j + 1) c2) (List.replicate (j + 1) 0)) := O2.out.only FrR.stab N3.out (by omega) (fun u hu => by simp only [List.mem_singleton] at hu; subst hu; exact K3.out)
          have R3 := Lib.hid (R2.out.low N3.out (by omega) K3.out)
          have BW3 := Lib.hid (BW2.out.only N3.out (by omega))
          have CW3 := Lib.hid (ch_kept CW2.out K3.out)
          clear hW' hy1 hx1 hv1
          refine AnyT.step 10 (by kernel_rfl) ?_
          intro o ho K hK
          simp only [List.getElem?_toArray, List.getElem?_cons_succ, List.getElem?_cons_zero, Option.some.injEq] at ho
          subst ho
          go_simp
          refine hK.out _ _ (fun h => by cases h) ?_
          refine AnyT.done (by kernel_rfl) ?_
          rw [HW.out]
          clear i0 i1
          go_wp2_with fail
          go_roundw
          case rel => exact ⟨j + 1, _, by omega, by go_num, O3, BS3, NE2, R3, BW3, CW3, X3⟩
          case measure => simp [RowKit.intOf]; omega
        · obtain rfl : j = n := by omega
          obtain ⟨G, rfl, hG, hnc, hcm, HROW⟩ := Row.of_own HRv.out HCv.out (by omega)
          rw [HLK.out] at HBSj HNE
          have HRN := Lib.hid (Rows.new (i := i) (m' := i + 1) HRj.out (fun a h1 h2 => by omega) hG List.length_replicate hnc hcm HROW (fun a ha _ e => HNE.out a ha (by rw [e]; rfl)))
          have HHD : Hid (heads j i g cp ++ (Value.slice (some ⟨G, 0, none⟩) j cv :: List.replicate (m - (i + 1)) (.slice none 0 0)) = heads j (i + 1) (fun a => if a = i then G else g a) (fun a => if a = i then cv else cp a) ++ List.replicate (m - (i + 1)) (.slice none 0 0)) := by
            rw [Hid, heads_succ, List.append_assoc, if_pos rfl, if_pos rfl, heads_congr (n := j) (m := i) (g := g) (cp := cp) (g' := fun a => if a = i then G else g a) (cp' := fun a => if a = i then cv else cp a) (fun a ha => ⟨by rw [if_neg (by omega)], by rw [if_neg (by omega)]⟩)]
            rfl
          rw [HHD.out] at HBSj
          have HRN' := Lib.hid (HRN.out.congr (f' := fun _ => List.replicate j 0) (fun a _ => by split <;> rfl))
          clear HO HRv HCv HROW HHD
          go_wp2_with fail
          go_roundw
          case rel => exact ⟨i + 1, xs2, _, _, by omega, by go_num, HBWj, HCWj, HBSj, HRN', HXj⟩
          case measure => simp [RowKit.intOf]; omega
    · obtain rfl : m = i := by omega
      have HW0 : Hid (Row wr w.heap.size ((List.range m).map (wsum (l.take 0) cs))) := by
        rw [Hid, show (List.range m).map (wsum (l.take 0) cs) = List.replicate m 0 from by
          rw [List.eq_replicate_iff]
          exact ⟨by simp, fun b hb => by obtain ⟨a, _, rfl⟩ := List.mem_map.1 hb; rfl⟩]
        exact ⟨xs, zfracs (m - m), HBW.out, HCW.out⟩
      have HS0 : Hid (Rows wr (w.heap.size + 2) n m g cp (fun a => (List.range n).map (ssum (l.take 0) cs a))) := HRS.out.congr (fun a _ => by
          symm
          rw [List.eq_replicate_iff]
          exact ⟨by simp, fun b hb => by obtain ⟨a, _, rfl⟩ := List.mem_map.1 hb; rfl⟩)
      have HB0 : Hid (Blk wr (w.heap.size + 1) tFracs (heads n m g cp)) := by simpa [Nat.sub_self] using HBS
      clear HBW HCW HBS HRS BW0 BS0 HX BW BS him hi
      generalize wr = w0 at *
      go_wp2_with fail
      go_loopw [9, 10, 11, 12, 13, 53] (fun _ _ _ _ _ v53 wr => ∃ t : Nat, t ≤ l.length ∧ v53 = .int .i64 t ∧ Hid (Row wr w.heap.size ((List.range m).map (wsum (l.take t) cs))) ∧ Hid (Rows wr (w.heap.size + 2) n m g cp (fun a => (List.range n).map (ssum (l.take t) cs a))) ∧ Hid (Blk wr (w.heap.size + 1) tFracs (heads n m g cp)) ∧ Hid (Ext w wr)) (fun _ _ _ _ _ v53 _ => l.length - (RowKit.intOf v53).toNat)
      case atStart => exact ⟨0, Nat.zero_le _, rfl, HW0, HS0, HB0, HXS⟩
      case round =>
        obtain ⟨t, ht, rfl, HRW, HRS, HBS, HXt⟩ := hrel
        by_cases htl : t < l.length
        · have hmem := List.getElem_mem htl
          have HWN := Lib.hid (fun a => wsum_next (cs := cs) htl a)
          have HSN := Lib.hid (fun a k => ssum_next (cs := cs) htl a k)
          have FWt := Lib.hid (fun a => wsum_fit HG.out a t ht)
          have FSt := Lib.hid (fun a k => ssum_fit HG.out a k t ht)
          have FQ := Lib.hid (HG.out.wf _ hmem)
          have FP := Lib.hid (HG.out.pf _ hmem)
          have HPN := Lib.hid (HG.out.pn _ hmem)
          have HNI : Hid (-1 ≤ (near l[t].1 cs).1 ∧ (near l[t].1 cs).1 < m) := by rw [← HM.out]; exact near1
          obtain ⟨g1, o1, Aq, cq, x0, X0, x1, x2, y0, Y0, y1, y2, rfl, _, HL1, HV1, p0, p1, p2, p3, p4⟩ := QL.get HQ.out htl
          rename_i hlt1
          rw [← HXt.out.cells.1 _ _ hlt1] at p0 p1 p2 p3 p4
          have NR : Hid (∀ w', Ext wr w' → Calls Tryz.prog 37 #[.slice Aq l[t].1.length cq, .slice B m cb] w' fun e w'' => ∃ b A n c b' A' n' c', e = .returned (.tuple #[.int .i64 (near l[t].1 cs).1, .agg #[.bool b, .slice A n c, .bool b', .slice A' n' c']]) ∧ FracV w'' (.agg #[.bool b, .slice A n c, .bool b', .slice A' n' c']) (near l[t].1 cs).2 ∧ Ext w' w'') :=
            fun w' hx => near_any _ _ l[t].1 cs w' (FL.ext HL1.out (HXt.out.trans hx)) (GL.ext HC.out (HXt.out.trans hx)) (fun c hc => by rw [HG.out.cn c hc, HG.out.pn _ hmem]) (by rw [HG.out.pn _ hmem]; exact HG.out.n3) (HG.out.pf _ hmem) HG.out.cf
          clear hmem hlt1
          generalize l[t] = x at *
          obtain ⟨p, q⟩ := x
          simp only at HWN HSN FQ FP HPN HNI HL1 HV1 NR p0
          rw [HPN.out] at p0 NR HL1
          generalize near p cs = nb at *
          obtain ⟨ni, nd⟩ := nb
          simp only at HWN HSN HNI NR
          go_upto_region 15 with fail
          refine box1 (P := fun W => Code.wp _ _ _ _ W) fun W2 HX2 BP => ?_
          have i0 := BP.out.cell (i := 0) rfl
          clear p0 p1 p2 p3 p4
          go_wp2_with fail
          refine (NR.out W2 HX2.out).mono ?_
          rintro e w3 ⟨z0, Z0, z1, z2, t0, T0, t1, t2, rfl, hv3, hx3⟩
          go_upto_region 16 with fail
          refine newbox (P := fun W => Code.wp _ _ _ _ W) hv3 fun wq HXN BX2 hsz3 => ?_
          have hyq := HX2.out.trans (hx3.trans HXN.out)
          have BPQ := Lib.hid (BP.out.ext (hx3.trans HXN.out))
          have HXQ := Lib.hid (HXt.out.trans hyq)
          have RWQ := Lib.hid (HRW.out.ext hyq)
          have RSQ := Lib.hid (HRS.out.ext hyq)
          have BSQ := Lib.hid (HBS.out.ext hyq)
          have hgb : w.heap.size + 1 < wr.heap.size := HBS.out.lt
          have hgq : wr.heap.size < wq.heap.size := BPQ.out.lt
          clear hyq hx3 hv3 i0 HX2 BP BX2 HXN HRW HRS HBS NR hsz3
          by_cases hneg : ni < 0
          · have hd1 : decide (ni < 0) = true := decide_eq_true hneg
            have HW1 : Hid (Row wq w.heap.size ((List.range m).map (wsum (l.take (t + 1)) cs))) := by
              rw [Hid, show (List.range m).map (wsum (l.take (t + 1)) cs) = (List.range m).map (wsum (l.take t) cs) from List.map_congr_left fun a _ => by rw [HWN.out, if_neg (by omega)]]
              exact RWQ.out
            have HS1 : Hid (Rows wq (w.heap.size + 2) n m g cp (fun a => (List.range n).map (ssum (l.take (t + 1)) cs a))) := RSQ.out.congr (fun a _ => List.map_congr_left fun b _ => by rw [HSN.out, if_neg (by omega)])
            go_wp2_with fail
            go_roundw
            case rel => exact ⟨t + 1, by omega, by go_num, HW1, HS1, BSQ, HXQ⟩
            case measure => simp [RowKit.intOf]; omega
          · have hd1 : decide (ni < 0) = false := decide_eq_false hneg
            obtain ⟨i, rfl⟩ : ∃ i : Nat, ni = i := ⟨ni.toNat, by omega⟩
            have him : i < m := by have := HNI.out.2; omega
            have hil : i < ((List.range m).map (wsum (l.take t) cs)).length := by simpa using him
            obtain ⟨r0, R0, r1, r2, s0, S0, s1, s2, xw, yw, BWi, LWi, VWi, hci, HPI⟩ := RWQ.out.at_ hil
            rw [show ((List.range m).map (wsum (l.take t) cs))[i] = wsum (l.take t) cs i by simp] at VWi
            clear hneg
            have FWi := Lib.hid (FWt.out i)
            have hb17 := big17 (t := t) (by omega)
            go_upto_region 17 with fail
            obtain ⟨S, hSd⟩ : ∃ S : World → Prop, S = fun w' => (w'.cell? ⟨w.heap.size, i * 4, none⟩ = some (.bool r0) ∧ w'.cell? ⟨w.heap.size, i * 4 + 1, none⟩ = some (.slice R0 r1 r2) ∧ w'.cell? ⟨w.heap.size, i * 4 + 2, none⟩ = some (.bool s0) ∧ w'.cell? ⟨w.heap.size, i * 4 + 3, none⟩ = some (.slice S0 s1 s2)) ∧ (w'.cell? ⟨wr.heap.size, 1, none⟩ = some (.bool x0) ∧ w'.cell? ⟨wr.heap.size, 2, none⟩ = some (.slice X0 x1 x2) ∧ w'.cell? ⟨wr.heap.size, 3, none⟩ = some (.bool y0) ∧ w'.cell? ⟨wr.heap.size, 4, none⟩ = some (.slice Y0 y1 y2)) := ⟨_, rfl⟩
            have HSI : Hid (∀ w', S w' → (w'.cell? ⟨w.heap.size, i * 4, none⟩ = some (.bool r0) ∧ w'.cell? ⟨w.heap.size, i * 4 + 1, none⟩ = some (.slice R0 r1 r2) ∧ w'.cell? ⟨w.heap.size, i * 4 + 2, none⟩ = some (.bool s0) ∧ w'.cell? ⟨w.heap.size, i * 4 + 3, none⟩ = some (.slice S0 s1 s2)) ∧ (w'.cell? ⟨wr.heap.size, 1, none⟩ = some (.bool x0) ∧ w'.cell? ⟨wr.heap.size, 2, none⟩ = some (.slice X0 x1 x2) ∧ w'.cell? ⟨wr.heap.size, 3, none⟩ = some (.bool y0) ∧ w'.cell? ⟨wr.heap.size, 4, none⟩ = some (.slice Y0 y1 y2))) := by rw [Hid, hSd]; exact fun _ h => h
            have HSE : Hid (∀ w', Ext wq w' → S w') := by rw [Hid, hSd]; exact fun w' h => ⟨row4_cells (BWi.out.ext h) LWi.out, (BPQ.out.ext h).cell (i := 1) rfl, (BPQ.out.ext h).cell (i := 2) rfl, (BPQ.out.ext h).cell (i := 3) rfl, (BPQ.out.ext h).cell (i := 4) rfl⟩
            have HS0 : Hid (S wq.drew) := HSE.out _ (Ext.refl wq).drew
            clear hSd hci
            refine AnyT.start (S := S) (T := fun j => decide (10 ≤ j)) (by kernel_rfl) ?_
            refine AnyT.load 0 66 (.slice (some ⟨w.heap.size, 0, none⟩) m m) rfl (by kernel_rfl) (by kernel_rfl) (by kernel_rfl) (by kernel_rfl) (by kernel_rfl) (fun _ _ _ h => h) HS0.out ?_ ?_
            · intro o ho
              simp only [List.getElem?_toArray, List.getElem?_cons_zero, Option.some.injEq] at ho
              subst ho
              refine ⟨rfl, rfl, fun w' hSw => ?_⟩
              have hs := HSI.out w' hSw
              go_split_ands
              go_simp
            simp only [Act.put, List.setIfInBounds_toArray, List.set_cons_zero, List.set_cons_succ]
            refine AnyT.load 1 67 (.int .i64 i) rfl (by kernel_rfl) (by kernel_rfl) (by kernel_rfl) (by kernel_rfl) (by kernel_rfl) (fun _ _ _ h => h) HS0.out ?_ ?_
            · intro o ho
              simp only [List.getElem?_toArray, List.getElem?_cons_succ, List.getElem?_cons_zero, Option.some.injEq] at ho
              subst ho
              refine ⟨rfl, rfl, fun w' hSw => ?_⟩
              have hs := HSI.out w' hSw
              go_split_ands
              go_simp
            simp only [Act.put, List.setIfInBounds_toArray, List.set_cons_zero, List.set_cons_succ]
            refine AnyT.load 2 68 (.slice (some ⟨w.heap.size, 0, none⟩) m m) rfl (by kernel_rfl) (by kernel_rfl) (by kernel_rfl) (by kernel_rfl) (by kernel_rfl) (fun _ _ _ h => h) HS0.out ?_ ?_
            · intro o ho
              simp only [List.getElem?_toArray, List.getElem?_cons_succ, List.getElem?_cons_zero, Option.some.injEq] at ho
              subst ho
              refine ⟨rfl, rfl, fun w' hSw => ?_⟩
              have hs := HSI.out w' hSw
              go_split_ands
              go_simp
            simp only [Act.put, List.setIfInBounds_toArray, List.set_cons_zero, List.set_cons_succ]
            refine AnyT.load 3 69 (.int .i64 i) rfl (by kernel_rfl) (by kernel_rfl) (by kernel_rfl) (by kernel_rfl) (by kernel_rfl) (fun _ _ _ h => h) HS0.out ?_ ?_
            · intro o ho
              simp only [List.getElem?_toArray, List.getElem?_cons_succ, List.getElem?_cons_zero, Option.some.injEq] at ho
              subst ho
              refine ⟨rfl, rfl, fun w' hSw => ?_⟩
              have hs := HSI.out w' hSw
              go_split_ands
              go_simp
            simp only [Act.put, List.setIfInBounds_toArray, List.set_cons_zero, List.set_cons_succ]
            refine AnyT.load 4 70 (.pointer (some ⟨w.heap.size, i * 4, none⟩)) rfl (by kernel_rfl) (by kernel_rfl) (by kernel_rfl) (by kernel_rfl) (by kernel_rfl) (fun _ _ _ h => h) HS0.out ?_ ?_
            · intro o ho
              simp only [List.getElem?_toArray, List.getElem?_cons_succ, List.getElem?_cons_zero, Option.some.injEq] at ho
              subst ho
              refine ⟨rfl, rfl, fun w' hSw => ?_⟩
              have hs := HSI.out w' hSw
              go_split_ands
              go_simp
            simp only [Act.put, List.setIfInBounds_toArray, List.set_cons_zero, List.set_cons_succ]
            refine AnyT.load 5 71 (.agg #[.bool r0, .slice R0 r1 r2, .bool s0, .slice S0 s1 s2]) rfl (by kernel_rfl) (by kernel_rfl) (by kernel_rfl) (by kernel_rfl) (by kernel_rfl) (fun _ _ _ h => h) HS0.out ?_ ?_
            · intro o ho
              simp only [List.getElem?_toArray, List.getElem?_cons_succ, List.getElem?_cons_zero, Option.some.injEq] at ho
              subst ho
              refine ⟨rfl, rfl, fun w' hSw => ?_⟩
              have hs := HSI.out w' hSw
              go_split_ands
              go_simp
            simp only [Act.put, List.setIfInBounds_toArray, List.set_cons_zero, List.set_cons_succ]
            refine AnyT.load 6 72 (.pointer (some ⟨wr.heap.size, 1, none⟩)) rfl (by kernel_rfl) (by kernel_rfl) (by kernel_rfl) (by kernel_rfl) (by kernel_rfl) (fun _ _ _ h => h) HS0.out ?_ ?_
            · intro o ho
              simp only [List.getElem?_toArray, List.getElem?_cons_succ, List.getElem?_cons_zero, Option.some.injEq] at ho
              subst ho
              refine ⟨rfl, rfl, fun w' hSw => ?_⟩
              have hs := HSI.out w' hSw
              go_split_ands
              go_simp
            simp only [Act.put, List.setIfInBounds_toArray, List.set_cons_zero, List.set_cons_succ]
            refine AnyT.load 7 73 (.agg #[.bool x0, .slice X0 x1 x2, .bool y0, .slice Y0 y1 y2]) rfl (by kernel_rfl) (by kernel_rfl) (by kernel_rfl) (by kernel_rfl) (by kernel_rfl) (fun _ _ _ h => h) HS0.out ?_ ?_
            · intro o ho
              simp only [List.getElem?_toArray, List.getElem?_cons_succ, List.getElem?_cons_zero, Option.some.injEq] at ho
              subst ho
              refine ⟨rfl, rfl, fun w' hSw => ?_⟩
              have hs := HSI.out w' hSw
              go_split_ands
              go_simp
            simp only [Act.put, List.setIfInBounds_toArray, List.set_cons_zero, List.set_cons_succ]
            refine AnyT.step 8 (by kernel_rfl) ?_
            intro o ho K hK
            simp only [List.getElem?_toArray, List.getElem?_cons_succ, List.getElem?_cons_zero, Option.some.injEq] at ho
            subst ho
            go_simp
            refine (fadd_any _ _ _ _ _ (VWi.out.ext (Ext.refl wq).drew) (HV1.out.ext HXQ.out.drew) FWi.out FQ.out hb17).mono ?_
            rintro e w5 ⟨v5, rfl, hv5, hx5⟩
            obtain ⟨e0, E0, e1, e2, f0, F0, f1, f2, rfl, _, _⟩ := hv5.parts
            have hy5 := (Ext.refl wq).drew.trans hx5
            refine hK.out _ _ (fun _ => HSE.out _ hy5) ?_
            refine AnyT.step 9 (by kernel_rfl) ?_
            intro o ho K hK
            simp only [List.getElem?_toArray, List.getElem?_cons_succ, List.getElem?_cons_zero, Option.some.injEq] at ho
            subst ho
            go_simp
            refine hK.out _ _ (fun _ => HSE.out _ hy5) ?_
            have B5 := Lib.hid (BWi.out.ext hy5)
            obtain ⟨k0, k1, k2, k3⟩ := row4_cells B5.out LWi.out
            have j0 := B5.out.frozen (i * 4)
            have j1 := B5.out.frozen (i * 4 + 1)
            have j2 := B5.out.frozen (i * 4 + 2)
            have j3 := B5.out.frozen (i * 4 + 3)
            obtain ⟨W', hW', HB6, HK6, HX6, HO6⟩ := store4 B5.out LWi.out (HXQ.out.trans hy5) (Nat.le_refl _) (.bool e0) (.slice E0 e1 e2) (.bool f0) (.slice F0 f1 f2)
            have HW := Lib.hid hW'
            have RW6 : Hid (Row W' w.heap.size ((List.range m).map (wsum (l.take (t + 1)) cs))) := by
              have h := HPI.out W' e0 E0 e1 e2 f0 F0 f1 f2 (wsum (l.take t) cs i + q) HB6.out ((Kept.of_below hy5).trans HK6.out) (hv5.keep HK6.out)
              rw [range_set] at h
              rw [Hid, show (List.range m).map (wsum (l.take (t + 1)) cs) = (List.range m).map (fun j => if j = i then wsum (l.take t) cs i + q else wsum (l.take t) cs j) from List.map_congr_left fun a _ => by
                rw [HWN.out]
                by_cases ha : a = i
                · subst ha; rw [if_pos rfl, if_pos rfl]
                · rw [if_neg ha, if_neg (by omega)]]
              exact h
            have RS6 := Lib.hid ((RSQ.out.ext hy5).low HO6.out (by omega) HK6.out)
            have BS6 := Lib.hid ((BSQ.out.ext hy5).only HO6.out (by omega))
            have BP6 := Lib.hid ((BPQ.out.ext hy5).only HO6.out (by omega))
            clear hW' hx5 hy5 hv5 HB6 HK6 HO6 B5
            refine AnyT.step 10 (by kernel_rfl) ?_
            intro o ho K hK
            simp only [List.getElem?_toArray, List.getElem?_cons_succ, List.getElem?_cons_zero, Option.some.injEq] at ho
            subst ho
            go_simp
            refine hK.out _ _ (fun h => by cases h) ?_
            refine AnyT.done (by kernel_rfl) ?_
            rw [HW.out]
            clear k0 k1 k2 k3 j0 j1 j2 j3 HW RWQ RSQ BSQ BPQ BWi LWi VWi HPI HSI HSE HS0 HXQ hd1 hil hb17 FWi
            have HR0 : Hid (Rows W' (w.heap.size + 2) n m g cp (fun a => if a = i then (List.range n).map (fun b => if b < 0 then ssum (l.take (t + 1)) cs i b else ssum (l.take t) cs i b) else (List.range n).map (ssum (l.take t) cs a))) := RS6.out.congr (fun a _ => by
              by_cases ha : a = i
              · subst ha; rw [if_pos rfl]; exact List.map_congr_left fun b _ => by rw [if_neg (by omega)]
              · rw [if_neg ha])
            obtain ⟨gb, hgbe⟩ : ∃ gb, wr.heap.size = gb := ⟨_, rfl⟩
            rw [hgbe] at hgb BP6 hgq ⊢
            clear hgbe RS6
            have i0 := BP6.out.cell (i := 0) rfl
            go_wp2_with fail
            clear i0
            generalize wr = w8 at *
            go_loopw [12, 13, 79] (fun _ _ v79 wr => ∃ k : Nat, k ≤ n ∧ v79 = .int .i64 k ∧ Hid (Row wr w.heap.size ((List.range m).map (wsum (l.take (t + 1)) cs))) ∧ Hid (Rows wr (w.heap.size + 2) n m g cp (fun a => if a = i then (List.range n).map (fun b => if b < k then ssum (l.take (t + 1)) cs i b else ssum (l.take t) cs i b) else (List.range n).map (ssum (l.take t) cs a))) ∧ Hid (Blk wr (w.heap.size + 1) tFracs (heads n m g cp)) ∧ Hid (Blk wr gb tPoint [.slice Aq n cq, .bool x0, .slice X0 x1 x2, .bool y0, .slice Y0 y1 y2]) ∧ Hid (Ext w wr)) (fun _ _ v79 _ => n - (RowKit.intOf v79).toNat)
            case atStart => exact ⟨0, Nat.zero_le _, rfl, RW6, HR0, BS6, BP6, HX6⟩
            case round =>
              obtain ⟨k, hk, rfl, HRW, HRS, HBS, HBP, HXk⟩ := hrel
              by_cases hkn : k < n
              · have hkp : k < p.length := by rw [HPN.out]; exact hkn
                obtain ⟨g3, o3, z0, Z0, z1, z2, t0, T0, t1, t2, hAe, _, HVX, a0, a1, a2, a3⟩ := FL.get (FL.ext HL1.out HXk.out) hkp
                subst hAe
                have HPK : Hid (p.getD k 0 = p[k]) := by rw [Hid, List.getD_eq_getElem?_getD, List.getElem?_eq_getElem hkp]; rfl
                have FX := Lib.hid (FP.out _ (List.getElem_mem hkp))
                have FSk := Lib.hid (FSt.out i k)
                have HSK : Hid (ssum (l.take (t + 1)) cs i k = ssum (l.take t) cs i k + q * p[k]) := by rw [Hid, HSN.out, if_pos rfl, HPK.out]
                have hb21 := big21 (t := t) (by omega)
                generalize p[k] = xk at *
                go_upto_region 21 with fail
                refine newbox (P := fun W => Code.wp _ _ _ _ W) HVX.out fun wq HXN BX hsz => ?_
                have RWQ := Lib.hid (HRW.out.ext HXN.out)
                have RSQ := Lib.hid (HRS.out.ext HXN.out)
                have BSQ := Lib.hid (HBS.out.ext HXN.out)
                have BPQ := Lib.hid (HBP.out.ext HXN.out)
                have HXQ := Lib.hid (HXk.out.trans HXN.out)
                have hgp : gb < wr.heap.size := HBP.out.lt
                obtain ⟨z0, Z0, z1, z2, t0, T0, t1, t2, BD, VD⟩ := BX.out.parts
                obtain ⟨hgi, _, hcpi, hcpm, ROW⟩ := RSQ.out.2 i him
                dsimp only at ROW
                rw [if_pos rfl] at ROW
                have hkl : k < ((List.range n).map (fun b => if b < k then ssum (l.take (t + 1)) cs i b else ssum (l.take t) cs i b)).length := by simpa using hkn
                obtain ⟨r0, R0, r1, r2, s0, S0, s1, s2, xw, yw, BWi, LWi, VWi, _, HPI⟩ := ROW.at_ hkl
                rw [show ((List.range n).map (fun b => if b < k then ssum (l.take (t + 1)) cs i b else ssum (l.take t) cs i b))[k] = ssum (l.take t) cs i k by simp] at VWi
                have hcpm : cp i ≤ 9223372036854775807 := by unfold maxLen at hcpm; omega
                have HGH := Lib.hid (heads_get (n := n) (g := g) (cp := cp) him)
                have hgw : g i < wq.heap.size := BWi.out.lt
                clear a0 a1 a2 a3 BX HVX HRW HRS HBS HBP HXN ROW hkp HSN HWN
                obtain ⟨G, hG⟩ : ∃ G, g i = G := ⟨_, rfl⟩
                obtain ⟨C, hC⟩ : ∃ C, cp i = C := ⟨_, rfl⟩
                rw [hG] at hgi BWi HPI hgw
                rw [hC] at hcpi hcpm
                have HGi := Lib.hid hG
                rw [hG, hC] at HGH
                clear hG hC
                obtain ⟨S, hSd⟩ : ∃ S : World → Prop, S = fun w' => w'.cell? ⟨w.heap.size + 1, i, none⟩ = some (.slice (some ⟨G, 0, none⟩) n C) ∧ (w'.cell? ⟨G, k * 4, none⟩ = some (.bool r0) ∧ w'.cell? ⟨G, k * 4 + 1, none⟩ = some (.slice R0 r1 r2) ∧ w'.cell? ⟨G, k * 4 + 2, none⟩ = some (.bool s0) ∧ w'.cell? ⟨G, k * 4 + 3, none⟩ = some (.slice S0 s1 s2)) ∧ (w'.cell? ⟨gb, 1, none⟩ = some (.bool x0) ∧ w'.cell? ⟨gb, 2, none⟩ = some (.slice X0 x1 x2) ∧ w'.cell? ⟨gb, 3, none⟩ = some (.bool y0) ∧ w'.cell? ⟨gb, 4, none⟩ = some (.slice Y0 y1 y2)) ∧ (w'.cell? ⟨wr.heap.size, 0, none⟩ = some (.bool z0) ∧ w'.cell? ⟨wr.heap.size, 0 + 1, none⟩ = some (.slice Z0 z1 z2) ∧ w'.cell? ⟨wr.heap.size, 0 + 2, none⟩ = some (.bool t0) ∧ w'.cell? ⟨wr.heap.size, 0 + 3, none⟩ = some (.slice T0 t1 t2)) := ⟨_, rfl⟩
                have HSI : Hid (∀ w', S w' → w'.cell? ⟨w.heap.size + 1, i, none⟩ = some (.slice (some ⟨G, 0, none⟩) n C) ∧ (w'.cell? ⟨G, k * 4, none⟩ = some (.bool r0) ∧ w'.cell? ⟨G, k * 4 + 1, none⟩ = some (.slice R0 r1 r2) ∧ w'.cell? ⟨G, k * 4 + 2, none⟩ = some (.bool s0) ∧ w'.cell? ⟨G, k * 4 + 3, none⟩ = some (.slice S0 s1 s2)) ∧ (w'.cell? ⟨gb, 1, none⟩ = some (.bool x0) ∧ w'.cell? ⟨gb, 2, none⟩ = some (.slice X0 x1 x2) ∧ w'.cell? ⟨gb, 3, none⟩ = some (.bool y0) ∧ w'.cell? ⟨gb, 4, none⟩ = some (.slice Y0 y1 y2)) ∧ (w'.cell? ⟨wr.heap.size, 0, none⟩ = some (.bool z0) ∧ w'.cell? ⟨wr.heap.size, 0 + 1, none⟩ = some (.slice Z0 z1 z2) ∧ w'.cell? ⟨wr.heap.size, 0 + 2, none⟩ = some (.bool t0) ∧ w'.cell? ⟨wr.heap.size, 0 + 3, none⟩ = some (.slice T0 t1 t2))) := by rw [Hid, hSd]; exact fun _ h => h
                have HSE : Hid (∀ w', Ext wq w' → S w') := by rw [Hid, hSd]; exact fun w' h => ⟨(BSQ.out.ext h).cell HGH.out, row4_cells (BWi.out.ext h) LWi.out, ⟨(BPQ.out.ext h).cell (i := 1) rfl, (BPQ.out.ext h).cell (i := 2) rfl, (BPQ.out.ext h).cell (i := 3) rfl, (BPQ.out.ext h).cell (i := 4) rfl⟩, (BD.out.ext h).four⟩
                have HS0 : Hid (S wq.drew) := HSE.out _ (Ext.refl wq).drew
                clear hSd
                refine AnyT.start (S := S) (T := fun j => decide (18 ≤ j)) (by kernel_rfl) ?_
                refine AnyT.load 0 84 (.slice (some ⟨w.heap.size + 1, 0, none⟩) m m) rfl (by kernel_rfl) (by kernel_rfl) (by kernel_rfl) (by kernel_rfl) (by kernel_rfl) (fun _ _ _ h => h) HS0.out ?_ ?_
                · intro o ho
                  simp only [List.getElem?_toArray, List.getElem?_cons_zero, Option.some.injEq] at ho
                  subst ho
                  refine ⟨rfl, rfl, fun w' hSw => ?_⟩
                  have hs := HSI.out w' hSw
                  go_split_ands
                  go_simp
                simp only [Act.put, List.setIfInBounds_toArray, List.set_cons_zero, List.set_cons_succ]
                refine AnyT.load 1 85 (.int .i64 i) rfl (by kernel_rfl) (by kernel_rfl) (by kernel_rfl) (by kernel_rfl) (by kernel_rfl) (fun _ _ _ h => h) HS0.out ?_ ?_
                · intro o ho
                  simp only [List.getElem?_toArray, List.getElem?_cons_succ, List.getElem?_cons_zero, Option.some.injEq] at ho
                  subst ho
                  refine ⟨rfl, rfl, fun w' hSw => ?_⟩
                  have hs := HSI.out w' hSw
                  go_split_ands
                  go_simp
                simp only [Act.put, List.setIfInBounds_toArray, List.set_cons_zero, List.set_cons_succ]
                refine AnyT.load 2 86 (.pointer (some ⟨w.heap.size + 1, i, none⟩)) rfl (by kernel_rfl) (by kernel_rfl) (by kernel_rfl) (by kernel_rfl) (by kernel_rfl) (fun _ _ _ h => h) HS0.out ?_ ?_
                · intro o ho
                  simp only [List.getElem?_toArray, List.getElem?_cons_succ, List.getElem?_cons_zero, Option.some.injEq] at ho
                  subst ho
                  refine ⟨rfl, rfl, fun w' hSw => ?_⟩
                  have hs := HSI.out w' hSw
                  go_split_ands
                  go_simp
                simp only [Act.put, List.setIfInBounds_toArray, List.set_cons_zero, List.set_cons_succ]
                refine AnyT.load 3 87 (.slice (some ⟨G, 0, none⟩) n C) rfl (by kernel_rfl) (by kernel_rfl) (by kernel_rfl) (by kernel_rfl) (by kernel_rfl) (fun _ _ _ h => h) HS0.out ?_ ?_
                · intro o ho
                  simp only [List.getElem?_toArray, List.getElem?_cons_succ, List.getElem?_cons_zero, Option.some.injEq] at ho
                  subst ho
                  refine ⟨rfl, rfl, fun w' hSw => ?_⟩
                  have hs := HSI.out w' hSw
                  go_split_ands
                  go_simp
                simp only [Act.put, List.setIfInBounds_toArray, List.set_cons_zero, List.set_cons_succ]
                refine AnyT.load 4 88 (.int .i64 k) rfl (by kernel_rfl) (by kernel_rfl) (by kernel_rfl) (by kernel_rfl) (by kernel_rfl) (fun _ _ _ h => h) HS0.out ?_ ?_
                · intro o ho
                  simp only [List.getElem?_toArray, List.getElem?_cons_succ, List.getElem?_cons_zero, Option.some.injEq] at ho
                  subst ho
                  refine ⟨rfl, rfl, fun w' hSw => ?_⟩
                  have hs := HSI.out w' hSw
                  go_split_ands
                  go_simp
                simp only [Act.put, List.setIfInBounds_toArray, List.set_cons_zero, List.set_cons_succ]
                refine AnyT.load 5 89 (.slice (some ⟨w.heap.size + 1, 0, none⟩) m m) rfl (by kernel_rfl) (by kernel_rfl) (by kernel_rfl) (by kernel_rfl) (by kernel_rfl) (fun _ _ _ h => h) HS0.out ?_ ?_
                · intro o ho
                  simp only [List.getElem?_toArray, List.getElem?_cons_succ, List.getElem?_cons_zero, Option.some.injEq] at ho
                  subst ho
                  refine ⟨rfl, rfl, fun w' hSw => ?_⟩
                  have hs := HSI.out w' hSw
                  go_split_ands
                  go_simp
                simp only [Act.put, List.setIfInBounds_toArray, List.set_cons_zero, List.set_cons_succ]
                refine AnyT.load 6 90 (.int .i64 i) rfl (by kernel_rfl) (by kernel_rfl) (by kernel_rfl) (by kernel_rfl) (by kernel_rfl) (fun _ _ _ h => h) HS0.out ?_ ?_
                · intro o ho
                  simp only [List.getElem?_toArray, List.getElem?_cons_succ, List.getElem?_cons_zero, Option.some.injEq] at ho
                  subst ho
                  refine ⟨rfl, rfl, fun w' hSw => ?_⟩
                  have hs := HSI.out w' hSw
                  go_split_ands
                  go_simp
                simp only [Act.put, List.setIfInBounds_toArray, List.set_cons_zero, List.set_cons_succ]
                refine AnyT.load 7 91 (.pointer (some ⟨w.heap.size + 1, i, none⟩)) rfl (by kernel_rfl) (by kernel_rfl) (by kernel_rfl) (by kernel_rfl) (by kernel_rfl) (fun _ _ _ h => h) HS0.out ?_ ?_
                · intro o ho
                  simp only [List.getElem?_toArray, List.getElem?_cons_succ, List.getElem?_cons_zero, Option.some.injEq] at ho
                  subst ho
                  refine ⟨rfl, rfl, fun w' hSw => ?_⟩
                  have hs := HSI.out w' hSw
                  go_split_ands
                  go_simp
                simp only [Act.put, List.setIfInBounds_toArray, List.set_cons_zero, List.set_cons_succ]
                refine AnyT.load 8 92 (.slice (some ⟨G, 0, none⟩) n C) rfl (by kernel_rfl) (by kernel_rfl) (by kernel_rfl) (by kernel_rfl) (by kernel_rfl) (fun _ _ _ h => h) HS0.out ?_ ?_
                · intro o ho
                  simp only [List.getElem?_toArray, List.getElem?_cons_succ, List.getElem?_cons_zero, Option.some.injEq] at ho
                  subst ho
                  refine ⟨rfl, rfl, fun w' hSw => ?_⟩
                  have hs := HSI.out w' hSw
                  go_split_ands
                  go_simp
                simp only [Act.put, List.setIfInBounds_toArray, List.set_cons_zero, List.set_cons_succ]
                refine AnyT.load 9 93 (.int .i64 k) rfl (by kernel_rfl) (by kernel_rfl) (by kernel_rfl) (by kernel_rfl) (by kernel_rfl) (fun _ _ _ h => h) HS0.out ?_ ?_
                · intro o ho
                  simp only [List.getElem?_toArray, List.getElem?_cons_succ, List.getElem?_cons_zero, Option.some.injEq] at ho
                  subst ho
                  refine ⟨rfl, rfl, fun w' hSw => ?_⟩
                  have hs := HSI.out w' hSw
                  go_split_ands
                  go_simp
                simp only [Act.put, List.setIfInBounds_toArray, List.set_cons_zero, List.set_cons_succ]
                refine AnyT.load 10 94 (.pointer (some ⟨G, k * 4, none⟩)) rfl (by kernel_rfl) (by kernel_rfl) (by kernel_rfl) (by kernel_rfl) (by kernel_rfl) (fun _ _ _ h => h) HS0.out ?_ ?_
                · intro o ho
                  simp only [List.getElem?_toArray, List.getElem?_cons_succ, List.getElem?_cons_zero, Option.some.injEq] at ho
                  subst ho
                  refine ⟨rfl, rfl, fun w' hSw => ?_⟩
                  have hs := HSI.out w' hSw
                  go_split_ands
                  go_simp
                simp only [Act.put, List.setIfInBounds_toArray, List.set_cons_zero, List.set_cons_succ]
                refine AnyT.load 11 95 (.agg #[.bool r0, .slice R0 r1 r2, .bool s0, .slice S0 s1 s2]) rfl (by kernel_rfl) (by kernel_rfl) (by kernel_rfl) (by kernel_rfl) (by kernel_rfl) (fun _ _ _ h => h) HS0.out ?_ ?_
                · intro o ho
                  simp only [List.getElem?_toArray, List.getElem?_cons_succ, List.getElem?_cons_zero, Option.some.injEq] at ho
                  subst ho
                  refine ⟨rfl, rfl, fun w' hSw => ?_⟩
                  have hs := HSI.out w' hSw
                  go_split_ands
                  go_simp
                simp only [Act.put, List.setIfInBounds_toArray, List.set_cons_zero, List.set_cons_succ]
                refine AnyT.load 12 96 (.pointer (some ⟨gb, 1, none⟩)) rfl (by kernel_rfl) (by kernel_rfl) (by kernel_rfl) (by kernel_rfl) (by kernel_rfl) (fun _ _ _ h => h) HS0.out ?_ ?_
                · intro o ho
                  simp only [List.getElem?_toArray, List.getElem?_cons_succ, List.getElem?_cons_zero, Option.some.injEq] at ho
                  subst ho
                  refine ⟨rfl, rfl, fun w' hSw => ?_⟩
                  have hs := HSI.out w' hSw
                  go_split_ands
                  go_simp
                simp only [Act.put, List.setIfInBounds_toArray, List.set_cons_zero, List.set_cons_succ]
                refine AnyT.load 13 97 (.agg #[.bool x0, .slice X0 x1 x2, .bool y0, .slice Y0 y1 y2]) rfl (by kernel_rfl) (by kernel_rfl) (by kernel_rfl) (by kernel_rfl) (by kernel_rfl) (fun _ _ _ h => h) HS0.out ?_ ?_
                · intro o ho
                  simp only [List.getElem?_toArray, List.getElem?_cons_succ, List.getElem?_cons_zero, Option.some.injEq] at ho
                  subst ho
                  refine ⟨rfl, rfl, fun w' hSw => ?_⟩
                  have hs := HSI.out w' hSw
                  go_split_ands
                  go_simp
                simp only [Act.put, List.setIfInBounds_toArray, List.set_cons_zero, List.set_cons_succ]
                refine AnyT.load 14 98 (.agg #[.bool z0, .slice Z0 z1 z2, .bool t0, .slice T0 t1 t2]) rfl (by kernel_rfl) (by kernel_rfl) (by kernel_rfl) (by kernel_rfl) (by kernel_rfl) (fun _ _ _ h => h) HS0.out ?_ ?_
                · intro o ho
                  simp only [List.getElem?_toArray, List.getElem?_cons_succ, List.getElem?_cons_zero, Option.some.injEq] at ho
                  subst ho
                  refine ⟨rfl, rfl, fun w' hSw => ?_⟩
                  have hs := HSI.out w' hSw
                  go_split_ands
                  go_simp
                simp only [Act.put, List.setIfInBounds_toArray, List.set_cons_zero, List.set_cons_succ]
                refine AnyT.step 15 (by kernel_rfl) ?_
                intro o ho K hK
                simp only [List.getElem?_toArray, List.getElem?_cons_succ, List.getElem?_cons_zero, Option.some.injEq] at ho
                subst ho
                go_simp
                refine (fmul_any _ _ _ _ _ (HV1.out.ext HXQ.out.drew) (VD.out.ext (Ext.refl wq).drew) FQ.out FX.out (by decide)).mono ?_
                rintro e w5 ⟨v5, rfl, hv5, hx5⟩
                have hy5 := (Ext.refl wq).drew.trans hx5
                refine hK.out _ _ (fun _ => HSE.out _ hy5) ?_
                refine AnyT.step 16 (by kernel_rfl) ?_
                intro o ho K hK
                simp only [List.getElem?_toArray, List.getElem?_cons_succ, List.getElem?_cons_zero, Option.some.injEq] at ho
                subst ho
                go_simp
                refine (fadd_any _ _ _ _ _ (VWi.out.ext hy5) hv5 FSk.out (FQ.out.mul FX.out) hb21).mono ?_
                rintro e w6 ⟨v6, rfl, hv6, hx6⟩
                obtain ⟨e0, E0, e1, e2, f0, F0, f1, f2, rfl, _, _⟩ := hv6.parts
                have hy6 := hy5.trans hx6
                refine hK.out _ _ (fun _ => HSE.out _ hy6) ?_
                refine AnyT.step 17 (by kernel_rfl) ?_
                intro o ho K hK
                simp only [List.getElem?_toArray, List.getElem?_cons_succ, List.getElem?_cons_zero, Option.some.injEq] at ho
                subst ho
                go_simp
                refine hK.out _ _ (fun _ => HSE.out _ hy6) ?_
                have B5 := Lib.hid (BWi.out.ext hy6)
                obtain ⟨k0, k1, k2, k3⟩ := row4_cells B5.out LWi.out
                have j0 := B5.out.frozen (k * 4)
                have j1 := B5.out.frozen (k * 4 + 1)
                have j2 := B5.out.frozen (k * 4 + 2)
                have j3 := B5.out.frozen (k * 4 + 3)
                obtain ⟨W9, hW9, HB9, HK9, HX9, HO9⟩ := store4 B5.out LWi.out (HXQ.out.trans hy6) (by omega) (.bool e0) (.slice E0 e1 e2) (.bool f0) (.slice F0 f1 f2)
                have HW := Lib.hid hW9
                rw [← HSK.out] at hv6
                have RO9 := Lib.hid (HPI.out W9 e0 E0 e1 e2 f0 F0 f1 f2 _ HB9.out ((Kept.of_below hy6).trans HK9.out) (hv6.keep HK9.out))
                rw [range_set] at RO9
                have HO9' := HO9
                rw [← HGi.out] at HO9' RO9
                have RS9 := Lib.hid (((RSQ.out.ext hy6).put HO9'.out him HK9.out RO9.out (by simp)).congr (f' := fun a => if a = i then (List.range n).map (fun b => if b < k + 1 then ssum (l.take (t + 1)) cs i b else ssum (l.take t) cs i b) else (List.range n).map (ssum (l.take t) cs a)) (fun a _ => by
                  by_cases ha : a = i
                  · subst ha
                    rw [if_pos rfl, if_pos rfl]
                    refine List.map_congr_left fun b _ => ?_
                    by_cases hb : b = k
                    · subst hb; rw [if_pos rfl, if_pos (by omega)]
                    · rw [if_neg hb]
                      by_cases hbk : b < k
                      · rw [if_pos hbk, if_pos (by omega)]
                      · rw [if_neg hbk, if_neg (by omega)]
                  · rw [if_neg ha, if_neg ha, if_neg ha]))
                have RW9 := Lib.hid ((RWQ.out.ext hy6).only HO9.out (by omega) HK9.out)
                have BS9 := Lib.hid ((BSQ.out.ext hy6).only HO9.out (by omega))
                have BP9 := Lib.hid ((BPQ.out.ext hy6).only HO9.out (fun e => by
                  have h1 := BPQ.out
                  have h2 := BWi.out
                  unfold Blk at h1 h2
                  rw [e, h2] at h1
                  injection h1 with h1
                  injection h1 with _ h1
                  exact absurd h1 (by decide)))
                clear hW9 hx5 hy5 hv5 hx6 hy6 hv6 HB9 HK9 HO9 HO9' RO9 B5
                refine AnyT.step 18 (by kernel_rfl) ?_
                intro o ho K hK
                simp only [List.getElem?_toArray, List.getElem?_cons_succ, List.getElem?_cons_zero, Option.some.injEq] at ho
                subst ho
                go_simp
                refine hK.out _ _ (fun h => by cases h) ?_
                refine AnyT.done (by kernel_rfl) ?_
                rw [HW.out]
                clear k0 k1 k2 k3 j0 j1 j2 j3
                go_wp2_with fail
                go_roundw
                case rel => exact ⟨k + 1, by omega, by go_num, RW9, RS9, BS9, BP9, HX9⟩
                case measure => simp [RowKit.intOf]; omega
              · obtain rfl : k = n := by omega
                have HS1 : Hid (Rows wr (w.heap.size + 2) k m g cp (fun a => (List.range k).map (ssum (l.take (t + 1)) cs a))) := HRS.out.congr (fun a _ => by
                  by_cases ha : a = i
                  · subst ha; rw [if_pos rfl]; exact List.map_congr_left fun b hb => by rw [if_pos (by simpa using hb)]
                  · rw [if_neg ha]; exact List.map_congr_left fun b _ => by rw [HSN.out, if_neg (by omega)])
                go_wp2_with fail
                go_roundw
                case rel => exact ⟨t + 1, by omega, by go_num, HRW, HS1, HBS, HXk⟩
                case measure => simp [RowKit.intOf]; omega
        · obtain rfl : t = l.length := by omega
          rw [List.take_of_length_le (Nat.le_refl _)] at HRW HRS
          have FW := Lib.hid (fun a => wsum_fit HG.out a l.length (Nat.le_refl _))
          have FS := Lib.hid (fun a k => ssum_fit HG.out a k l.length (Nat.le_refl _))
          have HPO := Lib.hid (fun a => wsum_nonneg HG.out a l.length (Nat.le_refl _))
          rw [List.take_of_length_le (Nat.le_refl _)] at FW FS HPO
          have HR0 : Hid (Rows wr (w.heap.size + 2) n m g cp (fun a => if a < 0 then stepR n l cs a else (List.range n).map (ssum l cs a))) := HRS.out.congr (fun a _ => by rw [if_neg (by omega)])
          clear HRS HW0 HS0 HB0 HXS htl ht
          generalize wr = w8 at *
          go_wp2_with fail
          go_loopw [14, 15, 16, 106] (fun _ _ _ v106 wr => ∃ (i : Nat) (g cp : Nat → Nat), i ≤ m ∧ v106 = .int .i64 i ∧ Hid (Row wr w.heap.size ((List.range m).map (wsum l cs))) ∧ Hid (Rows wr (w.heap.size + 2) n m g cp (fun a => if a < i then stepR n l cs a else (List.range n).map (ssum l cs a))) ∧ Hid (Blk wr (w.heap.size + 1) tFracs (heads n m g cp)) ∧ Hid (Ext w wr)) (fun _ _ _ v106 _ => m - (RowKit.intOf v106).toNat)
          case atStart => exact ⟨0, g, cp, Nat.zero_le _, rfl, HRW, HR0, HBS, HXt⟩
          case round =>
            clear HRW HR0 HBS HXt
            obtain ⟨i, g, cp, hi, rfl, HRW, HRS, HBS, HXi⟩ := hrel
            by_cases him : i < m
            · have hic : i < cs.length := by rw [HM.out]; exact him
              have hil : i < ((List.range m).map (wsum l cs)).length := by simpa using him
              obtain ⟨r0, R0, r1, r2, s0, S0, s1, s2, xw, yw, BWi, LWi, VWi, ⟨q0, q1, q2, q3⟩, _⟩ := HRW.out.at_ hil
              rw [show ((List.range m).map (wsum l cs))[i] = wsum l cs i by simp] at VWi
              have FWi := Lib.hid (FW.out i)
              have HPi := Lib.hid (HPO.out i)
              have HGH := Lib.hid (heads_get (n := n) (g := g) (cp := cp) him)
              clear hil
              by_cases hz : wsum l cs i = 0
              · have SG : Hid (Calls Tryz.prog 74 #[.agg #[.bool r0, .slice R0 r1 r2, .bool s0, .slice S0 s1 s2]] wr fun e w' => e = .returned (.int .i64 0) ∧ Ext wr w') := by
                  have h := fsign_any _ _ wr VWi.out FWi.out (by omega)
                  rw [hz] at h
                  exact h
                have HZ := Lib.hid hz
                clear hz
                go_wp2_with fail
                refine SG.out.mono ?_
                rintro e w3 ⟨rfl, hx3⟩
                clear q0 q1 q2 q3
                obtain ⟨g1, o1, Ac, cc, hAe, hg1, HL1, hc1⟩ := OneR.get (GL.ext HC.out (HXi.out.trans hx3)) hic
                rw [HG.out.cn _ (List.getElem_mem hic)] at hc1 HL1
                obtain ⟨xc, hxc, hcl⟩ := clone_fl HL1.out (HG.out.cn _ (List.getElem_mem hic)) hn3
                have HXC := Lib.hid hxc
                have HCL := Lib.hid (hcl w3 (Ext.refl _))
                have HGD : Hid (stepR n l cs i = cs[i]) := by rw [Hid, stepR, if_pos HZ.out, List.getD_eq_getElem?_getD, List.getElem?_eq_getElem hic]; rfl
                have HCN := Lib.hid (HG.out.cn _ (List.getElem_mem hic))
                subst hAe
                clear hxc hcl HL1
                generalize cs[i] = ci at *
                go_wp2_with fail
                refine HCL.out.mono ?_
                rintro e w4 ⟨v4, rfl, ho4, hx4⟩
                have hy4 := hx3.trans hx4
                obtain ⟨A4, c4, rfl, _, _, _⟩ := own_parts ho4
                obtain ⟨G, rfl, hG, hnc, hcm, HROW⟩ := Row.of_own ho4 (ch_kept HXC.out (.of_below hx4)) (by omega)
                have RS4 := Lib.hid (HRS.out.ext hy4)
                have BS4 := Lib.hid (HBS.out.ext hy4)
                have RW4 := Lib.hid (HRW.out.ext hy4)
                have hsw : w.heap.size + 2 ≤ w3.heap.size := Nat.le_trans (Nat.succ_le_of_lt HBS.out.lt) hx3.size
                have hlow : ∀ j, j < m → g j < w3.heap.size := fun j hj => (HRS.out.ext hx3).lt hj
                have RN := Lib.hid (Rows.new (i := i) (m' := m) RS4.out (fun a h1 _ => h1) (by omega) HCN.out hnc hcm HROW (fun a ha _ e => by have := hlow a ha; omega))
                have i0 := BS4.out.cell HGH.out
                have i1 := BS4.out.frozen i
                obtain ⟨W', hW', BS5, K5, _, X5, N5⟩ := store1 (k := i) BS4.out (HXi.out.trans hy4) (by omega) (.slice (some ⟨G, 0, none⟩) n c4)
                have HW := Lib.hid hW'
                rw [heads_set] at BS5
                have RN5 := Lib.hid ((RN.out.low N5.out (by omega) K5.out).congr (f' := fun a => if a < i + 1 then stepR n l cs a else (List.range n).map (ssum l cs a)) (fun a _ => by
                  by_cases ha : a = i
                  · subst ha; rw [if_pos rfl, if_pos (by omega), HGD.out]
                  · rw [if_neg ha]
                    by_cases hai : a < i
                    · rw [if_pos hai, if_pos (by omega)]
                    · rw [if_neg hai, if_neg (by omega)]))
                have RW5 := Lib.hid (RW4.out.only N5.out (by omega) K5.out)
                clear hW' hx3 hx4 hy4 hc1 ho4 HROW hlow
                go_wp2_with fail
                rw [HW.out]
                clear i0 i1
                go_roundw
                case rel => exact ⟨i + 1, _, _, by omega, by go_num, RW5, RN5, BS5, X5⟩
                case measure => simp [RowKit.intOf]; omega
              · have hpos := num_zero hz HPi.out
                have hsg : ((wsum l cs i).num.sign == 0) = false := by
                  rw [Int.sign_eq_one_of_pos hpos]; rfl
                have HPS := Lib.hid hpos
                have HZ := Lib.hid hz
                have SG := Lib.hid (fsign_any _ _ wr VWi.out FWi.out (by omega))
                have HSR : Hid (stepR n l cs i = (List.range n).map fun k => ssum l cs i k / wsum l cs i) := by rw [Hid, stepR, if_neg HZ.out]
                clear hz hpos
                go_wp2_with fail
                refine SG.out.mono ?_
                rintro e w3 ⟨rfl, hx3⟩
                have RS3 := Lib.hid (HRS.out.ext hx3)
                have BS3 := Lib.hid (HBS.out.ext hx3)
                have RW3 := Lib.hid (HRW.out.ext hx3)
                have HX3 := Lib.hid (HXi.out.trans hx3)
                have HR6 : Hid (Rows w3 (w.heap.size + 2) n m g cp (fun a => if a = i then (List.range n).map (fun b => if b < 0 then ssum l cs i b / wsum l cs i else ssum l cs i b) else if a < i then stepR n l cs a else (List.range n).map (ssum l cs a))) := RS3.out.congr (fun a _ => by
                  by_cases ha : a = i
                  · subst ha; rw [if_pos rfl, if_neg (by omega)]; exact List.map_congr_left fun b _ => by rw [if_neg (by omega)]
                  · rw [if_neg ha])
                have i0 := BS3.out.cell HGH.out
                generalize (wsum l cs i).num.sign = sg at *
                clear q0 q1 q2 q3 hx3 RS3 HRS HBS HRW BWi LWi VWi SG
                obtain ⟨G, hG⟩ : ∃ G, g i = G := ⟨_, rfl⟩
                obtain ⟨C, hC⟩ : ∃ C, cp i = C := ⟨_, rfl⟩
                have hcpm : C ≤ 9223372036854775807 := by
                  have h := (HR6.out.2 i him).2.2.2.1
                  rw [hC] at h
                  unfold maxLen at h; omega
                have hgi : w.heap.size + 2 ≤ G := by
                  have h := (HR6.out.2 i him).1
                  rw [hG] at h
                  exact h
                have HGi := Lib.hid hG
                rw [hG, hC] at HGH i0
                clear hG hC
                generalize wr = w7 at *
                go_wp2_with fail
                clear i0
                go_loopw [15, 16, 128] (fun _ _ v128 wr => ∃ k : Nat, k ≤ n ∧ v128 = .int .i64 k ∧ Hid (Row wr w.heap.size ((List.range m).map (wsum l cs))) ∧ Hid (Rows wr (w.heap.size + 2) n m g cp (fun a => if a = i then (List.range n).map (fun b => if b < k then ssum l cs i b / wsum l cs i else ssum l cs i b) else if a < i then stepR n l cs a else (List.range n).map (ssum l cs a))) ∧ Hid (Blk wr (w.heap.size + 1) tFracs (heads n m g cp)) ∧ Hid (Ext w wr)) (fun _ _ v128 _ => n - (RowKit.intOf v128).toNat)
                case atStart => exact ⟨0, Nat.zero_le _, rfl, RW3, HR6, BS3, HX3⟩
                case round =>
                  clear RW3 HR6 BS3 HX3
                  obtain ⟨k, hk, rfl, HRW, HRS, HBS, HXk⟩ := hrel
                  by_cases hkn : k < n
                  · obtain ⟨_, _, _, _, ROW⟩ := HRS.out.2 i him
                    dsimp only at ROW
                    rw [if_pos rfl] at ROW
                    have hkl : k < ((List.range n).map (fun b => if b < k then ssum l cs i b / wsum l cs i else ssum l cs i b)).length := by simpa using hkn
                    obtain ⟨r0, R0, r1, r2, s0, S0, s1, s2, xw, yw, BWi, LWi, VWi, ⟨q0, q1, q2, q3⟩, HPI⟩ := ROW.at_ hkl
                    rw [show ((List.range n).map (fun b => if b < k then ssum l cs i b / wsum l cs i else ssum l cs i b))[k] = ssum l cs i k by simp] at VWi
                    have FSk := Lib.hid (FS.out i k)
                    have hb32 := big32 h100
                    rw [HGi.out] at q0 q1 q2 q3 BWi HPI
                    clear ROW hkl
                    go_upto_region 32 with fail
                    refine newbox (P := fun W => Code.wp _ _ _ _ W) VWi.out fun wq HXN BX hsz => ?_
                    have RWQ := Lib.hid (HRW.out.ext HXN.out)
                    have RSQ := Lib.hid (HRS.out.ext HXN.out)
                    have BSQ := Lib.hid (HBS.out.ext HXN.out)
                    have BWQ := Lib.hid (BWi.out.ext HXN.out)
                    have HXQ := Lib.hid (HXk.out.trans HXN.out)
                    have hKN := Lib.hid (Kept.of_below (t := tU64) HXN.out)
                    obtain ⟨z0, Z0, z1, z2, t0, T0, t1, t2, BD, VD⟩ := BX.out.parts
                    have hil : i < ((List.range m).map (wsum l cs)).length := by simpa using him
                    obtain ⟨e0, E0, e1, e2, f0, F0, f1, f2, xv, yv, BVi, LVi, VVi, _, _⟩ := RWQ.out.at_ hil
                    rw [show ((List.range m).map (wsum l cs))[i] = wsum l cs i by simp] at VVi
                    clear q0 q1 q2 q3 BX HRW HRS HBS HXN BWi VWi hil
                    obtain ⟨S, hSd⟩ : ∃ S : World → Prop, S = fun w' => w'.cell? ⟨w.heap.size + 1, i, none⟩ = some (.slice (some ⟨G, 0, none⟩) n C) ∧ (w'.cell? ⟨w.heap.size, i * 4, none⟩ = some (.bool e0) ∧ w'.cell? ⟨w.heap.size, i * 4 + 1, none⟩ = some (.slice E0 e1 e2) ∧ w'.cell? ⟨w.heap.size, i * 4 + 2, none⟩ = some (.bool f0) ∧ w'.cell? ⟨w.heap.size, i * 4 + 3, none⟩ = some (.slice F0 f1 f2)) ∧ (w'.cell? ⟨wr.heap.size, 0, none⟩ = some (.bool z0) ∧ w'.cell? ⟨wr.heap.size, 0 + 1, none⟩ = some (.slice Z0 z1 z2) ∧ w'.cell? ⟨wr.heap.size, 0 + 2, none⟩ = some (.bool t0) ∧ w'.cell? ⟨wr.heap.size, 0 + 3, none⟩ = some (.slice T0 t1 t2)) := ⟨_, rfl⟩
                    have HSI : Hid (∀ w', S w' → w'.cell? ⟨w.heap.size + 1, i, none⟩ = some (.slice (some ⟨G, 0, none⟩) n C) ∧ (w'.cell? ⟨w.heap.size, i * 4, none⟩ = some (.bool e0) ∧ w'.cell? ⟨w.heap.size, i * 4 + 1, none⟩ = some (.slice E0 e1 e2) ∧ w'.cell? ⟨w.heap.size, i * 4 + 2, none⟩ = some (.bool f0) ∧ w'.cell? ⟨w.heap.size, i * 4 + 3, none⟩ = some (.slice F0 f1 f2)) ∧ (w'.cell? ⟨wr.heap.size, 0, none⟩ = some (.bool z0) ∧ w'.cell? ⟨wr.heap.size, 0 + 1, none⟩ = some (.slice Z0 z1 z2) ∧ w'.cell? ⟨wr.heap.size, 0 + 2, none⟩ = some (.bool t0) ∧ w'.cell? ⟨wr.heap.size, 0 + 3, none⟩ = some (.slice T0 t1 t2))) := by rw [Hid, hSd]; exact fun _ h => h
                    have HSE : Hid (∀ w', Ext wq w' → S w') := by rw [Hid, hSd]; exact fun w' h => ⟨(BSQ.out.ext h).cell HGH.out, row4_cells (BVi.out.ext h) LVi.out, (BD.out.ext h).four⟩
                    have HS0 : Hid (S wq.drew) := HSE.out _ (Ext.refl wq).drew
                    clear hSd
                    refine AnyT.start (S := S) (T := fun j => decide (12 ≤ j)) (by kernel_rfl) ?_
                    refine AnyT.load 0 133 (.slice (some ⟨w.heap.size + 1, 0, none⟩) m m) rfl (by kernel_rfl) (by kernel_rfl) (by kernel_rfl) (by kernel_rfl) (by kernel_rfl) (fun _ _ _ h => h) HS0.out ?_ ?_
                    · intro o ho
                      simp only [List.getElem?_toArray, List.getElem?_cons_zero, Option.some.injEq] at ho
                      subst ho
                      refine ⟨rfl, rfl, fun w' hSw => ?_⟩
                      have hs := HSI.out w' hSw
                      go_split_ands
                      go_simp
                    simp only [Act.put, List.setIfInBounds_toArray, List.set_cons_zero, List.set_cons_succ]
                    refine AnyT.load 1 134 (.int .i64 i) rfl (by kernel_rfl) (by kernel_rfl) (by kernel_rfl) (by kernel_rfl) (by kernel_rfl) (fun _ _ _ h => h) HS0.out ?_ ?_
                    · intro o ho
                      simp only [List.getElem?_toArray, List.getElem?_cons_succ, List.getElem?_cons_zero, Option.some.injEq] at ho
                      subst ho
                      refine ⟨rfl, rfl, fun w' hSw => ?_⟩
                      have hs := HSI.out w' hSw
                      go_split_ands
                      go_simp
                    simp only [Act.put, List.setIfInBounds_toArray, List.set_cons_zero, List.set_cons_succ]
                    refine AnyT.load 2 135 (.pointer (some ⟨w.heap.size + 1, i, none⟩)) rfl (by kernel_rfl) (by kernel_rfl) (by kernel_rfl) (by kernel_rfl) (by kernel_rfl) (fun _ _ _ h => h) HS0.out ?_ ?_
                    · intro o ho
                      simp only [List.getElem?_toArray, List.getElem?_cons_succ, List.getElem?_cons_zero, Option.some.injEq] at ho
                      subst ho
                      refine ⟨rfl, rfl, fun w' hSw => ?_⟩
                      have hs := HSI.out w' hSw
                      go_split_ands
                      go_simp
                    simp only [Act.put, List.setIfInBounds_toArray, List.set_cons_zero, List.set_cons_succ]
                    refine AnyT.load 3 136 (.slice (some ⟨G, 0, none⟩) n C) rfl (by kernel_rfl) (by kernel_rfl) (by kernel_rfl) (by kernel_rfl) (by kernel_rfl) (fun _ _ _ h => h) HS0.out ?_ ?_
                    · intro o ho
                      simp only [List.getElem?_toArray, List.getElem?_cons_succ, List.getElem?_cons_zero, Option.some.injEq] at ho
                      subst ho
                      refine ⟨rfl, rfl, fun w' hSw => ?_⟩
                      have hs := HSI.out w' hSw
                      go_split_ands
                      go_simp
                    simp only [Act.put, List.setIfInBounds_toArray, List.set_cons_zero, List.set_cons_succ]
                    refine AnyT.load 4 137 (.int .i64 k) rfl (by kernel_rfl) (by kernel_rfl) (by kernel_rfl) (by kernel_rfl) (by kernel_rfl) (fun _ _ _ h => h) HS0.out ?_ ?_
                    · intro o ho
                      simp only [List.getElem?_toArray, List.getElem?_cons_succ, List.getElem?_cons_zero, Option.some.injEq] at ho
                      subst ho
                      refine ⟨rfl, rfl, fun w' hSw => ?_⟩
                      have hs := HSI.out w' hSw
                      go_split_ands
                      go_simp
                    simp only [Act.put, List.setIfInBounds_toArray, List.set_cons_zero, List.set_cons_succ]
                    refine AnyT.load 5 138 (.agg #[.bool z0, .slice Z0 z1 z2, .bool t0, .slice T0 t1 t2]) rfl (by kernel_rfl) (by kernel_rfl) (by kernel_rfl) (by kernel_rfl) (by kernel_rfl) (fun _ _ _ h => h) HS0.out ?_ ?_
                    · intro o ho
                      simp only [List.getElem?_toArray, List.getElem?_cons_succ, List.getElem?_cons_zero, Option.some.injEq] at ho
                      subst ho
                      refine ⟨rfl, rfl, fun w' hSw => ?_⟩
                      have hs := HSI.out w' hSw
                      go_split_ands
                      go_simp
                    simp only [Act.put, List.setIfInBounds_toArray, List.set_cons_zero, List.set_cons_succ]
                    refine AnyT.load 6 139 (.slice (some ⟨w.heap.size, 0, none⟩) m m) rfl (by kernel_rfl) (by kernel_rfl) (by kernel_rfl) (by kernel_rfl) (by kernel_rfl) (fun _ _ _ h => h) HS0.out ?_ ?_
                    · intro o ho
                      simp only [List.getElem?_toArray, List.getElem?_cons_succ, List.getElem?_cons_zero, Option.some.injEq] at ho
                      subst ho
                      refine ⟨rfl, rfl, fun w' hSw => ?_⟩
                      have hs := HSI.out w' hSw
                      go_split_ands
                      go_simp
                    simp only [Act.put, List.setIfInBounds_toArray, List.set_cons_zero, List.set_cons_succ]
                    refine AnyT.load 7 140 (.int .i64 i) rfl (by kernel_rfl) (by kernel_rfl) (by kernel_rfl) (by kernel_rfl) (by kernel_rfl) (fun _ _ _ h => h) HS0.out ?_ ?_
                    · intro o ho
                      simp only [List.getElem?_toArray, List.getElem?_cons_succ, List.getElem?_cons_zero, Option.some.injEq] at ho
                      subst ho
                      refine ⟨rfl, rfl, fun w' hSw => ?_⟩
                      have hs := HSI.out w' hSw
                      go_split_ands
                      go_simp
                    simp only [Act.put, List.setIfInBounds_toArray, List.set_cons_zero, List.set_cons_succ]
                    refine AnyT.load 8 141 (.pointer (some ⟨w.heap.size, i * 4, none⟩)) rfl (by kernel_rfl) (by kernel_rfl) (by kernel_rfl) (by kernel_rfl) (by kernel_rfl) (fun _ _ _ h => h) HS0.out ?_ ?_
                    · intro o ho
                      simp only [List.getElem?_toArray, List.getElem?_cons_succ, List.getElem?_cons_zero, Option.some.injEq] at ho
                      subst ho
                      refine ⟨rfl, rfl, fun w' hSw => ?_⟩
                      have hs := HSI.out w' hSw
                      go_split_ands
                      go_simp
                    simp only [Act.put, List.setIfInBounds_toArray, List.set_cons_zero, List.set_cons_succ]
                    refine AnyT.load 9 142 (.agg #[.bool e0, .slice E0 e1 e2, .bool f0, .slice F0 f1 f2]) rfl (by kernel_rfl) (by kernel_rfl) (by kernel_rfl) (by kernel_rfl) (by kernel_rfl) (fun _ _ _ h => h) HS0.out ?_ ?_
                    · intro o ho
                      simp only [List.getElem?_toArray, List.getElem?_cons_succ, List.getElem?_cons_zero, Option.some.injEq] at ho
                      subst ho
                      refine ⟨rfl, rfl, fun w' hSw => ?_⟩
                      have hs := HSI.out w' hSw
                      go_split_ands
                      go_simp
                    simp only [Act.put, List.setIfInBounds_toArray, List.set_cons_zero, List.set_cons_succ]
                    refine AnyT.step 10 (by kernel_rfl) ?_
                    intro o ho K hK
                    simp only [List.getElem?_toArray, List.getElem?_cons_succ, List.getElem?_cons_zero, Option.some.injEq] at ho
                    subst ho
                    go_simp
                    refine (fdiv_any _ _ _ _ _ (VD.out.ext (Ext.refl wq).drew) (VVi.out.ext (Ext.refl wq).drew) FSk.out FWi.out hb32 HPS.out).mono ?_
                    rintro e w5 ⟨v5, rfl, hv5, hx5⟩
                    obtain ⟨a0, A0, a1, a2, b0, B0, b1, b2, rfl, _, _⟩ := hv5.parts
                    have hy5 := (Ext.refl wq).drew.trans hx5
                    refine hK.out _ _ (fun _ => HSE.out _ hy5) ?_
                    refine AnyT.step 11 (by kernel_rfl) ?_
                    intro o ho K hK
                    simp only [List.getElem?_toArray, List.getElem?_cons_succ, List.getElem?_cons_zero, Option.some.injEq] at ho
                    subst ho
                    go_simp
                    refine hK.out _ _ (fun _ => HSE.out _ hy5) ?_
                    have B5 := Lib.hid (BWQ.out.ext hy5)
                    obtain ⟨k0, k1, k2, k3⟩ := row4_cells B5.out LWi.out
                    have j0 := B5.out.frozen (k * 4)
                    have j1 := B5.out.frozen (k * 4 + 1)
                    have j2 := B5.out.frozen (k * 4 + 2)
                    have j3 := B5.out.frozen (k * 4 + 3)
                    obtain ⟨W9, hW9, HB9, HK9, HX9, HO9⟩ := store4 B5.out LWi.out (HXQ.out.trans hy5) (by omega) (.bool a0) (.slice A0 a1 a2) (.bool b0) (.slice B0 b1 b2)
                    have HW := Lib.hid hW9
                    have RO9 := Lib.hid (HPI.out W9 a0 A0 a1 a2 b0 B0 b1 b2 _ HB9.out (hKN.out.trans ((Kept.of_below hy5).trans HK9.out)) (hv5.keep HK9.out))
                    rw [range_set] at RO9
                    have HO9' := HO9
                    rw [← HGi.out] at HO9' RO9
                    have RS9 := Lib.hid (((RSQ.out.ext hy5).put HO9'.out him HK9.out RO9.out (by simp)).congr (f' := fun a => if a = i then (List.range n).map (fun b => if b < k + 1 then ssum l cs i b / wsum l cs i else ssum l cs i b) else if a < i then stepR n l cs a else (List.range n).map (ssum l cs a)) (fun a _ => by
                      by_cases ha : a = i
                      · subst ha
                        rw [if_pos rfl, if_pos rfl]
                        refine List.map_congr_left fun b _ => ?_
                        by_cases hb : b = k
                        · subst hb; rw [if_pos rfl, if_pos (by omega)]
                        · rw [if_neg hb]
                          by_cases hbk : b < k
                          · rw [if_pos hbk, if_pos (by omega)]
                          · rw [if_neg hbk, if_neg (by omega)]
                      · rw [if_neg ha, if_neg ha, if_neg ha]))
                    have RW9 := Lib.hid ((RWQ.out.ext hy5).only HO9.out (by omega) HK9.out)
                    have BS9 := Lib.hid ((BSQ.out.ext hy5).only HO9.out (by omega))
                    clear hW9 hx5 hy5 hv5 HB9 HK9 HO9 HO9' RO9 B5
                    refine AnyT.step 12 (by kernel_rfl) ?_
                    intro o ho K hK
                    simp only [List.getElem?_toArray, List.getElem?_cons_succ, List.getElem?_cons_zero, Option.some.injEq] at ho
                    subst ho
                    go_simp
                    refine hK.out _ _ (fun h => by cases h) ?_
                    refine AnyT.done (by kernel_rfl) ?_
                    rw [HW.out]
                    clear k0 k1 k2 k3 j0 j1 j2 j3
                    go_wp2_with fail
                    go_roundw
                    case rel => exact ⟨k + 1, by omega, by go_num, RW9, RS9, BS9, HX9⟩
                    case measure => simp [RowKit.intOf]; omega
                  · obtain rfl : n = k := by omega
                    have HS1 := Lib.hid (HRS.out.congr (f' := fun a => if a < i + 1 then stepR n l cs a else (List.range n).map (ssum l cs a)) (fun a _ => by
                      by_cases ha : a = i
                      · subst ha; rw [if_pos rfl, if_pos (by omega), HSR.out]; exact List.map_congr_left fun b hb => by rw [if_pos (by simpa using hb)]
                      · rw [if_neg ha]
                        by_cases hai : a < i
                        · rw [if_pos hai, if_pos (by omega)]
                        · rw [if_neg hai, if_neg (by omega)]))
                    go_wp2_with fail
                    go_roundw
                    case rel => exact ⟨i + 1, g, cp, by omega, by go_num, HRW, HS1, HBS, HXk⟩
                    case measure => simp [RowKit.intOf]; omega
            · obtain rfl : m = i := by omega
              have HGLF := Lib.hid ((HRS.out.congr (f' := stepR n l cs) (fun a ha => by rw [if_pos ha])).gl HBS.out (by omega))
              go_wp2
              go_ret
              exact ⟨_, _, rfl, by rw [stepF_eq, HM.out]; exact HGLF.out, HXi.out⟩
end Go.Proofs.YtlfcicfebhjchaaGreatDoor
