/- cluster.read. -/
import Derived.Test.YtlfcicfebhjchaaGreatDoorText
namespace Go.Proofs.YtlfcicfebhjchaaGreatDoor
open Go.RowKit Go.Lib

/-- append(s, x), as one operation -/
theorem wp_app1 {P : Program} {o : Oper} {a : Act} {w : World} {K : Act → World → Prop} {Q : Exit → Act → World → Prop} (s x : Operand) (t : TypeId)
    (ho : o.op = .call { callee := .builtin .append, args := #[s, x], argTypes := #[t, t] })
    (base : Nat) {e : TypeId} {size bytes : Nat} (T : SliceTy P t e size bytes)
    (v : Value) (n : Nat) (xs : List Value) (hs : a.eval s = v) (hown : w.ownsRow base e size v n xs)
    (cs : Array Value) (m c : Nat) (hx : a.eval x = .slice (some ⟨w.heap.size, 0, none⟩) m c) (hl : cs.size = m * size) (h1 : cs.toList.all (·.oneCell') = true)
    (hbytes : (n + m) * bytes ≤ 140737488355328) (hbase : base ≤ w.heap.size)
    (h : ∀ v' w', w'.ownsRow base e size v' (n + m) (xs ++ cs.toList) → w.grownBy w' v.ownBlock → K (a.put o.dst v') w') : o.wp P a (w.alloc (.cells cs e)) K Q := by
  obtain ⟨i, z, hi, hz, hz1, hz2, hz3⟩ := T.inf
  have hle : n + m ≤ maxLen := by
    have hp := T.bpos
    have := Nat.le_mul_of_pos_right (n + m) hp
    unfold maxLen; omega
  have hnews : ∀ j u, cs.toList[j]? = some u → (w.alloc (.cells cs e)).cell? ((⟨w.heap.size, 0, none⟩ : Addr).add j) = some u := by
    intro j u hu
    obtain ⟨g, o', cur, fr, hA, hg, hcu⟩ := Sl.new w e cs j u hu
    injection hA with hA
    rw [hA, Addr.add_lit]
    simp [World.cell?, hg, hcu]
  obtain ⟨v', w', hr, h2, h3, _, _⟩ := run_append_own_at (P := P) (w.alloc (.cells cs e)) base t o.type e i z size bytes T.ht hi hz hz1 hz2 hz3 T.pos v n xs (hown.alloc _) ⟨w.heap.size, 0, none⟩ m c cs.toList (by simpa using hl) hnews (List.all_eq_true.1 h1) hle hbytes (by simp; omega)
  unfold Oper.wp execOp
  simp only [ho, resolve, invoke, builtin, Sem.run_bind, Sem.run_pure, Result.andThen_ok, List.map_toArray, List.map_cons, List.map_nil, hs, hx, hr]
  exact h v' w' h2 (grownBy_alloc h3)
theorem own_extR {w w' : World} {base k n : Nat} {t : TypeId} {v : Value} {xs : List Value} (h : w.ownsRow base t k v n xs) (hx : Ext w w') : w'.ownsRow base t k v n xs := own_grown h (grown_ext hx) (fun k hk => by cases hk)
theorem bt88 {k n : Nat} (h : k ≤ n) (hn : n ≤ 300) : (k + 1) * 88 ≤ 140737488355328 := by omega
theorem if_go {c : Prop} [Decidable c] {a b : Prop} (h : c) (ha : a) : if c then a else b := by rw [if_pos h]; exact ha
/-- points and centres that are small enough -/
structure Good (n : Nat) (l : List Pt) (cs : List (List Rat)) : Prop where
  n1 : 1 ≤ n
  n3 : n ≤ 3
  pts : l.length ≤ 300
  cts : cs.length ≤ 4
  pn : ∀ x ∈ l, x.1.length = n
  cn : ∀ c ∈ cs, c.length = n
  pf : ∀ x ∈ l, ∀ q ∈ x.1, FitQ 400 q
  cf : ∀ c ∈ cs, ∀ q ∈ c, FitQ 400 q
  wf : ∀ x ∈ l, FitQ 400 x.2
  wp : ∀ x ∈ l, 0 < x.2.num
/-- all places -/
def alls (l : List Pt) (cs : List (List Rat)) : List (List Rat) := cs ++ l.map Prod.fst
theorem alls_next {l : List Pt} {cs : List (List Rat)} {k : Nat} (h : k < l.length) : alls (l.take (k + 1)) cs = alls (l.take k) cs ++ [l[k].1] := by
  unfold alls
  rw [List.take_succ_eq_append_getElem h, List.map_append, List.append_assoc]
  rfl
theorem alls_length {l : List Pt} {cs : List (List Rat)} {k : Nat} (h : k ≤ l.length) : (alls (l.take k) cs).length = cs.length + k := by
  unfold alls
  rw [List.length_append, List.length_map, List.length_take, Nat.min_eq_left h]
theorem Good.all {n : Nat} {l : List Pt} {cs : List (List Rat)} (h : Good n l cs) : ∀ p ∈ alls l cs, p.length = n ∧ ∀ q ∈ p, FitQ 400 q := by
  intro p hp
  rcases List.mem_append.1 hp with hp | hp
  · exact ⟨h.cn p hp, h.cf p hp⟩
  · obtain ⟨x, hx, rfl⟩ := List.mem_map.1 hp
    exact ⟨h.pn x hx, h.pf x hx⟩
set_option maxRecDepth 100000 in
set_option maxHeartbeats 8000000 in
theorem cread_any (vl vc : Value) (n : Nat) (l : List Pt) (cs : List (List Rat)) (w : World) (hl : CL w vl l) (hc : PL w vc cs) (hg : Good n l cs) :
    Calls Tryz.prog 35 #[vl, vc] w fun e w' => ∃ Ap cp Ac cc, e = .returned (.tuple #[.slice Ap l.length cp, .slice Ac cs.length cc, .bool true]) ∧ QL w' (.slice Ap l.length cp) l ∧ GL w' (.slice Ac cs.length cc) cs ∧ Ext w w' := by
  obtain ⟨A, ca, rfl, _, hca, HA⟩ := hl.parts
  obtain ⟨B, cb, rfl, hbc, hcb, HB⟩ := hc.parts
  have hca : ca ≤ 9223372036854775807 := by unfold maxLen at hca; omega
  have hcb : cb ≤ 9223372036854775807 := by unfold maxLen at hcb; omega
  have HG := Lib.hid hg
  have h300 := hg.pts
  have h4 := hg.cts
  clear hl hc hg
  have HCL : Hid (∃ xs, xs.length = cs.length * 1 ∧ Ch (PR w) xs cs ∧ Calls Tryz.prog 62 #[.slice B cs.length cb] w fun e w' => ∃ v', e = .returned v' ∧ w'.ownsRow w.heap.size tRats 1 v' cs.length xs ∧ Ext w w') := by
    obtain ⟨A', c', xs, e, h2, h3, h4', h5, h6⟩ := HB.out
    injection e with e1 _ e3
    subst e1 e3
    have hx := Ch.length (OneR.one w) h6
    exact ⟨xs, hx, h6, clone_rats B cs.length cb xs w h4' h5 hx hbc (Ch.all (fun c x ⟨A, cp, e, _⟩ u hu => by rw [e] at hu; simp only [List.mem_singleton] at hu; subst hu; rfl) h6) (by omega)⟩
  obtain ⟨xs, hxl, hxc, hcl⟩ := HCL.out
  have HXC := Lib.hid hxc
  have HCL := Lib.hid hcl
  clear hxl hxc hcl
  have d300 : decide ((l.length : Int) > 300) = false := decide_eq_false (by omega)
  have d4 : decide ((cs.length : Int) > 4) = false := decide_eq_false (by omega)
  go_enter Tryz.func35, Tryz.ntmps35
  go_wp2_with fail
  refine HCL.out.mono ?_
  rintro e w1 ⟨v1, rfl, ho1, hx1⟩
  have O1 : Hid (OwnL tRats 1 PR w.heap.size w1 v1 (alls (l.take 0) cs)) := by
    rw [Hid, show alls (l.take 0) cs = cs by simp [alls]]
    exact ⟨xs, ho1, HXC.out.mono fun c x hc => PR.stab _ _ _ _ (fun _ _ => .of_below hx1) hc⟩
  have HX1 := Lib.hid hx1
  clear ho1 hx1 HCL HXC d300 d4
  go_wp2_with fail
  go_loopw [7, 8, 10, 25] (fun v7 v8 _ v25 wr => ∃ k : Nat, k ≤ l.length ∧ v25 = .int .i64 k ∧ Hid (OwnL tRats 1 PR w.heap.size wr v7 (alls (l.take k) cs)) ∧ Hid (OwnL tPoint 5 PoR w.heap.size wr v8 (l.take k)) ∧ Hid (Ext w wr)) (fun _ _ _ v25 _ => l.length - (RowKit.intOf v25).toNat)
  case atStart => exact ⟨0, Nat.zero_le _, rfl, O1, OwnL.nil, HX1⟩
  case round =>
    obtain ⟨k, hk, rfl, HO7, HO8, HXS⟩ := hrel
    have HLK : Hid ((l.take k).length = k) := by rw [Hid, List.length_take, Nat.min_eq_left hk]
    have HLA := Lib.hid (alls_length (cs := cs) hk)
    obtain ⟨A7, c7, xs7, rfl, _, hc7, HR7, HC7⟩ := HO7.out.parts
    obtain ⟨A8, c8, xs8, rfl, _, hc8, HR8, HC8⟩ := HO8.out.parts
    have HR80 := HR8
    rw [HLA.out] at HR7 ⊢
    rw [HLK.out] at HR8 ⊢
    by_cases hkl : k < l.length
    · obtain ⟨g1, o1, A1, c1, rfl, _, HL1, hp1, hp2⟩ := CL.get (CL.ext HA.out HXS.out) hkl
      have HNX := Lib.hid (List.take_succ_eq_append_getElem hkl)
      have HNA := Lib.hid (alls_next (cs := cs) hkl)
      have hmem := List.getElem_mem hkl
      have LIK : Hid (∀ w', RL w' (.slice A1 l[k].1.length c1) l[k].1 → Calls Tryz.prog 52 #[.slice A1 l[k].1.length c1] w' fun e w'' => ∃ v', e = .returned v' ∧ FL w'' v' l[k].1 ∧ Ext w' w'') := fun w' hx => xlist_any _ l[k].1 w' hx (HG.out.pf _ hmem) (by rw [HG.out.pn _ hmem]; have := HG.out.n3; omega)
      have SG : Hid (∀ w', Calls Tryz.prog 63 #[.string ⟨(ratText l[k].2).toArray⟩] w' fun e w'' => e = .returned (.int .i64 1) ∧ Ext w' w'') := fun w' => by
        have h := rsign_any l[k].2 w' (HG.out.wf _ hmem)
        rw [Int.sign_eq_one_of_pos (HG.out.wp _ hmem)] at h
        exact h
      have RD := Lib.hid (fun w => xread_any l[k].2 w (HG.out.wf _ hmem))
      clear hmem
      generalize l[k] = x at *
      obtain ⟨p, q⟩ := x
      simp only at LIK SG RD HNA HL1 hp1 hp2
      generalize ratText q = tq at *
      go_upto_region 8 with fail
      refine box1 (P := fun W => Code.wp _ _ _ _ W) fun W2 HX2 BX => ?_
      obtain ⟨j0, j1⟩ := BX.out.two
      clear hp1 hp2
      go_wp2_with fail
      refine (SG.out W2).mono ?_
      rintro e w3 ⟨rfl, hx3⟩
      have BX3 := Lib.hid (BX.out.ext hx3)
      have hy3 := HX2.out.trans hx3
      have O3 := Lib.hid (own_extR HR7.out hy3)
      have HX3 := Lib.hid (HXS.out.trans hy3)
      have hw3 := HX3.out.size
      have HC3 : Hid (Ch (PR w3) xs7 (alls (l.take k) cs)) := HC7.out.mono fun c x hc => PR.stab _ _ _ _ (fun _ _ => .of_below hy3) hc
      have HL3 := Lib.hid (RL.ext HL1.out hy3)
      have HQ3 := Lib.hid (HO8.out.ext PoR.stab hy3)
      have hbt : (cs.length + k + 1) * 24 ≤ 140737488355328 := by omega
      have HE3 := Lib.hid hy3
      have HBT := Lib.hid (bt88 hk h300)
      clear hx3 hy3 j0 j1
      obtain ⟨j0, j1⟩ := BX3.out.two
      go_wp2_with (at_builtin; refine wpList_app1 rfl _ _ 30 rfl w.heap.size rats_slice _ _ _ rfl O3.out #[.slice A1 p.length c1] 1 1 rfl rfl rfl hbt hw3 ?_)
      intro v' w4 ho4 hg4 _
      have O4 : Hid (OwnL tRats 1 PR w.heap.size w4 v' (alls (l.take k) cs ++ [p])) := OwnL.snoc (R := PR) (w := w3) (x := p) PR.stab (by decide) (by rw [HLA.out]; exact O3.out) HC3.out ⟨A1, c1, rfl, HL3.out⟩ (by rw [HLA.out]; exact ho4) hg4
      have HX4 := Lib.hid (HX3.out.grownO O3.out hg4)
      have hw4 := HX4.out.size
      have BX4 : Hid (Blk w4 wr.heap.size tCore [.slice A1 p.length c1, .string ⟨tq.toArray⟩]) := (hg4.block _ BX3.out.lt (fun e => by
        rcases O3.out.2 with ⟨hv, _⟩ | ⟨g, cap, cur, hv, _, hh, _⟩
        · rw [hv] at e; cases e
        · rw [hv] at e
          have e' : wr.heap.size = g := by simpa [Value.ownBlock] using e
          have h := BX3.out
          unfold Blk at h
          rw [e', hh] at h
          injection h with h
          injection h with _ ht
          exact absurd ht (by decide))).trans BX3.out
      have HE4 : Hid (∀ t, t ≠ tRats → Kept t wr w4) := fun t ht => (Kept.of_below HE3.out).trans (Kept.grown O3.out hg4 (fun h => ht h.symm))
      have HQ4 := Lib.hid (HQ3.out.grown PoR.stab hg4 (fun g hg he => own_apart O3.out (own_extR HR80.out HE3.out) (by decide) g hg he) (fun u hu => Kept.grown O3.out hg4 (by rintro rfl; revert hu; decide)))
      have LI4 : Hid (∀ w', Ext w4 w' → Calls Tryz.prog 52 #[.slice A1 p.length c1] w' fun e w'' => ∃ v', e = .returned v' ∧ FL w'' v' p ∧ Ext w' w'') := fun w' hx => LIK.out w' (RL.ext (HL3.out.keep RatR.stab (fun u hu => (Kept.grown O3.out hg4 (by simp only [List.mem_singleton] at hu; subst hu; decide)))) hx)
      clear ho4 hg4 j0 j1
      obtain ⟨A9, c9, xs9, rfl, _, hc9, HR9, HC9⟩ := O4.out.parts
      obtain ⟨A', c', xs84, e, _, _, HR84, HC84⟩ := HQ4.out.parts
      injection e with e1 _ e2
      subst e1 e2
      rw [HLK.out] at HR84
      go_upto_region 11 with fail
      obtain ⟨S, hSd⟩ : ∃ S : World → Prop, S = fun w' => w'.cell? ⟨wr.heap.size, 0, none⟩ = some (.slice A1 p.length c1) ∧ w'.cell? ⟨wr.heap.size, 1, none⟩ = some (.string ⟨tq.toArray⟩) := ⟨_, rfl⟩
      have HSI : Hid (∀ w', S w' → w'.cell? ⟨wr.heap.size, 0, none⟩ = some (.slice A1 p.length c1) ∧ w'.cell? ⟨wr.heap.size, 1, none⟩ = some (.string ⟨tq.toArray⟩)) := by rw [Hid, hSd]; exact fun _ h => h
      have HSE : Hid (∀ w', Ext w4 w' → S w') := by rw [Hid, hSd]; exact fun w' h => (BX4.out.ext h).two
      have HS0 : Hid (S w4.drew) := HSE.out _ (Ext.refl w4).drew
      clear hSd
      refine AnyT.start (S := S) (T := fun j => decide (9 ≤ j)) (by kernel_rfl) ?_
      refine AnyT.load 0 38 (.slice A8 k c8) rfl (by kernel_rfl) (by kernel_rfl) (by kernel_rfl) (by kernel_rfl) (by kernel_rfl) (fun _ _ _ h => h) HS0.out ?_ ?_
      · intro o ho
        simp only [List.getElem?_toArray, List.getElem?_cons_zero, Option.some.injEq] at ho
        subst ho
        refine ⟨rfl, rfl, fun w' hSw => ?_⟩
        have hs := HSI.out w' hSw
        go_split_ands
        go_simp
      simp only [Act.put, List.setIfInBounds_toArray, List.set_cons_zero, List.set_cons_succ]
      refine AnyT.load 1 39 (.pointer (some ⟨wr.heap.size, 0, none⟩)) rfl (by kernel_rfl) (by kernel_rfl) (by kernel_rfl) (by kernel_rfl) (by kernel_rfl) (fun _ _ _ h => h) HS0.out ?_ ?_
      · intro o ho
        simp only [List.getElem?_toArray, List.getElem?_cons_succ, List.getElem?_cons_zero, Option.some.injEq] at ho
        subst ho
        refine ⟨rfl, rfl, fun w' hSw => ?_⟩
        have hs := HSI.out w' hSw
        go_split_ands
        go_simp
      simp only [Act.put, List.setIfInBounds_toArray, List.set_cons_zero, List.set_cons_succ]
      refine AnyT.load 2 40 (.slice A1 p.length c1) rfl (by kernel_rfl) (by kernel_rfl) (by kernel_rfl) (by kernel_rfl) (by kernel_rfl) (fun _ _ _ h => h) HS0.out ?_ ?_
      · intro o ho
        simp only [List.getElem?_toArray, List.getElem?_cons_succ, List.getElem?_cons_zero, Option.some.injEq] at ho
        subst ho
        refine ⟨rfl, rfl, fun w' hSw => ?_⟩
        have hs := HSI.out w' hSw
        go_split_ands
        go_simp
      simp only [Act.put, List.setIfInBounds_toArray, List.set_cons_zero, List.set_cons_succ]
      refine AnyT.load 4 42 (.pointer (some ⟨wr.heap.size, 1, none⟩)) rfl (by kernel_rfl) (by kernel_rfl) (by kernel_rfl) (by kernel_rfl) (by kernel_rfl) (fun _ _ _ h => h) HS0.out ?_ ?_
      · intro o ho
        simp only [List.getElem?_toArray, List.getElem?_cons_succ, List.getElem?_cons_zero, Option.some.injEq] at ho
        subst ho
        refine ⟨rfl, rfl, fun w' hSw => ?_⟩
        have hs := HSI.out w' hSw
        go_split_ands
        go_simp
      simp only [Act.put, List.setIfInBounds_toArray, List.set_cons_zero, List.set_cons_succ]
      refine AnyT.load 5 43 (.string ⟨tq.toArray⟩) rfl (by kernel_rfl) (by kernel_rfl) (by kernel_rfl) (by kernel_rfl) (by kernel_rfl) (fun _ _ _ h => h) HS0.out ?_ ?_
      · intro o ho
        simp only [List.getElem?_toArray, List.getElem?_cons_succ, List.getElem?_cons_zero, Option.some.injEq] at ho
        subst ho
        refine ⟨rfl, rfl, fun w' hSw => ?_⟩
        have hs := HSI.out w' hSw
        go_split_ands
        go_simp
      simp only [Act.put, List.setIfInBounds_toArray, List.set_cons_zero, List.set_cons_succ]
      refine AnyT.step 3 (by kernel_rfl) ?_
      intro o ho K hK
      simp only [List.getElem?_toArray, List.getElem?_cons_succ, List.getElem?_cons_zero, Option.some.injEq] at ho
      subst ho
      go_simp
      refine (LI4.out _ (Ext.refl w4).drew).mono ?_
      rintro e w5 ⟨v5, rfl, hv5, hx5⟩
      have hy5 := (Ext.refl w4).drew.trans hx5
      obtain ⟨A5, c5, rfl, _, _, HV5⟩ := hv5.parts
      refine hK.out _ _ (fun _ => HSE.out _ hy5) ?_
      refine AnyT.step 6 (by kernel_rfl) ?_
      intro o ho K hK
      simp only [List.getElem?_toArray, List.getElem?_cons_succ, List.getElem?_cons_zero, Option.some.injEq] at ho
      subst ho
      go_simp
      refine (RD.out w5).mono ?_
      rintro e w6 ⟨v6, rfl, hw6', hx6⟩
      have hy6 := hy5.trans hx6
      obtain ⟨r0, R0, r1, r2, s0, S0, s1, s2, rfl, _, _⟩ := hw6'.parts
      refine hK.out _ _ (fun _ => HSE.out _ hy6) ?_
      have hv6 := FL.ext HV5.out hx6
      have hv5 := hw6'
      clear hw6'
      have HL6 := Lib.hid hv6
      have HV6 := Lib.hid hv5
      clear hv6 hv5 HV5
      refine AnyT.step 7 (by kernel_rfl) ?_
      intro o ho K hK
      simp only [List.getElem?_toArray, List.getElem?_cons_succ, List.getElem?_cons_zero, Option.some.injEq] at ho
      subst ho
      go_simp
      refine hK.out _ _ (fun _ => HSE.out _ hy6) ?_
      refine AnyT.step 8 (by kernel_rfl) ?_
      intro o ho K hK
      simp only [List.getElem?_toArray, List.getElem?_cons_succ, List.getElem?_cons_zero, Option.some.injEq] at ho
      subst ho
      go_simp
      refine hK.out _ _ (fun _ => HSE.out _ (hy6.alloc _)) ?_
      have HO6 := Lib.hid (own_extR HR84.out hy6)
      have hw6 : w.heap.size ≤ w6.heap.size := Nat.le_trans hw4 hy6.size
      refine AnyT.step 9 (by kernel_rfl) ?_
      intro o ho K hK
      simp only [List.getElem?_toArray, List.getElem?_cons_succ, List.getElem?_cons_zero, Option.some.injEq] at ho
      subst ho
      refine if_go rfl ?_
      refine wp_app1 _ _ 68 rfl w.heap.size point_slice _ _ _ rfl HO6.out #[.slice A5 p.length c5, .bool r0, .slice R0 r1 r2, .bool s0, .slice S0 s1 s2] 1 1 rfl rfl rfl HBT.out hw6 ?_
      intro v' w7 ho7 hg7
      have HX7 := Lib.hid ((HX4.out.trans hy6).grownO HO6.out hg7)
      have O7 : Hid (OwnL tPoint 5 PoR w.heap.size w7 v' (l.take k ++ [(p, q)])) := OwnL.snoc (R := PoR) (w := w6) (x := (p, q)) PoR.stab (by decide) (by rw [HLK.out]; exact HO6.out) (HC84.out.mono fun c x hc => PoR.stab _ _ _ _ (fun _ _ => .of_below hy6) hc) ⟨A5, c5, r0, R0, r1, r2, s0, S0, s1, s2, rfl, HL6.out, HV6.out⟩ (by rw [HLK.out]; exact ho7) hg7
      have O7' := Lib.hid ((OwnL.ext PR.stab O4.out hy6).grown PR.stab hg7 (fun g hg he => own_apart HO6.out (own_extR HR9.out hy6) (by decide) g hg he) (fun u hu => Kept.grown HO6.out hg7 (by simp only [List.mem_singleton] at hu; subst hu; decide)))
      clear ho7 hg7
      simp only [Act.put, List.setIfInBounds_toArray, List.set_cons_zero, List.set_cons_succ]
      refine hK.out _ _ (fun h => by cases h) ?_
      refine AnyT.step 10 (by kernel_rfl) ?_
      intro o ho K hK
      simp only [List.getElem?_toArray, List.getElem?_cons_succ, List.getElem?_cons_zero, Option.some.injEq] at ho
      subst ho
      go_simp
      refine hK.out _ _ (fun h => by cases h) ?_
      refine AnyT.done (by kernel_rfl) ?_
      go_wp2_with fail
      go_roundw
      case rel => exact ⟨k + 1, by omega, by go_num, by rw [HNA.out]; have h := O7'; rw [List.length_append] at h; exact h, by rw [HNX.out]; exact O7, HX7⟩
      case measure => simp [RowKit.intOf]; omega
    · obtain rfl : k = l.length := by omega
      rw [List.take_of_length_le (Nat.le_refl _)] at HO7 HO8 HC7 HC8
      have HQ := Lib.hid HO8.out.ls
      have HL7 := Lib.hid HO7.out.ls
      have HN1 := HG.out.n1
      have HN3 := HG.out.n3
      have HAL := Lib.hid HG.out.all
      have HAN : Hid ((alls l cs).length = cs.length + l.length) := by rw [Hid]; unfold alls; rw [List.length_append, List.length_map]
      rw [HAN.out] at HL7
      have LS := Lib.hid (fun w' hx => clists_any _ cs w' (PL.ext HB.out hx) (fun p hp => ⟨by rw [HG.out.cn p hp]; omega, HG.out.cf p hp⟩) (by omega))
      have hc7 : c7 ≤ 9223372036854775807 := by unfold maxLen at hc7; omega
      have hc7' : cs.length + l.length ≤ c7 := by
        have h := HL7.out.parts
        rw [HAN.out] at h
        obtain ⟨_, _, e, h, _⟩ := h
        injection e with _ _ e
        omega
      clear HO7 HO8 HR7 HR8 HC7 HC8 HR80 HLA HLK
      generalize hN : cs.length + l.length = N at *
      have HNN := Lib.hid hN
      clear hN
      generalize wr = w9 at *
      go_wp2_with fail
      go_loopw [12, 51] (fun _ v51 w2 => ∃ k : Nat, k ≤ N ∧ v51 = .int .i64 k ∧ Hid (Ext w9 w2)) (fun _ v51 _ => N - (RowKit.intOf v51).toNat)
      case atStart => exact ⟨0, Nat.zero_le _, rfl, Ext.refl _⟩
      case round =>
        obtain ⟨k, hk2, rfl, HX2⟩ := hrel
        by_cases hkl2 : k < N
        · have hkA : k < (alls l cs).length := by rw [HAN.out]; exact hkl2
          have h0A : 0 < (alls l cs).length := by omega
          obtain ⟨g1, o1, A1, c1, rfl, _, HL1, hc1⟩ := OneR.get (PL.ext HL7.out HX2.out) hkA
          obtain ⟨g2, o2, A2, c2, e, _, HL2, hc2⟩ := OneR.get (PL.ext HL7.out HX2.out) h0A
          injection e with e
          injection e with e1 e2
          subst e1 e2
          have hp1 := HAL.out _ (List.getElem_mem hkA)
          have hp2 := HAL.out _ (List.getElem_mem h0A)
          have VA := Lib.hid (xvalid_any _ _ wr HL1.out hp1.2)
          rw [hp1.1] at hc1 VA
          rw [hp2.1] at hc2
          clear hp1 hp2 HL1 HL2 hkA h0A
          rw [Nat.add_zero] at hc2
          have d1 : decide ((n : Int) < 1) = false := decide_eq_false (by omega)
          have d3 : decide ((n : Int) > 3) = false := decide_eq_false (by omega)
          go_wp2_with fail
          refine VA.out.mono ?_
          rintro e w3 ⟨rfl, hx3⟩
          have HX3 := Lib.hid (HX2.out.trans hx3)
          clear hx3 hc1 hc2 d1 d3
          go_wp2_with fail
          go_roundw
          case rel => exact ⟨k + 1, by omega, by go_num, HX3⟩
          case measure => simp [RowKit.intOf]; omega
        · obtain rfl : k = N := by omega
          go_wp2_with fail
          refine (LS.out _ (HXS.out.trans HX2.out)).mono ?_
          rintro e w3 ⟨Ac, cc, rfl, hgl, hx3⟩
          have HGL := Lib.hid hgl
          have HX3 := Lib.hid (HX2.out.trans hx3)
          clear hgl hx3
          go_wp2
          go_ret3
          exact ⟨A8, c8, Ac, cc, rfl, QL.ext HQ.out HX3.out, HGL.out, HXS.out.trans HX3.out⟩
end Go.Proofs.YtlfcicfebhjchaaGreatDoor
