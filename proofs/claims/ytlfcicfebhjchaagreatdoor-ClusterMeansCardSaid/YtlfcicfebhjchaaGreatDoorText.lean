/- rational.Sign, slices.Clone, fraction.Texts, cluster.lists, cluster.texts. -/
import Derived.Test.YtlfcicfebhjchaaGreatDoorNear
namespace Go.Proofs.YtlfcicfebhjchaaGreatDoor
open Go.RowKit Go.Lib

theorem Ch.all {α : Type} {R : List Value → α → Prop} {P : Value → Prop} (h : ∀ c x, R c x → ∀ u ∈ c, P u) : ∀ {xs : List Value} {l : List α}, Ch R xs l → ∀ u ∈ xs, P u
  | _, [], hx => by rw [show _ = [] from hx]; simp
  | _, _ :: _, ⟨c, r, e, h1, h2⟩ => by
    subst e
    intro u hu
    rcases List.mem_append.1 hu with hu | hu
    · exact h _ _ h1 u hu
    · exact Ch.all h h2 u hu
theorem own_apart {w : World} {b1 b2 k1 k2 n m : Nat} {e1 e2 : TypeId} {v u : Value} {xs ys : List Value} (h : w.ownsRow b1 e1 k1 v n xs) (h' : w.ownsRow b2 e2 k2 u m ys) (hne : e1 ≠ e2) (g : Nat) (hg : v.ownBlock = some g) : u.ownBlock ≠ some g := by
  intro hu
  rcases h.2 with ⟨rfl, _⟩ | ⟨g1, cap, cur, rfl, _, hh, _⟩
  · cases hg
  · rcases h'.2 with ⟨rfl, _⟩ | ⟨g2, cap', cur', rfl, _, hh', _⟩
    · cases hu
    · have e1 : g1 = g := by simpa [Value.ownBlock] using hg
      have e2 : g2 = g := by simpa [Value.ownBlock] using hu
      subst e1 e2
      rw [hh] at hh'
      injection hh' with hh'
      injection hh' with _ ht
      exact hne ht
/-- an empty row that was just laid -/
theorem own_empty (w : World) (e : TypeId) (size : Nat) : (w.alloc (.cells #[] e)).ownsRow w.heap.size e size (.slice (some ⟨w.heap.size, 0, none⟩) 0 0) 0 [] :=
  ⟨by simp, .inr ⟨w.heap.size, 0, #[], rfl, Nat.le_refl _, heap_alloc_new w _, Nat.le_refl _, by unfold maxLen; omega, by simp, by simp⟩⟩
set_option maxRecDepth 100000 in
set_option maxHeartbeats 4000000 in
theorem rsign_any (q : Rat) (w : World) (hf : FitQ 400 q) :
    Calls Tryz.prog 63 #[.string ⟨(ratText q).toArray⟩] w fun e w' => e = .returned (.int .i64 q.num.sign) ∧ Ext w w' := by
  have V := Lib.hid (fun w => rvalid_any q w hf)
  have R := Lib.hid (fun w => fread_any q w (e := 399) hf (by decide))
  have G := Lib.hid (fun v w h => fsign_any v q w h hf (by decide))
  generalize ratText q = t at *
  go_enter Tryz.func63, Tryz.ntmps63
  go_wp2_with fail
  refine (V.out w).mono ?_
  rintro e w1 ⟨rfl, hx1⟩
  go_wp2_with fail
  refine (R.out w1).mono ?_
  rintro e w2 ⟨v, rfl, hv, hx2⟩
  go_wp2_with fail
  refine (G.out v w2 hv).mono ?_
  rintro e w3 ⟨rfl, hx3⟩
  go_wp2
  go_ret
  exact ⟨rfl, hx1.trans (hx2.trans hx3)⟩
set_option maxRecDepth 100000 in
set_option maxHeartbeats 4000000 in
theorem clone_rats (A : Option Addr) (n c : Nat) (xs : List Value) (w : World) (hA : A = none → c = 0) (hs : Sl w tRats A xs) (hl : xs.length = n * 1) (hnc : n ≤ c) (h1 : ∀ u ∈ xs, u.oneCell' = true) (hn : n ≤ 1000000) :
    Calls Tryz.prog 62 #[.slice A n c] w fun e w' => ∃ v', e = .returned v' ∧ w'.ownsRow w.heap.size tRats 1 v' n xs ∧ Ext w w' := by
  have HS := Lib.hid hs
  have H1 := Lib.hid h1
  have HL := Lib.hid hl
  clear hs h1 hl
  rcases A with _ | ad
  · have hc := hA rfl
    subst hc
    obtain rfl : n = 0 := by omega
    have hx : xs = [] := List.eq_nil_of_length_eq_zero (by rw [HL.out])
    subst hx
    clear hA
    have hq := fun w => Lib.run_eql_slice_nil w 30 tRats none 0 0 0 0 rats_slice.ht
    go_enter Tryz.func62, Tryz.ntmps62
    go_wp2
    go_ret
    exact ⟨_, rfl, World.ownsRow_nil _ _ _ _, Ext.refl w⟩
  · have HO := Lib.hid (own_empty w tRats 1)
    have HSL := Lib.hid (HS.out.ext ((Ext.refl w).alloc (.cells #[] tRats)))
    have hbt : (0 + n) * 24 ≤ 140737488355328 := by omega
    clear hA
    have hq := fun w => Lib.run_eql_slice_nil w 30 tRats (some ad) n c 0 0 rats_slice.ht
    go_enter Tryz.func62, Tryz.ntmps62
    go_wp2_with (at_builtin; refine wpList_app rfl _ _ 30 rfl w.heap.size rats_slice _ _ _ rfl HO.out (some ad) n c xs rfl (fun h => by cases h) HL.out HSL.out H1.out hbt (by simp) ?_)
    intro v' w' ho hg _
    have HX : Hid (Ext w w') := grown_below ((Ext.refl w).alloc _) HO.out hg (Nat.le_refl _)
    have HO' : Hid (w'.ownsRow w.heap.size tRats 1 v' n xs) := by
      rw [Hid]
      simpa using ho
    clear ho hg
    go_wp2
    go_ret
    exact ⟨_, rfl, HO'.out, HX.out⟩
set_option maxRecDepth 100000 in
set_option maxHeartbeats 4000000 in
theorem clone_rat (A : Option Addr) (n c : Nat) (xs : List Value) (w : World) (hA : A = none → c = 0) (hs : Sl w tRat A xs) (hl : xs.length = n * 1) (hnc : n ≤ c) (h1 : ∀ u ∈ xs, u.oneCell' = true) (hn : n ≤ 1000000) :
    Calls Tryz.prog 44 #[.slice A n c] w fun e w' => ∃ v', e = .returned v' ∧ w'.ownsRow w.heap.size tRat 1 v' n xs ∧ Ext w w' := by
  have HS := Lib.hid hs
  have H1 := Lib.hid h1
  have HL := Lib.hid hl
  clear hs h1 hl
  rcases A with _ | ad
  · have hc := hA rfl
    subst hc
    obtain rfl : n = 0 := by omega
    have hx : xs = [] := List.eq_nil_of_length_eq_zero (by rw [HL.out])
    subst hx
    clear hA
    have hq := fun w => Lib.run_eql_slice_nil w tRats tRat none 0 0 0 0 rat_slice.ht
    go_enter Tryz.func44, Tryz.ntmps44
    go_wp2
    go_ret
    exact ⟨_, rfl, World.ownsRow_nil _ _ _ _, Ext.refl w⟩
  · have HO := Lib.hid (own_empty w tRat 1)
    have HSL := Lib.hid (HS.out.ext ((Ext.refl w).alloc (.cells #[] tRat)))
    have hbt : (0 + n) * 16 ≤ 140737488355328 := by omega
    clear hA
    have hq := fun w => Lib.run_eql_slice_nil w tRats tRat (some ad) n c 0 0 rat_slice.ht
    go_enter Tryz.func44, Tryz.ntmps44
    go_wp2_with (at_builtin; refine wpList_app rfl _ _ tRats rfl w.heap.size rat_slice _ _ _ rfl HO.out (some ad) n c xs rfl (fun h => by cases h) HL.out HSL.out H1.out hbt (by simp) ?_)
    intro v' w' ho hg _
    have HX : Hid (Ext w w') := grown_below ((Ext.refl w).alloc _) HO.out hg (Nat.le_refl _)
    have HO' : Hid (w'.ownsRow w.heap.size tRat 1 v' n xs) := by
      rw [Hid]
      simpa using ho
    clear ho hg
    go_wp2
    go_ret
    exact ⟨_, rfl, HO'.out, HX.out⟩
set_option maxRecDepth 100000 in
set_option maxHeartbeats 4000000 in
theorem clone_frac (A : Option Addr) (n c : Nat) (xs : List Value) (w : World) (hA : A = none → c = 0) (hs : Sl w tFrac A xs) (hl : xs.length = n * 4) (hnc : n ≤ c) (h1 : ∀ u ∈ xs, u.oneCell' = true) (hn : n ≤ 1000000) :
    Calls Tryz.prog 75 #[.slice A n c] w fun e w' => ∃ v', e = .returned v' ∧ w'.ownsRow w.heap.size tFrac 4 v' n xs ∧ Ext w w' := by
  have HS := Lib.hid hs
  have H1 := Lib.hid h1
  have HL := Lib.hid hl
  clear hs h1 hl
  rcases A with _ | ad
  · have hc := hA rfl
    subst hc
    obtain rfl : n = 0 := by omega
    have hx : xs = [] := List.eq_nil_of_length_eq_zero (by rw [HL.out])
    subst hx
    clear hA
    have hq := fun w => Lib.run_eql_slice_nil w tFracs tFrac none 0 0 0 0 frac_slice.ht
    go_enter Tryz.func75, Tryz.ntmps75
    go_wp2
    go_ret
    exact ⟨_, rfl, World.ownsRow_nil _ _ _ _, Ext.refl w⟩
  · have HO := Lib.hid (own_empty w tFrac 4)
    have HSL := Lib.hid (HS.out.ext ((Ext.refl w).alloc (.cells #[] tFrac)))
    have hbt : (0 + n) * 64 ≤ 140737488355328 := by omega
    clear hA
    have hq := fun w => Lib.run_eql_slice_nil w tFracs tFrac (some ad) n c 0 0 frac_slice.ht
    go_enter Tryz.func75, Tryz.ntmps75
    go_wp2_with (at_builtin; refine wpList_app rfl _ _ tFracs rfl w.heap.size frac_slice _ _ _ rfl HO.out (some ad) n c xs rfl (fun h => by cases h) HL.out HSL.out H1.out hbt (by simp) ?_)
    intro v' w' ho hg _
    have HX : Hid (Ext w w') := grown_below ((Ext.refl w).alloc _) HO.out hg (Nat.le_refl _)
    have HO' : Hid (w'.ownsRow w.heap.size tFrac 4 v' n xs) := by
      rw [Hid]
      simpa using ho
    clear ho hg
    go_wp2
    go_ret
    exact ⟨_, rfl, HO'.out, HX.out⟩
set_option maxRecDepth 100000 in
set_option maxHeartbeats 4000000 in
theorem ftexts_any (v : Value) (l : List Rat) (w : World) (h : FL w v l) (hf : ∀ q ∈ l, FitQ 400 q) (hn : l.length ≤ 1000) (ht : Tab w) :
    Calls Tryz.prog 73 #[v] w fun e w' => ∃ A c, e = .returned (.tuple #[.slice A l.length c, .int .i64 0]) ∧ RL w' (.slice A l.length c) l ∧ Ext w w' := by
  obtain ⟨A, c, rfl, hlc, hcm, HL⟩ := h.parts
  have HF := Lib.hid hf
  have HT := Lib.hid ht
  have hcm : c ≤ 9223372036854775807 := by unfold maxLen at hcm; omega
  clear hf h ht
  go_enter Tryz.func73, Tryz.ntmps73
  go_wp2_with fail
  go_loopw [4, 6, 7, 8, 11] (fun v4 _ _ _ v11 wr => ∃ k : Nat, k ≤ l.length ∧ v11 = .int .i64 k ∧ Hid (OwnL tRat 1 RatR w.heap.size wr v4 (l.take k)) ∧ Hid (Ext w wr)) (fun _ _ _ _ v11 _ => l.length - (RowKit.intOf v11).toNat)
  case atStart => exact ⟨0, Nat.zero_le _, rfl, OwnL.nil, Ext.refl w⟩
  case round =>
    obtain ⟨k, hk, rfl, HO, HX⟩ := hrel
    have hlk : (l.take k).length = k := by rw [List.length_take, Nat.min_eq_left hk]
    by_cases hkl : k < l.length
    · obtain ⟨g1, o1, x0, X0, x1, x2, y0, Y0, y1, y2, rfl, _, HVA, p0, p1, p2, p3⟩ := FL.get (FL.ext HL.out HX.out) hkl
      have HNX := Lib.hid (List.take_succ_eq_append_getElem hkl)
      have FI := Lib.hid (fun (v : Value) (w : World) (h : FracV w v l[k]) (ht : Tab w) => ffits_any v l[k] w h (HF.out _ (List.getElem_mem hkl)) ht)
      obtain ⟨A4, c4, xs, rfl, _, _, HR, HC⟩ := HO.out.parts
      rw [hlk] at HR ⊢
      generalize hq : l[k] = q at *
      clear hq
      obtain ⟨tq, htq⟩ : ∃ tq, ratText q = tq := ⟨_, rfl⟩
      rw [htq] at FI
      have HTQ := Lib.hid htq
      clear htq
      go_upto_region 5 with fail
      refine newbox (P := fun W => Code.wp _ _ _ _ W) HVA.out fun W1 HX1 BX hsz => ?_
      obtain ⟨z0, Z0, z1, z2, t0, T0, t1, t2, BD, VD⟩ := BX.out.parts
      obtain ⟨j0, j1, j2, j3⟩ := BD.out.four
      clear p0 p1 p2 p3
      go_wp2_with fail
      refine (FI.out _ _ VD.out (HT.out.ext (HX.out.trans HX1.out))).mono ?_
      rintro e w2 ⟨rfl, hx2⟩
      have HO2 := Lib.hid (own_grown HR.out (grown_ext (HX1.out.trans hx2)) (fun k hk => by cases hk))
      have HX2 := Lib.hid (HX.out.trans (HX1.out.trans hx2))
      have hw2 := HX2.out.size
      have hbt : (k + 1) * 16 ≤ 140737488355328 := by omega
      clear hx2 j0 j1 j2 j3
      go_wp2_with (at_builtin; refine wpList_app1 rfl _ _ tRats rfl w.heap.size rat_slice _ _ _ rfl HO2.out #[.string ⟨tq.toArray⟩] 1 1 rfl rfl rfl hbt hw2 ?_)
      intro v' w3 ho3 hg3 _
      have HX3 := Lib.hid (HX2.out.grownO HO2.out hg3)
      have O3 : Hid (OwnL tRat 1 RatR w.heap.size w3 v' (l.take k ++ [q])) := OwnL.snoc (R := RatR) (w := w2) (x := q) RatR.stab (fun u hu => by cases hu) (by rw [hlk]; exact HO2.out) HC.out (by rw [RatR, HTQ.out]) (by rw [hlk]; exact ho3) hg3
      clear ho3 hg3
      go_wp2
      go_roundw
      case rel => exact ⟨k + 1, by omega, by go_num, by rw [HNX.out]; exact O3, HX3⟩
      case measure => simp [RowKit.intOf]; omega
    · obtain rfl : k = l.length := by omega
      rw [List.take_of_length_le (Nat.le_refl _)] at HO
      obtain ⟨A4, c4, xs, rfl, _, _, HR, HC⟩ := HO.out.parts
      go_wp2
      go_ret2
      exact ⟨A4, c4, rfl, HO.out.ls, HX.out⟩
set_option maxRecDepth 100000 in
set_option maxHeartbeats 4000000 in
theorem clists_any (v : Value) (l : List (List Rat)) (w : World) (h : PL w v l) (hf : ∀ p ∈ l, p.length ≤ 1000 ∧ ∀ q ∈ p, FitQ 400 q) (hn : l.length ≤ 1000) :
    Calls Tryz.prog 65 #[v] w fun e w' => ∃ A c, e = .returned (.slice A l.length c) ∧ GL w' (.slice A l.length c) l ∧ Ext w w' := by
  obtain ⟨A, c, rfl, hlc, hcm, HL⟩ := h.parts
  have HF := Lib.hid hf
  have hcm : c ≤ 9223372036854775807 := by unfold maxLen at hcm; omega
  clear hf h
  go_enter Tryz.func65, Tryz.ntmps65
  go_wp2_with fail
  go_loopw [3, 5, 8] (fun v3 _ v8 wr => ∃ k : Nat, k ≤ l.length ∧ v8 = .int .i64 k ∧ Hid (OwnL tFracs 1 GR w.heap.size wr v3 (l.take k)) ∧ Hid (Ext w wr)) (fun _ _ v8 _ => l.length - (RowKit.intOf v8).toNat)
  case atStart => exact ⟨0, Nat.zero_le _, rfl, OwnL.nil, Ext.refl w⟩
  case round =>
    obtain ⟨k, hk, rfl, HO, HX⟩ := hrel
    have HLK : Hid ((l.take k).length = k) := by rw [Hid, List.length_take, Nat.min_eq_left hk]
    by_cases hkl : k < l.length
    · obtain ⟨g1, o1, A1, c1, rfl, _, HL1, hc1⟩ := OneR.get (PL.ext HL.out HX.out) hkl
      have HNX := Lib.hid (List.take_succ_eq_append_getElem hkl)
      have LI := Lib.hid (xlist_any _ l[k] wr HL1.out (HF.out _ (List.getElem_mem hkl)).2 (HF.out _ (List.getElem_mem hkl)).1)
      obtain ⟨A4, c4, xs, rfl, _, _, HR, HC⟩ := HO.out.parts
      generalize l[k] = q at *
      go_wp2_with fail
      refine LI.out.mono ?_
      rintro e w2 ⟨v2, rfl, hv2, hx2⟩
      obtain ⟨A5, c5, rfl, _, _, HV2⟩ := hv2.parts
      have O2 := Lib.hid (HO.out.ext GR.stab hx2)
      obtain ⟨A', c', xs', e, _, _, HR2, HC2⟩ := O2.out.parts
      injection e with e1 _ e2
      subst e1 e2
      have HX2 := Lib.hid (HX.out.trans hx2)
      have hw2 := HX2.out.size
      rw [HLK.out] at HR2
      have hbt : (k + 1) * 24 ≤ 140737488355328 := by omega
      clear hx2 hc1 O2 hv2
      go_wp2_with (at_builtin; refine wpList_app1 rfl _ _ 69 rfl w.heap.size fracs_slice _ _ _ rfl HR2.out #[.slice A5 q.length c5] 1 1 rfl rfl rfl hbt hw2 ?_)
      intro v' w3 ho3 hg3 _
      have HX3 := Lib.hid (HX2.out.grownO HR2.out hg3)
      have O3 : Hid (OwnL tFracs 1 GR w.heap.size w3 v' (l.take k ++ [q])) := OwnL.snoc (R := GR) (w := w2) (x := q) GR.stab (by decide) (by rw [HLK.out]; exact HR2.out) HC2.out ⟨A5, c5, rfl, HV2.out⟩ (by rw [HLK.out]; exact ho3) hg3
      clear ho3 hg3
      go_wp2
      go_roundw
      case rel => exact ⟨k + 1, by omega, by go_num, by rw [HNX.out]; exact O3, HX3⟩
      case measure => simp [RowKit.intOf]; omega
    · obtain rfl : k = l.length := by omega
      rw [List.take_of_length_le (Nat.le_refl _)] at HO
      obtain ⟨A4, c4, xs, rfl, _, _, HR, HC⟩ := HO.out.parts
      go_wp2
      go_ret
      exact ⟨A4, c4, rfl, HO.out.ls, HX.out⟩
set_option maxRecDepth 100000 in
set_option maxHeartbeats 4000000 in
theorem ctexts_any (v : Value) (l : List (List Rat)) (w : World) (h : GL w v l) (hf : ∀ p ∈ l, p.length ≤ 1000 ∧ ∀ q ∈ p, FitQ 400 q) (hn : l.length ≤ 1000) (ht : Tab w) :
    Calls Tryz.prog 41 #[v] w fun e w' => ∃ A c, e = .returned (.tuple #[.slice A l.length c, .bool true]) ∧ PL w' (.slice A l.length c) l ∧ Ext w w' := by
  obtain ⟨A, c, rfl, hlc, hcm, HL⟩ := h.parts
  have HF := Lib.hid hf
  have HT := Lib.hid ht
  have hcm : c ≤ 9223372036854775807 := by unfold maxLen at hcm; omega
  clear hf h ht
  go_enter Tryz.func41, Tryz.ntmps41
  go_wp2_with fail
  go_loopw [4, 6, 7, 8, 11] (fun v4 _ _ _ v11 wr => ∃ k : Nat, k ≤ l.length ∧ v11 = .int .i64 k ∧ Hid (OwnL tRats 1 PR w.heap.size wr v4 (l.take k)) ∧ Hid (Ext w wr)) (fun _ _ _ _ v11 _ => l.length - (RowKit.intOf v11).toNat)
  case atStart => exact ⟨0, Nat.zero_le _, rfl, OwnL.nil, Ext.refl w⟩
  case round =>
    obtain ⟨k, hk, rfl, HO, HX⟩ := hrel
    have HLK : Hid ((l.take k).length = k) := by rw [Hid, List.length_take, Nat.min_eq_left hk]
    by_cases hkl : k < l.length
    · obtain ⟨g1, o1, A1, c1, rfl, _, HL1, hc1⟩ := OneR.get (GL.ext HL.out HX.out) hkl
      have HNX := Lib.hid (List.take_succ_eq_append_getElem hkl)
      have LI := Lib.hid (ftexts_any _ l[k] wr HL1.out (HF.out _ (List.getElem_mem hkl)).2 (HF.out _ (List.getElem_mem hkl)).1 (HT.out.ext HX.out))
      obtain ⟨A4, c4, xs, rfl, _, _, HR, HC⟩ := HO.out.parts
      generalize l[k] = q at *
      go_wp2_with fail
      refine LI.out.mono ?_
      rintro e w2 ⟨A5, c5, rfl, hv2, hx2⟩
      have HV2 := Lib.hid hv2
      have O2 := Lib.hid (HO.out.ext PR.stab hx2)
      obtain ⟨A', c', xs', e, _, _, HR2, HC2⟩ := O2.out.parts
      injection e with e1 _ e2
      subst e1 e2
      have HX2 := Lib.hid (HX.out.trans hx2)
      have hw2 := HX2.out.size
      rw [HLK.out] at HR2
      have hbt : (k + 1) * 24 ≤ 140737488355328 := by omega
      clear hx2 hc1 O2 hv2
      go_wp2_with (at_builtin; refine wpList_app1 rfl _ _ 30 rfl w.heap.size rats_slice _ _ _ rfl HR2.out #[.slice A5 q.length c5] 1 1 rfl rfl rfl hbt hw2 ?_)
      intro v' w3 ho3 hg3 _
      have HX3 := Lib.hid (HX2.out.grownO HR2.out hg3)
      have O3 : Hid (OwnL tRats 1 PR w.heap.size w3 v' (l.take k ++ [q])) := OwnL.snoc (R := PR) (w := w2) (x := q) PR.stab (by decide) (by rw [HLK.out]; exact HR2.out) HC2.out ⟨A5, c5, rfl, HV2.out⟩ (by rw [HLK.out]; exact ho3) hg3
      clear ho3 hg3
      go_wp2
      go_roundw
      case rel => exact ⟨k + 1, by omega, by go_num, by rw [HNX.out]; exact O3, HX3⟩
      case measure => simp [RowKit.intOf]; omega
    · obtain rfl : k = l.length := by omega
      rw [List.take_of_length_le (Nat.le_refl _)] at HO
      obtain ⟨A4, c4, xs, rfl, _, _, HR, HC⟩ := HO.out.parts
      go_wp2
      go_ret2
      exact ⟨A4, c4, rfl, HO.out.ls, HX.out⟩
end Go.Proofs.YtlfcicfebhjchaaGreatDoor
