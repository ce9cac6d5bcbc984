/- forest.Keep walked: a schema with some of its features alone. -/
import Derived.Test.YthalpbjkkfkheaaDoorPickW
import Derived.Test.YthalpbjkkfkheaaDoorMkSch
namespace Go.Proofs.YthalpbjkkfkheaaDoor
open Go.RowKit Go.Lib

set_option maxRecDepth 100000 in
set_option maxHeartbeats 4000000 in
theorem clone_att (A : Option Addr) (n c : Nat) (xs : List Value) (w : World) (hA : A = none → c = 0) (hs : Sl w tAtt A xs) (hl : xs.length = n * 2) (hnc : n ≤ c) (h1 : ∀ u ∈ xs, u.oneCell' = true) (hn : n ≤ 1000000) :
    Calls Tryd.prog 26 #[.slice A n c] w fun e w' => ∃ v', e = .returned v' ∧ w'.ownsRow w.heap.size tAtt 2 v' n xs ∧ Ext w w' := by
  have HS := Lib.hid hs
  have H1 := Lib.hid h1
  have HL := Lib.hid hl
  clear hs h1 hl
  rcases A with _ | ad
  · have hc := hA rfl
    subst hc
    obtain rfl : n = 0 := by omega
    have hx : xs = [] := List.eq_nil_of_length_eq_zero (by rw [HL.out])
    subst hx
    clear hA
    have hq := fun w => Lib.run_eql_slice_nil w 27 tAtt none 0 0 0 0 att_slice.ht
    go_enter Tryd.func26, Tryd.ntmps26
    go_wp2
    go_ret
    exact ⟨_, rfl, World.ownsRow_nil _ _ _ _, Ext.refl w⟩
  · have HO := Lib.hid (own_empty w tAtt 2)
    have HSL := Lib.hid (HS.out.ext ((Ext.refl w).alloc (.cells #[] tAtt)))
    have hbt : (0 + n) * 24 ≤ 140737488355328 := by omega
    clear hA
    have hq := fun w => Lib.run_eql_slice_nil w 27 tAtt (some ad) n c 0 0 att_slice.ht
    go_enter Tryd.func26, Tryd.ntmps26
    go_wp2_with (at_builtin; refine wpList_app rfl _ _ 27 rfl w.heap.size att_slice _ _ _ rfl HO.out (some ad) n c xs rfl (fun h => by cases h) HL.out HSL.out H1.out hbt (by simp) ?_)
    intro v' w' ho hg _
    have HX : Hid (Ext w w') := grown_below ((Ext.refl w).alloc _) HO.out hg (Nat.le_refl _)
    have HO' : Hid (w'.ownsRow w.heap.size tAtt 2 v' n xs) := by
      rw [Hid]
      simpa using ho
    clear ho hg
    go_wp2
    go_ret
    exact ⟨_, rfl, HO'.out, HX.out⟩
set_option maxRecDepth 100000 in
set_option maxHeartbeats 4000000 in
theorem clone_ints (A : Option Addr) (n c : Nat) (xs : List Value) (w : World) (hA : A = none → c = 0) (hs : Sl w tInt A xs) (hl : xs.length = n * 1) (hnc : n ≤ c) (h1 : ∀ u ∈ xs, u.oneCell' = true) (hn : n ≤ 1000000) :
    Calls Tryd.prog 27 #[.slice A n c] w fun e w' => ∃ v', e = .returned v' ∧ w'.ownsRow w.heap.size tInt 1 v' n xs ∧ Ext w w' := by
  have HS := Lib.hid hs
  have H1 := Lib.hid h1
  have HL := Lib.hid hl
  clear hs h1 hl
  rcases A with _ | ad
  · have hc := hA rfl
    subst hc
    obtain rfl : n = 0 := by omega
    have hx : xs = [] := List.eq_nil_of_length_eq_zero (by rw [HL.out])
    subst hx
    clear hA
    have hq := fun w => Lib.run_eql_slice_nil w 22 tInt none 0 0 0 0 int_slice.ht
    go_enter Tryd.func27, Tryd.ntmps27
    go_wp2
    go_ret
    exact ⟨_, rfl, World.ownsRow_nil _ _ _ _, Ext.refl w⟩
  · have HO := Lib.hid (own_empty w tInt 1)
    have HSL := Lib.hid (HS.out.ext ((Ext.refl w).alloc (.cells #[] tInt)))
    have hbt : (0 + n) * 8 ≤ 140737488355328 := by omega
    clear hA
    have hq := fun w => Lib.run_eql_slice_nil w 22 tInt (some ad) n c 0 0 int_slice.ht
    go_enter Tryd.func27, Tryd.ntmps27
    go_wp2_with (at_builtin; refine wpList_app rfl _ _ 22 rfl w.heap.size int_slice _ _ _ rfl HO.out (some ad) n c xs rfl (fun h => by cases h) HL.out HSL.out H1.out hbt (by simp) ?_)
    intro v' w' ho hg _
    have HX : Hid (Ext w w') := grown_below ((Ext.refl w).alloc _) HO.out hg (Nat.le_refl _)
    have HO' : Hid (w'.ownsRow w.heap.size tInt 1 v' n xs) := by
      rw [Hid]
      simpa using ho
    clear ho hg
    go_wp2
    go_ret
    exact ⟨_, rfl, HO'.out, HX.out⟩
theorem ls_cells {α : Type} {t : TypeId} {R : World → List Value → α → Prop} {w : World} {A : Option Addr} {n c : Nat} {l : List α} (h : Ls t R w (.slice A n c) l) :
    n = l.length ∧ n ≤ c ∧ (A = none → c = 0) ∧ ∃ xs, Sl w t A xs ∧ Ch (R w) xs l := by
  obtain ⟨A', c', xs, e, h2, h3, h4, h5, h6⟩ := h
  injection e with e1 e2 e3
  subst e1 e2 e3
  exact ⟨rfl, h2, h4, xs, h5, h6⟩
theorem own_ls {α : Type} {t : TypeId} {k : Nat} {R : World → List Value → α → Prop} {w : World} {base n : Nat} {v : Value} {xs : List Value} {l : List α} (h : w.ownsRow base t k v n xs) (hn : n = l.length) (hc : Ch (R w) xs l) : ∃ A c, v = .slice A n c ∧ Ls t R w (.slice A n c) l := by
  subst hn
  obtain ⟨A, c, rfl, _, _, _⟩ := own_parts h
  exact ⟨A, c, rfl, OwnL.ls (base := base) (k := k) ⟨xs, h, hc⟩⟩
theorem cloneA_any (A : Option Addr) (n c : Nat) (l : List Att) (w : World) (h : AL w (.slice A n c) l) (hl : l.length ≤ 1000) :
    Calls Tryd.prog 26 #[.slice A n c] w fun e w' => ∃ A' c', e = .returned (.slice A' n c') ∧ AL w' (.slice A' n c') l ∧ Ext w w' := by
  obtain ⟨rfl, hc, hA, xs, hs, hch⟩ := ls_cells h
  have hx := Ch.length (AttR.two w) hch
  refine (clone_att A _ c xs w hA hs hx hc (Ch.all (fun c x hc u hu => by
    rw [show c = _ from hc] at hu
    simp only [List.mem_cons, List.not_mem_nil, or_false] at hu
    rcases hu with rfl | rfl <;> rfl) hch) (by omega)).mono ?_
  rintro e w' ⟨v', rfl, ho, hx⟩
  obtain ⟨A', c', rfl, h2⟩ := own_ls (R := AttR) ho rfl hch
  exact ⟨A', c', rfl, h2, hx⟩
theorem cloneI_any (A : Option Addr) (n c : Nat) (l : List Int) (w : World) (h : IL w (.slice A n c) l) (hl : l.length ≤ 1000) :
    Calls Tryd.prog 27 #[.slice A n c] w fun e w' => ∃ A' c', e = .returned (.slice A' n c') ∧ IL w' (.slice A' n c') l ∧ Ext w w' := by
  obtain ⟨rfl, hc, hA, xs, hs, hch⟩ := ls_cells h
  have hx := Ch.length (k := 1) (fun c x h => by rw [show c = _ from h]; rfl) hch
  refine (clone_ints A _ c xs w hA hs hx hc (Ch.all (fun c x hc u hu => by
    rw [show c = _ from hc] at hu
    simp only [List.mem_cons, List.not_mem_nil, or_false] at hu
    rw [hu]; rfl) hch) (by omega)).mono ?_
  rintro e w' ⟨v', rfl, ho, hx⟩
  obtain ⟨A', c', rfl, h2⟩ := own_ls (R := IntR) ho rfl hch
  exact ⟨A', c', rfl, h2, hx⟩
theorem AL.ext {w w' : World} {v : Value} {l : List Att} (h : AL w v l) (hx : Ext w w') : AL w' v l := Ls.ext AttR.stab h hx
/-- the schema that is being made: its block bo, the old schema's block b, the result's block b + 1 -/
structure KB (a : World) (b bo base : Nat) (ss z cs : List Value) (va vr vf : Value) (atts : List Att) (rels : List Rl) (feats : List Fe) (w : World) : Prop where
  blk : Blk w bo tSch cs
  old : Blk w b tSch ss
  res : Blk w (b + 1) tSch z
  al : AL w va atts
  ol : OwnL tRel 2 RlR base w vr rels
  of : OwnL tFea 3 FeR base w vf feats
  ext : Ext a w
  sz : base ≤ w.heap.size
structure Kn (a : World) (b bo base : Nat) : Prop where
  b0 : a.heap.size ≤ b
  bb : b + 1 < bo
  bs : bo < base
section
variable {a w w' : World} {b bo base n : Nat} {ss z cs xs : List Value} {va vr vf vr' vf' : Value} {atts : List Att} {rels : List Rl} {feats : List Fe}
theorem KB.ext' (h : KB a b bo base ss z cs va vr vf atts rels feats w) (hx : Ext w w') : KB a b bo base ss z cs va vr vf atts rels feats w' :=
  ⟨h.blk.ext hx, h.old.ext hx, h.res.ext hx, h.al.ext hx, h.ol.ext RlR.stab hx, h.of.ext FeR.stab hx, h.ext.trans hx, Nat.le_trans h.sz hx.size⟩
theorem KB.put (q : Kn a b bo base) (h : KB a b bo base ss z cs va vr vf atts rels feats w) (i : Nat) (x : Value) : ∃ W, w.setCell ⟨bo, i, none⟩ x = W ∧ Hid (KB a b bo base ss z (cs.set i x) va vr vf atts rels feats W) := by
  have q1 := q.b0
  have q2 := q.bb
  have q3 := q.bs
  obtain ⟨W, hW, hB, hK, hO⟩ := put1 (i := i) h.blk x
  exact ⟨W, hW, ⟨hB.out, h.old.only hO.out (by omega), h.res.only hO.out (by omega), h.al.kept AttR.stab hK.out ⟨by decide, fun u hu => by cases hu⟩, h.ol.only RlR.stab hO.out (by omega) (fun u hu => by rw [List.mem_singleton.1 hu]; exact hK.out _ (by decide)), h.of.only FeR.stab hO.out (by omega) (fun u hu => by cases hu), h.ext.only hO.out (by omega), Nat.le_trans h.sz hO.out.size⟩⟩
theorem KB.appR (q : Kn a b bo base) (h : KB a b bo base ss z cs va vr vf atts rels feats w) {x : Rl} {A : Option Addr} {m d : Nat} (hn : rels.length = n) (hown : w.ownsRow base tRel 2 vr n xs) (hc : Ch (RlR w) xs rels) (hx : IL w (.slice A m d) x.2) (ho : w'.ownsRow base tRel 2 vr' (n + 1) (xs ++ [.string ⟨x.1.toArray⟩, .slice A m d])) (hg : w.grownBy w' vr.ownBlock) :
    KB a b bo base ss z cs va vr' vf atts (rels ++ [x]) feats w' := by
  have q1 := q.b0
  have q2 := q.bb
  have q3 := q.bs
  subst hn
  refine ⟨blkG h.blk hown hg q3, blkG h.old hown hg (by omega), blkG h.res hown hg (by omega), h.al.keep AttR.stab (fun u hu => by rw [List.mem_singleton.1 hu]; exact Kept.grown hown hg (by decide)), OwnL.snoc (R := RlR) RlR.stab (fun u hu => by rw [List.mem_singleton.1 hu]; decide) hown hc ⟨A, m, d, rfl, hx⟩ ho hg, ?_, Below.grown h.ext hg h.ext.size (fun k hk => by have := (hown.lt k hk).1; omega), Nat.le_trans h.sz hg.size⟩
  obtain ⟨ys, h1, h2⟩ := h.of
  exact ⟨ys, own_grown h1 hg (own_apartT hown h1 (by decide)), h2⟩
theorem KB.appF (q : Kn a b bo base) (h : KB a b bo base ss z cs va vr vf atts rels feats w) {x : Fe} (hn : feats.length = n) (hown : w.ownsRow base tFea 3 vf n xs) (hc : Ch (FeR w) xs feats) (ho : w'.ownsRow base tFea 3 vf' (n + 1) (xs ++ [.int .i64 x.1, .int .i64 x.2.1, .int .i64 x.2.2])) (hg : w.grownBy w' vf.ownBlock) :
    KB a b bo base ss z cs va vr vf' atts rels (feats ++ [x]) w' := by
  have q1 := q.b0
  have q2 := q.bb
  have q3 := q.bs
  subst hn
  refine ⟨blkG h.blk hown hg q3, blkG h.old hown hg (by omega), blkG h.res hown hg (by omega), h.al.keep AttR.stab (fun u hu => by rw [List.mem_singleton.1 hu]; exact Kept.grown hown hg (by decide)), ?_, OwnL.snoc (R := FeR) FeR.stab (fun u hu => by cases hu) hown hc rfl ho hg, Below.grown h.ext hg h.ext.size (fun k hk => by have := (hown.lt k hk).1; omega), Nat.le_trans h.sz hg.size⟩
  obtain ⟨ys, h1, h2⟩ := h.ol
  exact ⟨ys, own_grown h1 hg (own_apartT hown h1 (by decide)), h2.mono fun c x hc => RlR.stab _ _ _ _ (fun u hu => by rw [List.mem_singleton.1 hu]; exact Kept.grown hown hg (by decide)) hc⟩
end
theorem asc_len {n : Int} : ∀ {l : List Int} {k : Int}, l.Pairwise (· < ·) → (∀ a ∈ l, k ≤ a ∧ a < n) → l = [] ∨ (l.length : Int) + k ≤ n
  | [], _, _, _ => .inl rfl
  | x :: l, k, hp, h => by
    have h0 := h x (by simp)
    have hp' := List.pairwise_cons.1 hp
    right
    rcases asc_len (k := x + 1) hp'.2 (fun a ha => ⟨by have := hp'.1 a ha; omega, (h a (by simp [ha])).2⟩) with h1 | h1
    · subst h1
      simp only [List.length_cons, List.length_nil]
      omega
    · simp only [List.length_cons]
      omega
/-- the features of these numbers -/
def fsF (fs : List Fe) (l : List Int) : List Fe := l.filterMap fun f => if 0 ≤ f then fs[f.toNat]? else none
theorem fsF_snoc {fs : List Fe} {l : List Int} {i q : Nat} (h : l[i]? = some (q : Int)) (hq : q < fs.length) : fsF fs (l.take (i + 1)) = fsF fs (l.take i) ++ [fs[q]] := by
  unfold fsF
  rw [List.take_add_one, h, List.filterMap_append]
  simp [hq]
theorem fsF_length {fs : List Fe} : ∀ {l : List Int}, (∀ f ∈ l, 0 ≤ f ∧ f < fs.length) → (fsF fs l).length = l.length
  | [], _ => rfl
  | f :: l, h => by
    have h1 := h f (by simp)
    have h2 := fsF_length (l := l) fun y hy => h y (by simp [hy])
    have h3 : f.toNat < fs.length := by omega
    unfold fsF at h2 ⊢
    rw [List.filterMap_cons_some (b := fs[f.toNat]) (by simp [h1.1, h3]), List.length_cons, h2, List.length_cons]
/-- the schema with the features of these numbers -/
def keepF (x : Sch) (l : List Int) : Sch := { x with feats := fsF x.feats l }
set_option maxRecDepth 100000 in
set_option maxHeartbeats 4000000 in
theorem keep_any (v : Value) (x : Sch) (A0 : Option Addr) (n0 c0 : Nat) (l : List Int) (w : World) (h : SchV w v x) (ok : SchOk x) (hl : IL w (.slice A0 n0 c0) l) (hln : l.length ≤ 1000) (hlr : ∀ f ∈ l, 0 ≤ f ∧ f < x.feats.length) :
    Calls Tryd.prog 11 #[v, .slice A0 n0 c0] w fun e w' => ∃ u, e = .returned u ∧ SchV w' u (keepF x l) ∧ Ext w w' := by
  obtain ⟨A, c, B, d, D, e, rfl, ha, hr, hf⟩ := h
  obtain ⟨-, hd1, hd2⟩ := cap_le hr
  obtain ⟨-, he1, he2⟩ := cap_le hf
  obtain ⟨hn0, hl1, hl2⟩ := cap_le hl
  subst hn0
  have HA := Lib.hid ha
  have HR := Lib.hid hr
  have HF := Lib.hid hf
  have HL := Lib.hid hl
  have HLR := Lib.hid hlr
  have a12 := ok.a12
  have r6 := ok.r6
  have f8 := ok.f8
  have CA := Lib.hid (fun w' (h : AL w' (.slice A x.atts.length c) x.atts) => cloneA_any A _ c x.atts w' h (by omega))
  have HRI : Hid (∀ r ∈ x.rels, r.2.length ≤ 1000) := fun r hr => by
    have h1 := asc_len (k := 0) (n := x.atts.length) (ok.ra r hr) (ok.ri r hr)
    rcases h1 with h1 | h1
    · rw [h1]; simp
    · omega
  obtain ⟨R, hx⟩ : ∃ R, keepF x l = R := ⟨_, rfl⟩
  have HK := Lib.hid hx
  rw [hx]
  clear ha hr hf hl hlr ok hx
  go_enter Tryd.func11, Tryd.ntmps11
  go_upto_region 1 with fail
  refine box2 (P := fun W => Code.wp _ _ _ _ W) fun W HX BA BR => ?_
  go_cut [5] from 10 to 15 (fun s5 wx => ∃ bo A1 c1, s5 = .pointer (some ⟨bo, 0, none⟩) ∧ w.heap.size + 1 < bo ∧ bo < wx.heap.size ∧ Hid (KB w w.heap.size bo wx.heap.size [.slice A x.atts.length c, .slice B x.rels.length d, .slice D x.feats.length e, .int .i64 x.label] zsch [.slice A1 x.atts.length c1, .slice none 0 0, .slice none 0 0, .int .i64 x.label] (.slice A1 x.atts.length c1) (.slice none 0 0) (.slice none 0 0) x.atts [] [] wx))
  case first =>
    have HSI : Hid (∀ w', Ext W w' → w'.cell? ⟨w.heap.size, 0, none⟩ = some (.slice A x.atts.length c) ∧ w'.cell? ⟨w.heap.size, 1, none⟩ = some (.slice B x.rels.length d) ∧ w'.cell? ⟨w.heap.size, 2, none⟩ = some (.slice D x.feats.length e) ∧ w'.cell? ⟨w.heap.size, 3, none⟩ = some (.int .i64 x.label)) := fun w' hx => (BA.out.ext hx).four
    have HS0 : Hid (Ext W W.drew) := (Ext.refl W).drew
    have HXc := HS0
    have hbW : w.heap.size + 1 < W.heap.size := BR.out.lt
    refine AnyT.start (S := fun w' => Ext W w') (T := fun j => decide (7 ≤ j)) (by kernel_rfl) ?_
    generalize W.drew = wd at *
    refine AnyT.ld 0 10 ?_ _ rfl rfl (by kernel_rfl) (fun _ _ _ h => h) HS0.out rfl ?_ ?_
    rotate_left
    focus (intro w' hSw; have hs := HSI.out w' hSw; go_split_ands; go_simp; try (first | exact rfl | omega | go_num | (intro hbd; exfalso; omega)))
    simp only [Act.put, List.setIfInBounds_toArray, List.set_cons_zero, List.set_cons_succ]
    refine AnyT.ld 1 11 ?_ _ rfl rfl (by kernel_rfl) (fun _ _ _ h => h) HS0.out rfl ?_ ?_
    rotate_left
    focus (intro w' hSw; have hs := HSI.out w' hSw; go_split_ands; go_simp; try (first | exact rfl | omega | go_num | (intro hbd; exfalso; omega)))
    simp only [Act.put, List.setIfInBounds_toArray, List.set_cons_zero, List.set_cons_succ]
    refine AnyT.ld 3 13 ?_ _ rfl rfl (by kernel_rfl) (fun _ _ _ h => h) HS0.out rfl ?_ ?_
    rotate_left
    focus (intro w' hSw; have hs := HSI.out w' hSw; go_split_ands; go_simp; try (first | exact rfl | omega | go_num | (intro hbd; exfalso; omega)))
    simp only [Act.put, List.setIfInBounds_toArray, List.set_cons_zero, List.set_cons_succ]
    refine AnyT.ld 4 14 ?_ _ rfl rfl (by kernel_rfl) (fun _ _ _ h => h) HS0.out rfl ?_ ?_
    rotate_left
    focus (intro w' hSw; have hs := HSI.out w' hSw; go_split_ands; go_simp; try (first | exact rfl | omega | go_num | (intro hbd; exfalso; omega)))
    simp only [Act.put, List.setIfInBounds_toArray, List.set_cons_zero, List.set_cons_succ]
    refine AnyT.two 2 6 (by kernel_rfl) ?_ ?_
    · skip
      intro o ho K hK
      simp only [List.getElem?_toArray, List.getElem?_cons_succ, List.getElem?_cons_zero, Option.some.injEq] at ho
      subst ho
      go_simp
      refine (CA.out _ (Ls.ext AttR.stab HA.out (HX.out.trans HXc.out))).mono ?_
      rintro e1 wx ⟨A1, c1, rfl, hca, hx⟩
      have CB := Lib.hid hca
      have HXc := Lib.hid (HXc.out.trans hx)
      clear hx hca
      refine hK.out _ _ (fun _ => HXc.out) ?_
      have HS0 := HXc
      refine AnyT.ld 5 15 ?_ _ rfl rfl (by kernel_rfl) (fun _ _ _ h => h) HS0.out rfl ?_ ?_
      rotate_left
      focus (intro w' hSw; have hs := HSI.out w' hSw; go_split_ands; go_simp; try (first | exact rfl | omega | go_num | (intro hbd; exfalso; omega)))
      simp only [Act.put, List.setIfInBounds_toArray, List.set_cons_zero, List.set_cons_succ]
      refine AnyT.step 6 (by kernel_rfl) ?_
      intro o ho K hK
      simp only [List.getElem?_toArray, List.getElem?_cons_succ, List.getElem?_cons_zero, Option.some.injEq] at ho
      subst ho
      go_simp
      refine hK.out _ _ (fun _ => HXc.out.alloc _) ?_
      refine box1 (P := fun W => AnyT _ _ _ _ _ _ _ _ _ W) fun WZ HXZ BO => ?_
      have CB := Lib.hid (CB.out.ext (HXZ.out))
      have hbo := HXc.out.size
      have HXc := Lib.hid (HXc.out.trans HXZ.out)
      clear HXZ
      have BA1 := Lib.hid (BA.out.ext HXc.out)
      have BR1 := Lib.hid (BR.out.ext HXc.out)
      have HX1 := Lib.hid (HX.out.trans HXc.out)
      clear HSI HS0 HXc BA BR HX
      generalize x.atts.length = N at *
      obtain ⟨k0, k1, k2, k3⟩ := BO.out.four
      obtain ⟨f0, f1, f2, f3⟩ := BO.out.free4
      obtain ⟨W', hW', B7, K7, N7⟩ := put4 BO.out (.slice A1 N c1) (.slice none 0 0) (.slice none 0 0) (.int .i64 x.label)
      have HW := Lib.hid hW'
      clear hW'
      have HO2 := BO.out.lt
      have KBf : Hid (KB w w.heap.size _ W'.heap.size [.slice A N c, .slice B x.rels.length d, .slice D x.feats.length e, .int .i64 x.label] zsch [.slice A1 N c1, .slice none 0 0, .slice none 0 0, .int .i64 x.label] (.slice A1 N c1) (.slice none 0 0) (.slice none 0 0) x.atts [] [] W') :=
        ⟨B7.out, BA1.out.only N7.out (by omega), BR1.out.only N7.out (by omega), Ls.kept AttR.stab CB.out K7.out ⟨by decide, fun u hu => by cases hu⟩, OwnL.nil, OwnL.nil, HX1.out.only N7.out (by omega), Nat.le_refl _⟩
      have hbo2 := Nat.lt_of_lt_of_le HO2 N7.out.size
      clear BA1 BR1 HX1 B7 K7 N7 CB
      refine AnyT.step 7 (by kernel_rfl) ?_
      intro o ho K hK
      simp only [List.getElem?_toArray, List.getElem?_cons_succ, List.getElem?_cons_zero, Option.some.injEq] at ho
      subst ho
      go_simp
      refine hK.out _ _ (fun h => by cases h) ?_
      rw [HW.out]
      refine AnyT.done (by kernel_rfl) ?_
      clear k0 k1 k2 k3 f0 f1 f2 f3
      go_wp2_with fail
      go_meet
      case rel => exact ⟨_, A1, c1, rfl, by omega, hbo2, KBf⟩
    · skip
      intro o ho K hK
      simp only [List.getElem?_toArray, List.getElem?_cons_succ, List.getElem?_cons_zero, Option.some.injEq] at ho
      subst ho
      go_simp
      refine hK.out _ _ (fun _ => HXc.out.alloc _) ?_
      refine box1 (P := fun W => AnyT _ _ _ _ _ _ _ _ _ W) fun WZ HXZ BO => ?_
      have hbo := HXc.out.size
      have HXc := Lib.hid (HXc.out.trans HXZ.out)
      clear HXZ
      refine AnyT.step 2 (by kernel_rfl) ?_
      intro o ho K hK
      simp only [List.getElem?_toArray, List.getElem?_cons_succ, List.getElem?_cons_zero, Option.some.injEq] at ho
      subst ho
      go_simp
      refine (CA.out _ (Ls.ext AttR.stab HA.out (HX.out.trans HXc.out))).mono ?_
      rintro e1 wx ⟨A1, c1, rfl, hca, hx⟩
      have BO := Lib.hid (BO.out.ext (hx))
      have CB := Lib.hid hca
      have HXc := Lib.hid (HXc.out.trans hx)
      clear hx hca
      refine hK.out _ _ (fun _ => HXc.out) ?_
      have HS0 := HXc
      refine AnyT.ld 5 15 ?_ _ rfl rfl (by kernel_rfl) (fun _ _ _ h => h) HS0.out rfl ?_ ?_
      rotate_left
      focus (intro w' hSw; have hs := HSI.out w' hSw; go_split_ands; go_simp; try (first | exact rfl | omega | go_num | (intro hbd; exfalso; omega)))
      simp only [Act.put, List.setIfInBounds_toArray, List.set_cons_zero, List.set_cons_succ]
      have BA1 := Lib.hid (BA.out.ext HXc.out)
      have BR1 := Lib.hid (BR.out.ext HXc.out)
      have HX1 := Lib.hid (HX.out.trans HXc.out)
      clear HSI HS0 HXc BA BR HX
      generalize x.atts.length = N at *
      obtain ⟨k0, k1, k2, k3⟩ := BO.out.four
      obtain ⟨f0, f1, f2, f3⟩ := BO.out.free4
      obtain ⟨W', hW', B7, K7, N7⟩ := put4 BO.out (.slice A1 N c1) (.slice none 0 0) (.slice none 0 0) (.int .i64 x.label)
      have HW := Lib.hid hW'
      clear hW'
      have HO2 := BO.out.lt
      have KBf : Hid (KB w w.heap.size _ W'.heap.size [.slice A N c, .slice B x.rels.length d, .slice D x.feats.length e, .int .i64 x.label] zsch [.slice A1 N c1, .slice none 0 0, .slice none 0 0, .int .i64 x.label] (.slice A1 N c1) (.slice none 0 0) (.slice none 0 0) x.atts [] [] W') :=
        ⟨B7.out, BA1.out.only N7.out (by omega), BR1.out.only N7.out (by omega), Ls.kept AttR.stab CB.out K7.out ⟨by decide, fun u hu => by cases hu⟩, OwnL.nil, OwnL.nil, HX1.out.only N7.out (by omega), Nat.le_refl _⟩
      have hbo2 := Nat.lt_of_lt_of_le HO2 N7.out.size
      clear BA1 BR1 HX1 B7 K7 N7 CB
      refine AnyT.step 7 (by kernel_rfl) ?_
      intro o ho K hK
      simp only [List.getElem?_toArray, List.getElem?_cons_succ, List.getElem?_cons_zero, Option.some.injEq] at ho
      subst ho
      go_simp
      refine hK.out _ _ (fun h => by cases h) ?_
      rw [HW.out]
      refine AnyT.done (by kernel_rfl) ?_
      clear k0 k1 k2 k3 f0 f1 f2 f3
      go_wp2_with fail
      go_meet
      case rel => exact ⟨_, A1, c1, rfl, by omega, hbo2, KBf⟩
  case rest =>
    obtain ⟨bo, A1, c1, rfl, hb1, hb2, HKB⟩ := hcut
    clear HX BA BR CA
    have HQ : Hid (Kn w w.heap.size bo wc.heap.size) := ⟨Nat.le_refl _, hb1, hb2⟩
    have HRL := Lib.hid HR.out
    obtain ⟨RN, hRN⟩ : ∃ RN, x.rels.length = RN := ⟨_, rfl⟩
    have HRN := Lib.hid hRN
    rw [hRN] at hd1 HR HKB r6
    clear hRN HRL
    obtain ⟨s0, s1, s2, s3⟩ := HKB.out.old.four
    have HNL : Hid (x.rels.take 0 = []) := rfl
    go_upto_region 3 with fail
    clear s0 s1 s2 s3
    go_loopw [7, 19] (fun _ v19 wr => ∃ (i : Nat) (vr : Value), i ≤ RN ∧ v19 = .int .i64 i ∧ Hid (KB w w.heap.size bo wc.heap.size [.slice A x.atts.length c, .slice B RN d, .slice D x.feats.length e, .int .i64 x.label] zsch [.slice A1 x.atts.length c1, vr, .slice none 0 0, .int .i64 x.label] (.slice A1 x.atts.length c1) vr (.slice none 0 0) x.atts (x.rels.take i) [] wr)) (fun _ v19 _ => RN - (RowKit.intOf v19).toNat)
    case atStart => exact ⟨0, _, Nat.zero_le _, rfl, HKB⟩
    case round =>
      clear HKB
      obtain ⟨i, vr, hi, rfl, HK1⟩ := hrel
      by_cases hiR : i < RN
      · have hil : i < x.rels.length := by rw [HRN.out]; exact hiR
        obtain ⟨g, o, Bi, mi, di, hBe, _, hp1, hp2, hIL⟩ := RlL.get (Ls.ext RlR.stab HR.out HK1.out.ext) hil
        subst hBe
        have hm : mi = x.rels[i].2.length := (cap_le hIL).1
        have hrl := HRI.out _ (List.getElem_mem hil)
        have CI := Lib.hid (fun w' (h : IL w' (.slice Bi mi di) x.rels[i].2) => cloneI_any Bi mi di _ w' h hrl)
        have HIL := Lib.hid hIL
        have HTK : Hid (x.rels.take (i + 1) = x.rels.take i ++ [x.rels[i]]) := List.take_succ_eq_append_getElem hil
        have HTL : Hid ((x.rels.take i).length = i) := by rw [Hid, List.length_take, HRN.out]; omega
        clear hm hrl hIL
        generalize x.rels[i] = r at *
        obtain ⟨rn, ra⟩ := r
        simp only at hp1 CI HIL
        go_upto_region 5 with fail
        refine box1 (P := fun W => Code.wp _ _ _ _ W) fun W2 HX2 BR => ?_
        have HK2 := Lib.hid (HK1.out.ext' HX2.out)
        have HI2 := Lib.hid (Ls.ext IntR.stab HIL.out HX2.out)
        clear hp1 hp2 HK1 HIL
        obtain ⟨S, hSd⟩ : ∃ S : World → Prop, S = fun w' => w'.cell? ⟨bo, 1, none⟩ = some vr ∧ w'.cell? ⟨wr.heap.size, 0, none⟩ = some (.string ⟨rn.toArray⟩) ∧ w'.cell? ⟨wr.heap.size, 1, none⟩ = some (.slice Bi mi di) := ⟨_, rfl⟩
        have HSI : Hid (∀ w', S w' → w'.cell? ⟨bo, 1, none⟩ = some vr ∧ w'.cell? ⟨wr.heap.size, 0, none⟩ = some (.string ⟨rn.toArray⟩) ∧ w'.cell? ⟨wr.heap.size, 1, none⟩ = some (.slice Bi mi di)) := by rw [Hid, hSd]; exact fun _ h => h
        have HSE : Hid (∀ w' y l, Blk w' bo tSch (y :: vr :: l) → Blk w' wr.heap.size tRel [.string ⟨rn.toArray⟩, .slice Bi mi di] → S w') := by rw [Hid, hSd]; exact fun w' y l h h2 => ⟨h.cell (i := 1) rfl, h2.cell (i := 0) rfl, h2.cell (i := 1) rfl⟩
        clear hSd
        have HK3 := Lib.hid (HK2.out.ext' (Ext.refl W2).drew)
        have HI3 := Lib.hid (Ls.ext IntR.stab HI2.out (Ext.refl W2).drew)
        have BR3 := Lib.hid (BR.out.ext (Ext.refl W2).drew)
        have HS0 : Hid (S W2.drew) := HSE.out _ _ _ HK3.out.blk BR3.out
        refine AnyT.start (S := S) (T := fun j => decide (9 ≤ j)) (by kernel_rfl) ?_
        clear HK2 HI2 BR HX2
        generalize W2.drew = wd at *
        refine AnyT.ld 0 23 ?_ _ rfl rfl (by kernel_rfl) (fun _ _ _ h => h) HS0.out rfl ?_ ?_
        rotate_left
        focus (intro w' hSw; have hs := HSI.out w' hSw; go_split_ands; go_simp; try (first | exact rfl | omega | go_num | (intro hbd; exfalso; omega)))
        simp only [Act.put, List.setIfInBounds_toArray, List.set_cons_zero, List.set_cons_succ]
        refine AnyT.ld 1 24 ?_ _ rfl rfl (by kernel_rfl) (fun _ _ _ h => h) HS0.out rfl ?_ ?_
        rotate_left
        focus (intro w' hSw; have hs := HSI.out w' hSw; go_split_ands; go_simp; try (first | exact rfl | omega | go_num | (intro hbd; exfalso; omega)))
        simp only [Act.put, List.setIfInBounds_toArray, List.set_cons_zero, List.set_cons_succ]
        refine AnyT.ld 2 25 ?_ _ rfl rfl (by kernel_rfl) (fun _ _ _ h => h) HS0.out rfl ?_ ?_
        rotate_left
        focus (intro w' hSw; have hs := HSI.out w' hSw; go_split_ands; go_simp; try (first | exact rfl | omega | go_num | (intro hbd; exfalso; omega)))
        simp only [Act.put, List.setIfInBounds_toArray, List.set_cons_zero, List.set_cons_succ]
        refine AnyT.ld 3 26 ?_ _ rfl rfl (by kernel_rfl) (fun _ _ _ h => h) HS0.out rfl ?_ ?_
        rotate_left
        focus (intro w' hSw; have hs := HSI.out w' hSw; go_split_ands; go_simp; try (first | exact rfl | omega | go_num | (intro hbd; exfalso; omega)))
        simp only [Act.put, List.setIfInBounds_toArray, List.set_cons_zero, List.set_cons_succ]
        refine AnyT.ld 4 27 ?_ _ rfl rfl (by kernel_rfl) (fun _ _ _ h => h) HS0.out rfl ?_ ?_
        rotate_left
        focus (intro w' hSw; have hs := HSI.out w' hSw; go_split_ands; go_simp; try (first | exact rfl | omega | go_num | (intro hbd; exfalso; omega)))
        simp only [Act.put, List.setIfInBounds_toArray, List.set_cons_zero, List.set_cons_succ]
        refine AnyT.ld 5 28 ?_ _ rfl rfl (by kernel_rfl) (fun _ _ _ h => h) HS0.out rfl ?_ ?_
        rotate_left
        focus (intro w' hSw; have hs := HSI.out w' hSw; go_split_ands; go_simp; try (first | exact rfl | omega | go_num | (intro hbd; exfalso; omega)))
        simp only [Act.put, List.setIfInBounds_toArray, List.set_cons_zero, List.set_cons_succ]
        refine AnyT.step 6 (by kernel_rfl) ?_
        intro o ho K hK
        simp only [List.getElem?_toArray, List.getElem?_cons_succ, List.getElem?_cons_zero, Option.some.injEq] at ho
        subst ho
        go_simp
        refine (CI.out _ HI3.out).mono ?_
        rintro e' wx ⟨Ai, ci, rfl, hci, hx⟩
        have HK4 := Lib.hid (HK3.out.ext' hx)
        have BR4 := Lib.hid (BR3.out.ext hx)
        have HI4 := Lib.hid hci
        clear HK3 BR3 HI3 hx hci CI HS0
        have HS0 := Lib.hid (HSE.out _ _ _ HK4.out.blk BR4.out)
        refine hK.out _ _ (fun _ => HS0.out) ?_
        refine AnyT.ld 7 30 ?_ _ rfl rfl (by kernel_rfl) (fun _ _ _ h => h) HS0.out rfl ?_ ?_
        rotate_left
        focus (intro w' hSw; have hs := HSI.out w' hSw; go_split_ands; go_simp; try (first | exact rfl | omega | go_num | (intro hbd; exfalso; omega)))
        simp only [Act.put, List.setIfInBounds_toArray, List.set_cons_zero, List.set_cons_succ]
        refine AnyT.step 8 (by kernel_rfl) ?_
        intro o ho K hK
        simp only [List.getElem?_toArray, List.getElem?_cons_succ, List.getElem?_cons_zero, Option.some.injEq] at ho
        subst ho
        go_simp
        refine hK.out _ _ (fun _ => HSE.out _ _ _ (HK4.out.blk.ext ((Ext.refl _).alloc _)) (BR4.out.ext ((Ext.refl _).alloc _))) ?_
        refine box1 (P := fun W => AnyT _ _ _ _ _ _ _ _ _ W) fun WZ HXZ BX => ?_
        have HK5 := Lib.hid (HK4.out.ext' HXZ.out)
        have BR5 := Lib.hid (BR4.out.ext HXZ.out)
        have HI5 := Lib.hid (Ls.ext IntR.stab HI4.out HXZ.out)
        clear HXZ hK HK4 BR4 HI4 HS0
        refine AnyT.step 9 (by kernel_rfl) ?_
        intro o' ho K hK
        simp only [List.getElem?_toArray, List.getElem?_cons_succ, List.getElem?_cons_zero, Option.some.injEq] at ho
        subst ho
        refine if_go rfl ?_
        obtain ⟨xq, RQ, CQ⟩ := HK5.out.ol
        rw [HTL.out] at RQ
        have hbt : (i + 1) * 40 ≤ 140737488355328 := by omega
        refine wp_appB _ _ 28 rfl wc.heap.size rel_slice _ _ _ rfl RQ _ [.string ⟨rn.toArray⟩, .slice Ai mi ci] BX.out 1 1 rfl rfl rfl hbt HK5.out.sz ?_
        intro v' wq hoq hgq hbq
        obtain ⟨Aq, cq, rfl, _, _, _⟩ := own_parts hoq
        have S6 := Lib.hid (HK5.out.appR HQ.out (x := (rn, ra)) HTL.out RQ CQ HI5.out hoq hgq)
        clear RQ CQ hoq hgq hbq HK5 BR5 HI5 BX
        rw [← HTK.out] at S6
        simp only [Act.put, List.setIfInBounds_toArray, List.set_cons_zero, List.set_cons_succ]
        refine hK.out _ _ (fun h => by cases h) ?_
        clear hK
        refine AnyT.step 10 (by kernel_rfl) ?_
        intro o ho K hK
        simp only [List.getElem?_toArray, List.getElem?_cons_succ, List.getElem?_cons_zero, Option.some.injEq] at ho
        subst ho
        go_simp
        refine hK.out _ _ (fun h => by cases h) ?_
        have hc0 := S6.out.blk.cell (i := 1) rfl
        have hf0 := S6.out.blk.frozen 1
        obtain ⟨W7, hW7, S7⟩ := S6.out.put HQ.out 1 (.slice Aq (i + 1) cq)
        have HW7 := Lib.hid hW7
        clear hW7 hK
        refine AnyT.step 11 (by kernel_rfl) ?_
        intro o ho K hK
        simp only [List.getElem?_toArray, List.getElem?_cons_succ, List.getElem?_cons_zero, Option.some.injEq] at ho
        subst ho
        go_simp
        refine hK.out _ _ (fun h => by cases h) ?_
        rw [HW7.out]
        refine AnyT.done (by kernel_rfl) ?_
        clear hc0 hf0 HSI HSE S6 HW7 hK
        go_wp2_with fail
        go_roundw
        case rel => exact ⟨i + 1, _, by omega, by go_num, S7⟩
        case measure => simp [RowKit.intOf]; omega
      · obtain rfl : RN = i := by omega
        have HTK : Hid (x.rels.take RN = x.rels) := by rw [Hid, ← HRN.out, List.take_length]
        rw [HTK.out] at HK1
        clear HTK HNL HRI
        generalize wr = w2 at *
        obtain ⟨Ar, cr, xr, rfl, -, -, -, -⟩ := HK1.out.ol.parts
        rw [HRN.out] at HK1
        have HKP : Hid (keepF x l = ⟨x.atts, x.rels, fsF x.feats (l.take l.length), x.label⟩) := by rw [Hid, List.take_length]; rfl
        have HFL : Hid (∀ k, k ≤ l.length → (fsF x.feats (l.take k)).length = k) := fun k hk => by
          rw [fsF_length fun f hf => HLR.out f (List.mem_of_mem_take hf), List.length_take, Nat.min_eq_left hk]
        go_upto_region 8 with fail
        go_loopw [9, 37] (fun _ v37 wr => ∃ (i : Nat) (vf : Value), i ≤ l.length ∧ v37 = .int .i64 i ∧ Hid (KB w w.heap.size bo wc.heap.size [.slice A x.atts.length c, .slice B RN d, .slice D x.feats.length e, .int .i64 x.label] zsch [.slice A1 x.atts.length c1, .slice Ar RN cr, vf, .int .i64 x.label] (.slice A1 x.atts.length c1) (.slice Ar RN cr) vf x.atts x.rels (fsF x.feats (l.take i)) wr)) (fun _ v37 _ => l.length - (RowKit.intOf v37).toNat)
        case atStart => exact ⟨0, _, Nat.zero_le _, rfl, HK1⟩
        case round =>
          clear HK1
          obtain ⟨i, vf, hi2, rfl, HK1⟩ := hrel
          by_cases hil : i < l.length
          · obtain ⟨g, o, rfl, _, hp⟩ := IL.get (IL.ext HL.out HK1.out.ext) hil
            have hlr := HLR.out _ (List.getElem_mem hil)
            have hge : l[i]? = some l[i] := List.getElem?_eq_getElem hil
            generalize l[i] = z at *
            obtain ⟨q, rfl⟩ := Int.eq_ofNat_of_zero_le hlr.1
            have hqn : q < x.feats.length := by omega
            have HTK := Lib.hid (fsF_snoc hge hqn)
            have HTL := Lib.hid (HFL.out i hi2)
            clear hlr hge
            obtain ⟨gf, of, hDe, hgf, hf0, hf1, hf2⟩ := FeL.get HF.out hqn
            subst hDe
            generalize x.feats[q] = fe at *
            obtain ⟨f1, f2, f3⟩ := fe
            simp only at hf0 hf1 hf2
            have HFE : Hid (∀ w', Ext w w' → w'.cell? ⟨gf, of + q * 3, none⟩ = some (.int .i64 f1) ∧ w'.cell? ⟨gf, of + q * 3 + 1, none⟩ = some (.int .i64 f2) ∧ w'.cell? ⟨gf, of + q * 3 + 2, none⟩ = some (.int .i64 f3)) := fun w' hx => ⟨(hx.cell (p := ⟨gf, of + q * 3, none⟩) hgf).trans hf0, (hx.cell (p := ⟨gf, of + q * 3 + 1, none⟩) hgf).trans hf1, (hx.cell (p := ⟨gf, of + q * 3 + 2, none⟩) hgf).trans hf2⟩
            clear hf0 hf1 hf2
            obtain ⟨s0, s1, s2, s3⟩ := HK1.out.old.four
            have hge0 : decide ((q : Int) ≥ 0) = true := decide_eq_true (by omega)
            have hlt0 : decide ((q : Int) < (x.feats.length : Int)) = true := decide_eq_true (by omega)
            go_upto_region 11 with fail
            clear s0 s1 s2 s3
            obtain ⟨S, hSd⟩ : ∃ S : World → Prop, S = fun w' => w'.cell? ⟨bo, 2, none⟩ = some vf ∧ w'.cell? ⟨w.heap.size, 2, none⟩ = some (.slice (some ⟨gf, of, none⟩) x.feats.length e) ∧ w'.cell? ⟨gf, of + q * 3, none⟩ = some (.int .i64 f1) ∧ w'.cell? ⟨gf, of + q * 3 + 1, none⟩ = some (.int .i64 f2) ∧ w'.cell? ⟨gf, of + q * 3 + 2, none⟩ = some (.int .i64 f3) := ⟨_, rfl⟩
            have HSI : Hid (∀ w', S w' → w'.cell? ⟨bo, 2, none⟩ = some vf ∧ w'.cell? ⟨w.heap.size, 2, none⟩ = some (.slice (some ⟨gf, of, none⟩) x.feats.length e) ∧ w'.cell? ⟨gf, of + q * 3, none⟩ = some (.int .i64 f1) ∧ w'.cell? ⟨gf, of + q * 3 + 1, none⟩ = some (.int .i64 f2) ∧ w'.cell? ⟨gf, of + q * 3 + 2, none⟩ = some (.int .i64 f3)) := by rw [Hid, hSd]; exact fun _ h => h
            have HSE : Hid (∀ w' y z l y' z' l', Blk w' bo tSch (y :: z :: vf :: l) → Blk w' w.heap.size tSch (y' :: z' :: .slice (some ⟨gf, of, none⟩) x.feats.length e :: l') → Ext w w' → S w') := by rw [Hid, hSd]; exact fun w' y z l y' z' l' h h2 h3 => ⟨h.cell (i := 2) rfl, h2.cell (i := 2) rfl, HFE.out w' h3⟩
            clear hSd
            have HK3 := Lib.hid (HK1.out.ext' (Ext.refl wr).drew)
            have HS0 : Hid (S wr.drew) := HSE.out _ _ _ _ _ _ _ HK3.out.blk HK3.out.old HK3.out.ext
            refine AnyT.start (S := S) (T := fun j => decide (9 ≤ j)) (by kernel_rfl) ?_
            clear HK1
            generalize wr.drew = wd at *
            refine AnyT.ld 0 50 ?_ _ rfl rfl (by kernel_rfl) (fun _ _ _ h => h) HS0.out rfl ?_ ?_
            rotate_left
            focus (intro w' hSw; have hs := HSI.out w' hSw; go_split_ands; go_simp; try (first | exact rfl | omega | go_num | (intro hbd; exfalso; omega)))
            simp only [Act.put, List.setIfInBounds_toArray, List.set_cons_zero, List.set_cons_succ]
            refine AnyT.ld 1 51 ?_ _ rfl rfl (by kernel_rfl) (fun _ _ _ h => h) HS0.out rfl ?_ ?_
            rotate_left
            focus (intro w' hSw; have hs := HSI.out w' hSw; go_split_ands; go_simp; try (first | exact rfl | omega | go_num | (intro hbd; exfalso; omega)))
            simp only [Act.put, List.setIfInBounds_toArray, List.set_cons_zero, List.set_cons_succ]
            refine AnyT.ld 2 52 ?_ _ rfl rfl (by kernel_rfl) (fun _ _ _ h => h) HS0.out rfl ?_ ?_
            rotate_left
            focus (intro w' hSw; have hs := HSI.out w' hSw; go_split_ands; go_simp; try (first | exact rfl | omega | go_num | (intro hbd; exfalso; omega)))
            simp only [Act.put, List.setIfInBounds_toArray, List.set_cons_zero, List.set_cons_succ]
            refine AnyT.ld 3 53 ?_ _ rfl rfl (by kernel_rfl) (fun _ _ _ h => h) HS0.out rfl ?_ ?_
            rotate_left
            focus (intro w' hSw; have hs := HSI.out w' hSw; go_split_ands; go_simp; try (first | exact rfl | omega | go_num | (intro hbd; exfalso; omega)))
            simp only [Act.put, List.setIfInBounds_toArray, List.set_cons_zero, List.set_cons_succ]
            refine AnyT.ld 4 54 ?_ _ rfl rfl (by kernel_rfl) (fun _ _ _ h => h) HS0.out rfl ?_ ?_
            rotate_left
            focus (intro w' hSw; have hs := HSI.out w' hSw; go_split_ands; go_simp; try (first | exact rfl | omega | go_num | (intro hbd; exfalso; omega)))
            simp only [Act.put, List.setIfInBounds_toArray, List.set_cons_zero, List.set_cons_succ]
            refine AnyT.ld 5 55 ?_ _ rfl rfl (by kernel_rfl) (fun _ _ _ h => h) HS0.out rfl ?_ ?_
            rotate_left
            focus (intro w' hSw; have hs := HSI.out w' hSw; go_split_ands; go_simp; try (first | exact rfl | omega | go_num | (intro hbd; exfalso; omega)))
            simp only [Act.put, List.setIfInBounds_toArray, List.set_cons_zero, List.set_cons_succ]
            refine AnyT.ld 6 56 ?_ _ rfl rfl (by kernel_rfl) (fun _ _ _ h => h) HS0.out rfl ?_ ?_
            rotate_left
            focus (intro w' hSw; have hs := HSI.out w' hSw; go_split_ands; go_simp; try (first | exact rfl | omega | go_num | (intro hbd; exfalso; omega)))
            simp only [Act.put, List.setIfInBounds_toArray, List.set_cons_zero, List.set_cons_succ]
            refine AnyT.step 7 (by kernel_rfl) ?_
            intro o ho K hK
            simp only [List.getElem?_toArray, List.getElem?_cons_succ, List.getElem?_cons_zero, Option.some.injEq] at ho
            subst ho
            go_simp
            refine hK.out _ _ (fun _ => HSE.out _ _ _ _ _ _ _ (HK3.out.blk.ext ((Ext.refl _).alloc _)) (HK3.out.old.ext ((Ext.refl _).alloc _)) (HK3.out.ext.trans ((Ext.refl _).alloc _))) ?_
            refine box1 (P := fun W => AnyT _ _ _ _ _ _ _ _ _ W) fun WZ HXZ BX => ?_
            have HK5 := Lib.hid (HK3.out.ext' HXZ.out)
            clear HXZ hK HK3 HS0
            refine AnyT.step 8 (by kernel_rfl) ?_
            intro o' ho K hK
            simp only [List.getElem?_toArray, List.getElem?_cons_succ, List.getElem?_cons_zero, Option.some.injEq] at ho
            subst ho
            refine if_go rfl ?_
            obtain ⟨xq, RQ, CQ⟩ := HK5.out.of
            rw [HTL.out] at RQ
            have hbt : (i + 1) * 24 ≤ 140737488355328 := by omega
            refine wp_appB _ _ 29 rfl wc.heap.size fea_slice _ _ _ rfl RQ _ [.int .i64 f1, .int .i64 f2, .int .i64 f3] BX.out 1 1 rfl rfl rfl hbt HK5.out.sz ?_
            intro v' wq hoq hgq hbq
            obtain ⟨Aq, cq, rfl, _, _, _⟩ := own_parts hoq
            have S6 := Lib.hid (HK5.out.appF HQ.out (x := (f1, f2, f3)) HTL.out RQ CQ hoq hgq)
            clear RQ CQ hoq hgq hbq HK5 BX
            rw [← HTK.out] at S6
            simp only [Act.put, List.setIfInBounds_toArray, List.set_cons_zero, List.set_cons_succ]
            refine hK.out _ _ (fun _ => HSE.out _ _ _ _ _ _ _ S6.out.blk S6.out.old S6.out.ext) ?_
            clear hK
            refine AnyT.step 9 (by kernel_rfl) ?_
            intro o ho K hK
            simp only [List.getElem?_toArray, List.getElem?_cons_succ, List.getElem?_cons_zero, Option.some.injEq] at ho
            subst ho
            go_simp
            refine hK.out _ _ (fun h => by cases h) ?_
            have hc0 := S6.out.blk.cell (i := 2) rfl
            have hf0 := S6.out.blk.frozen 2
            obtain ⟨W7, hW7, S7⟩ := S6.out.put HQ.out 2 (.slice Aq (i + 1) cq)
            have HW7 := Lib.hid hW7
            clear hW7 hK
            refine AnyT.step 10 (by kernel_rfl) ?_
            intro o ho K hK
            simp only [List.getElem?_toArray, List.getElem?_cons_succ, List.getElem?_cons_zero, Option.some.injEq] at ho
            subst ho
            go_simp
            refine hK.out _ _ (fun h => by cases h) ?_
            rw [HW7.out]
            refine AnyT.done (by kernel_rfl) ?_
            clear hc0 hf0 HSI HSE S6 HW7 hK hge0 hlt0
            go_wp2_with fail
            go_roundw
            case rel => exact ⟨i + 1, _, by omega, by go_num, S7⟩
            case measure => simp [RowKit.intOf]; omega
          · obtain rfl : i = l.length := by omega
            obtain ⟨Af, cf, xf, rfl, -, -, -, -⟩ := HK1.out.of.parts
            rw [HFL.out _ (Nat.le_refl _)] at HK1
            have HSV : Hid (SchV wr (.agg #[.slice A1 x.atts.length c1, .slice Ar RN cr, .slice Af l.length cf, .int .i64 x.label]) R) := by
              rw [Hid, ← HK.out, HKP.out]
              refine ⟨A1, c1, Ar, cr, Af, cf, ?_, HK1.out.al, ?_, ?_⟩
              · show _ = Value.agg #[_, .slice Ar x.rels.length cr, .slice Af (fsF x.feats (l.take l.length)).length cf, _]
                rw [HRN.out, HFL.out _ (Nat.le_refl _)]
              · have h := HK1.out.ol.ls
                show RlL wr (.slice Ar x.rels.length cr) x.rels
                rw [HRN.out]
                exact h
              · have h := HK1.out.of.ls
                show FeL wr (.slice Af (fsF x.feats (l.take l.length)).length cf) _
                rw [HFL.out _ (Nat.le_refl _)]
                exact h
            have hq2 := HQ.out.bb
            have hq3 := HQ.out.bs
            obtain ⟨k0, k1, k2, k3⟩ := HK1.out.blk.four
            obtain ⟨j0, j1, j2, j3⟩ := HK1.out.res.four
            obtain ⟨f0, f1, f2, f3⟩ := HK1.out.res.free4
            obtain ⟨W', hW', B7, K7, N7⟩ := put4 HK1.out.res (.slice A1 x.atts.length c1) (.slice Ar RN cr) (.slice Af l.length cf) (.int .i64 x.label)
            have HW := Lib.hid hW'
            have HV7 := Lib.hid (HSV.out.kept K7.out (by decide) (by decide) (by decide) (by decide))
            have HX7 := Lib.hid (HK1.out.ext.only N7.out (by omega))
            clear hW' hq2 hq3
            go_wp2
            rw [HW.out]
            exact ret_sch rfl rfl rfl B7.out ⟨_, rfl, HV7.out, HX7.out⟩
end Go.Proofs.YthalpbjkkfkheaaDoor
