/- forest.Resample walked. -/
import Derived.Test.YthalpbjkkfkheaaGreatDoorHashLaw
import Derived.Test.YthalpbjkkfkheaaGreatDoorTab
namespace Go.Proofs.YthalpbjkkfkheaaGreatDoor
open Go.RowKit Go.Lib

def baL (l : List Txt) : List ByteArray := l.map fun t => ⟨t.toArray⟩
theorem ch_txts {w : World} : ∀ {xs : List Value} {l : List Txt}, Ch (TxR w) xs l → xs = (baL l).map Value.string
  | _, [], h => h
  | _, t :: l, ⟨c, r, e, h1, h2⟩ => by
    rw [e, ch_txts h2, show c = _ from h1]
    rfl
theorem valt_len {k : Int} {v : List UInt8} (h : ValT k v) : v.length ≤ 60 := by
  rcases h with rfl | ⟨-, hw⟩ | ⟨-, z, rfl, hz⟩ | ⟨-, q, rfl, hq⟩
  · simp
  · have := hw.2.1; omega
  · have h1 := decZ_length z
    have h2 := nDigits_le (e := 9) hz.lt
    omega
  · have h1 := decZ_length q.num
    have h2 := nDigits_le (e := 9) hq.1.lt
    by_cases hd : q.den = 1
    · rw [ratText_int hd]; omega
    · rw [ratText_frac hd, List.length_append, List.length_cons, decDigits_length]
      have h3 := nDigits_le (n := q.den) (e := 1) (by have := hq.2; omega)
      omega
theorem strsL_len : ∀ {l : List Txt}, (∀ t ∈ l, t.length ≤ 60) → (strsL (baL l)).length ≤ l.length * 61
  | [], _ => by simp [strsL, baL]
  | t :: l, h => by
    have h1 := strsL_len (l := l) (fun t ht => h t (by simp [ht]))
    have h2 := h t (by simp)
    unfold strsL baL at h1 ⊢
    simp only [List.map_cons, List.flatMap_cons, List.length_append, List.length_cons, List.length_nil] at h1 ⊢
    omega
theorem rowval_short {x : Sch} {cs : List Int} {vs : List Txt} (h : RowVal x cs vs) (hc : cs.length ≤ 12) : vs.length ≤ 12 ∧ ∀ t ∈ vs, t.length ≤ 60 := by
  refine ⟨by rw [h.1]; exact hc, fun t ht => ?_⟩
  obtain ⟨i, hi, rfl⟩ := List.getElem_of_mem ht
  have hic : i < cs.length := by rw [← h.1]; exact hi
  exact valt_len (h.2 i cs[i] vs[i] (List.getElem?_eq_getElem hic) (List.getElem?_eq_getElem hi))
/-- what a row's weight is multiplied by -/
def drawT (seed tree i : Int) (vs : List Txt) : Int := drawN [seed, tree, i] (baL vs)
theorem drawT_bd (seed tree i : Int) (vs : List Txt) : 0 ≤ drawT seed tree i vs ∧ drawT seed tree i vs ≤ 2 := drawN_bd _ _
theorem fdraw_any (seed tree i : Int) (A : Option Addr) (n c : Nat) (vs : List Txt) (w : World) (h1 : I64 seed) (h2 : I64 tree) (h3 : I64 i) (hl : vs.length ≤ 12) (ht : ∀ t ∈ vs, t.length ≤ 60) (h : TL w (.slice A n c) vs) (htab : Tab w) :
    Calls Tryz.prog 12 #[.int .i64 seed, .int .i64 tree, .int .i64 i, .slice A n c] w fun e w' => e = .returned (.int .i64 (drawT seed tree i vs)) ∧ Ext w w' := by
  obtain ⟨rfl, hc, hA, xs, hs, hch⟩ := ls_cells h
  have hx := ch_txts hch
  subst hx
  have e : vs.length = (baL vs).length := by unfold baL; rw [List.length_map]
  have hsl := strsL_len ht
  rw [e]
  exact draw_any seed tree i A c (baL vs) w h1 h2 h3 (by rw [← e]; omega) (by omega) hs htab
set_option maxRecDepth 100000 in
set_option maxHeartbeats 4000000 in
theorem clone_txts (A : Option Addr) (n c : Nat) (xs : List Value) (w : World) (hA : A = none → c = 0) (hs : Sl w tStr A xs) (hl : xs.length = n * 1) (hnc : n ≤ c) (h1 : ∀ u ∈ xs, u.oneCell' = true) (hn : n ≤ 1000000) :
    Calls Tryz.prog 23 #[.slice A n c] w fun e w' => ∃ v', e = .returned v' ∧ w'.ownsRow w.heap.size tStr 1 v' n xs ∧ Ext w w' := by
  have HS := Lib.hid hs
  have H1 := Lib.hid h1
  have HL := Lib.hid hl
  clear hs h1 hl
  rcases A with _ | ad
  · have hc := hA rfl
    subst hc
    obtain rfl : n = 0 := by omega
    have hx : xs = [] := List.eq_nil_of_length_eq_zero (by rw [HL.out])
    subst hx
    clear hA
    have hq := fun w => Lib.run_eql_slice_nil w tStrs tStr none 0 0 0 0 str_slice.ht
    go_enter Tryz.func23, Tryz.ntmps23
    go_wp2
    go_ret
    exact ⟨_, rfl, World.ownsRow_nil _ _ _ _, Ext.refl w⟩
  · have HO := Lib.hid (own_empty w tStr 1)
    have HSL := Lib.hid (HS.out.ext ((Ext.refl w).alloc (.cells #[] tStr)))
    have hbt : (0 + n) * 16 ≤ 140737488355328 := by omega
    clear hA
    have hq := fun w => Lib.run_eql_slice_nil w tStrs tStr (some ad) n c 0 0 str_slice.ht
    go_enter Tryz.func23, Tryz.ntmps23
    go_wp2_with (at_builtin; refine wpList_app rfl _ _ tStrs rfl w.heap.size str_slice _ _ _ rfl HO.out (some ad) n c xs rfl (fun h => by cases h) HL.out HSL.out H1.out hbt (by simp) ?_)
    intro v' w' ho hg _
    have HX : Hid (Ext w w') := grown_below ((Ext.refl w).alloc _) HO.out hg (Nat.le_refl _)
    have HO' : Hid (w'.ownsRow w.heap.size tStr 1 v' n xs) := by
      rw [Hid]
      simpa using ho
    clear ho hg
    go_wp2
    go_ret
    exact ⟨_, rfl, HO'.out, HX.out⟩
theorem cloneT_any (A : Option Addr) (n c : Nat) (l : List Txt) (w : World) (h : TL w (.slice A n c) l) (hl : l.length ≤ 1000) :
    Calls Tryz.prog 23 #[.slice A n c] w fun e w' => ∃ A' c', e = .returned (.slice A' n c') ∧ TL w' (.slice A' n c') l ∧ Ext w w' := by
  obtain ⟨rfl, hc, hA, xs, hs, hch⟩ := ls_cells h
  have hx := Ch.length (k := 1) (fun c x h => by rw [show c = _ from h]; rfl) hch
  refine (clone_txts A _ c xs w hA hs hx hc (Ch.all (fun c x hc u hu => by
    rw [show c = _ from hc] at hu
    simp only [List.mem_cons, List.not_mem_nil, or_false] at hu
    rw [hu]; rfl) hch) (by omega)).mono ?_
  rintro e w' ⟨v', rfl, ho, hx⟩
  obtain ⟨A', c', rfl, h2⟩ := own_ls (R := TxR) ho rfl hch
  exact ⟨A', c', rfl, h2, hx⟩
theorem rows_info : (Tryz.prog.info? tRows).map (fun i => (i.zero, i.size, i.bytes)) = some (some (.slice none 0 0), 1, 24) := by kernel_rfl
theorem make_rows (n : Nat) (h : n ≤ 1000) (w : World) :
    (Instr.makeSlice tDb (.int .i64 (n : Int)) (.int .i64 (n : Int))).run Tryz.prog w = .ok (.slice (some ⟨w.heap.size, 0, none⟩) n n) (w.alloc (.cells (List.replicate n (Value.slice none 0 0)).toArray tRows)) := by
  obtain ⟨i0, hi, hz0, hz1, hz2⟩ := info_parts rows_info
  have hr := run_make (P := Tryz.prog) w tDb tRows i0 (.slice none 0 0) Tryz.underlying34 hi hz0 .i64 .i64 (n : Int) (n : Int) (by omega) (Int.le_refl _) (by rw [hz2]; omega) (by omega)
  simp only [Int.toNat_natCast, hz1, Nat.mul_one, Value.cells, madeCells_one] at hr
  rw [hr]
/-- a row that is drawn -/
def rsW (seed tree i : Int) (y : Rw) : Int := min (y.2 * drawT seed tree i y.1) 100
def rsN (seed tree : Int) (i : Nat) (l : List Rw) (j : Nat) : List Rw := (l.take j).filterMap fun y => if 0 < rsW seed tree i y then some (y.1, rsW seed tree i y) else none
theorem rsN_succ {seed tree : Int} {i : Nat} {l : List Rw} {j : Nat} (h : j < l.length) : rsN seed tree i l (j + 1) = if 0 < rsW seed tree i l[j] then rsN seed tree i l j ++ [(l[j].1, rsW seed tree i l[j])] else rsN seed tree i l j := by
  unfold rsN
  rw [List.take_add_one, List.getElem?_eq_getElem h, List.filterMap_append]
  simp only [Option.toList, List.filterMap_cons, List.filterMap_nil]
  split
  · rename_i he
    split at he
    · cases he
    · rename_i hn; rw [if_neg hn]; simp
  · rename_i b he
    split at he
    · rename_i hn
      injection he with he
      rw [if_pos hn, he]
    · cases he
theorem rsN_le (seed tree : Int) (i : Nat) (l : List Rw) (j : Nat) : (rsN seed tree i l j).length ≤ j := by
  unfold rsN
  have h := List.length_filterMap_le (fun y => if 0 < rsW seed tree i y then some (y.1, rsW seed tree i y) else none) (l.take j)
  rw [List.length_take] at h
  omega
/-- the first tables as they are drawn -/
def rsK (seed tree : Int) (D : List (List Rw)) : Nat → List (List Rw)
  | 0 => []
  | k + 1 => rsK seed tree D k ++ [rsN seed tree k (D[k]?.getD []) (D[k]?.getD []).length]
theorem rsK_length (seed tree : Int) (D : List (List Rw)) : ∀ k, (rsK seed tree D k).length = k
  | 0 => rfl
  | k + 1 => by rw [rsK, List.length_append, rsK_length seed tree D k]; rfl
theorem rsK_get (seed tree : Int) (D : List (List Rw)) : ∀ (n k : Nat), k < n → (rsK seed tree D n)[k]? = some (rsN seed tree k (D[k]?.getD []) (D[k]?.getD []).length)
  | 0, k, h => by omega
  | n + 1, k, h => by
    rw [rsK]
    rcases Nat.lt_or_ge k n with hk | hk
    · rw [List.getElem?_append_left (by rw [rsK_length]; exact hk)]
      exact rsK_get seed tree D n k hk
    · have e : k = n := by omega
      subst e
      rw [List.getElem?_append_right (by rw [rsK_length]; exact Nat.le_refl _), rsK_length, Nat.sub_self]
      rfl
theorem rsN_ok {seed tree : Int} {i : Nat} {x : Sch} {cs : List Int} {l : List Rw} (h : TabOk x cs l) : TabOk x cs (rsN seed tree i l l.length) := by
  have e : rsN seed tree i l l.length = l.filterMap fun y => if 0 < rsW seed tree i y then some (y.1, rsW seed tree i y) else none := by
    unfold rsN; rw [List.take_length]
  have hmem : ∀ y ∈ rsN seed tree i l l.length, ∃ z ∈ l, y = (z.1, rsW seed tree i z) ∧ 0 < rsW seed tree i z := fun y hy => by
    rw [e, List.mem_filterMap] at hy
    obtain ⟨z, hz, hzy⟩ := hy
    split at hzy
    · rename_i hp
      injection hzy with hzy
      exact ⟨z, hz, hzy.symm, hp⟩
    · cases hzy
  refine ⟨Nat.le_trans (rsN_le _ _ _ _ _) h.len, fun y hy => ?_, fun y hy => ?_, ?_⟩
  · obtain ⟨z, hz, rfl, _⟩ := hmem y hy
    exact h.val z hz
  · obtain ⟨z, hz, rfl, hp⟩ := hmem y hy
    refine ⟨by simp only; omega, ?_⟩
    simp only
    unfold rsW
    omega
  · rw [e]
    refine List.Pairwise.filterMap _ ?_ h.ord
    intro a b hab c hc d hd
    split at hc
    · split at hd
      · injection hc with hc
        injection hd with hd
        subst hc hd
        exact hab
      · cases hd
    · cases hc
theorem rsK_ok {seed tree : Int} {x : Sch} {D : List (List Rw)} (h : DbOk x D) : DbOk x (rsK seed tree D D.length) := by
  refine ⟨by rw [rsK_length]; exact h.1, fun k t r h1 h2 => ?_⟩
  have hk : k < D.length := by
    rcases Nat.lt_or_ge k D.length with hk | hk
    · exact hk
    · rw [List.getElem?_eq_none (by rw [rsK_length]; exact hk)] at h1; cases h1
  rw [rsK_get _ _ _ _ _ hk, List.getElem?_eq_getElem hk] at h1
  injection h1 with h1
  rw [← h1]
  exact rsN_ok (h.2 k _ r (List.getElem?_eq_getElem hk) h2)
theorem Only.keptB {w w' : World} {g : Nat} {t u : TypeId} {l : List Value} (hB : Blk w g t l) (ho : Only g w w') (ht : t ≠ u) : Kept u w w' := by
  intro g' cur fr hc
  refine (ho.block g' (lt_of_some hc) ?_).trans hc
  intro he
  injection he with he
  subst he
  unfold Blk at hB
  rw [hB] at hc
  injection hc with hc
  injection hc with _ h
  exact ht h
theorem take_set {zs : List Value} {k : Nat} {v : Value} (hk : k < zs.length) : (zs.set k v).take (k + 1) = zs.take k ++ [v] := by
  rw [List.take_succ_eq_append_getElem (by rw [List.length_set]; exact hk), List.getElem_set_self, List.take_set_of_le (Nat.le_refl _)]
theorem drop_set {zs : List Value} {k : Nat} {v : Value} : (zs.set k v).drop (k + 1) = zs.drop (k + 1) := List.drop_set_of_lt (Nat.lt_succ_self k)
set_option maxRecDepth 100000 in
set_option maxHeartbeats 4000000 in
theorem resample_any (v : Value) (x : Sch) (A0 : Option Addr) (n0 c0 : Nat) (D : List (List Rw)) (seed tree : Nat) (w : World) (h : SchV w v x) (ok : SchOk x) (hl : DbL w (.slice A0 n0 c0) D) (hD : DbOk x D) (hs : seed ≤ 1000000) (ht : tree ≤ 1000000) (htab : Tab w) :
    Calls Tryz.prog 10 #[v, .slice A0 n0 c0, .int .i64 seed, .int .i64 tree] w fun e w' => ∃ A c, e = .returned (.tuple #[.slice A D.length c, .int .i64 0]) ∧ DbL w' (.slice A D.length c) (rsK seed tree D D.length) ∧ Ext w w' := by
  have CH := Lib.hid (fun w' (hx : Ext w w') => jdb_any v x A0 n0 c0 D w' (h.ext hx) ok (hl.ext hx) hD)
  obtain ⟨hn0, hnc0, hcm0⟩ := cap_le hl
  subst hn0
  have HL := Lib.hid hl
  have HTB := Lib.hid htab
  have HDB := Lib.hid hD.2
  have hD6 : D.length ≤ 6 := by rw [hD.1]; exact ok.r6
  have HDl := Lib.hid hD.1
  have HCL : Hid (∀ r ∈ x.rels, r.2.length ≤ 12) := fun r hr => by
    rcases asc_len (k := 0) (n := x.atts.length) (ok.ra r hr) (ok.ri r hr) with h1 | h1
    · rw [h1]; simp
    · have := ok.a12; omega
  obtain ⟨A, c, B, d, Dd, e, rfl, ha, hrl, hf⟩ := h
  clear hl ha hrl hf ok hD htab
  obtain ⟨N, hN⟩ : ∃ N, D.length = N := ⟨_, rfl⟩
  have HN := Lib.hid hN
  rw [hN] at CH HL hnc0 hD6 ⊢
  clear hN
  generalize x.atts.length = AN at *
  generalize x.feats.length = FN at *
  have e1 : decide ((seed : Int) < 0) = false := decide_eq_false (by omega)
  have e2 : decide ((tree : Int) < 0) = false := decide_eq_false (by omega)
  have e3 : decide ((seed : Int) > 1000000) = false := decide_eq_false (by omega)
  have e4 : decide ((tree : Int) > 1000000) = false := decide_eq_false (by omega)
  go_enter Tryz.func10, Tryz.ntmps10
  go_upto_region 1 with fail
  refine box1 (P := fun W => Code.wp _ _ _ _ W) fun W HX BX => ?_
  have CH1 := Lib.hid (CH.out W HX.out)
  obtain ⟨s0, s1, s2, s3⟩ := BX.out.four
  go_wp2_with fail
  refine CH1.out.mono ?_
  rintro ee1 w1 ⟨rfl, hx1⟩
  have HX1 := Lib.hid (HX.out.trans hx1)
  clear s0 s1 s2 s3 CH CH1 BX HX hx1
  have hmk := make_rows N (by omega) w1
  go_upto_region 7 with fail
  refine box1 (P := fun W => Code.wp _ _ _ _ W) fun W2 HX2 BO => ?_
  clear hmk
  have HTW := Lib.hid (HTB.out.ext HX1.out)
  have HLW := Lib.hid (HL.out.ext HX1.out)
  generalize hbo : w1.heap.size = bo at *
  have hbo2 := BO.out.lt
  have HZ1 : Hid ((List.replicate N (Value.slice none 0 0)).drop 0 = List.replicate (N - 0) (Value.slice none 0 0)) := rfl
  have HZ2 : Hid ((List.replicate N (Value.slice none 0 0)).length = N) := List.length_replicate
  go_upto_region 8 with fail
  go_loopw [41] (fun v41 wr => ∃ (k : Nat) (zs : List Value), k ≤ N ∧ v41 = .int .i64 k ∧ Hid (zs.length = N) ∧ Hid (zs.drop k = List.replicate (N - k) (.slice none 0 0)) ∧ Hid (Blk wr bo tRows zs) ∧ Hid (Ch (TbR wr) (zs.take k) (rsK seed tree D k)) ∧ Hid (Ext w1 wr)) (fun v41 _ => N - (RowKit.intOf v41).toNat)
  case atStart => exact ⟨0, _, Nat.zero_le _, rfl, HZ2, HZ1, BO, rfl, HX2⟩
  case round =>
    clear HZ1 HZ2
    obtain ⟨k, zs, hk, rfl, HZL, HZD, HB, HCh, HXr⟩ := hrel
    by_cases hkN : k < N
    · have hkD : k < D.length := by rw [HN.out]; exact hkN
      obtain ⟨g0, o0, Ak, ck, hA0, hg0, HLk, hck⟩ := DbL.get (HLW.out.ext HXr.out) hkD
      subst hA0
      have hkr : k < x.rels.length := by rw [← HDl.out]; exact hkD
      have HTk := Lib.hid (HDB.out k _ _ (List.getElem?_eq_getElem hkD) (List.getElem?_eq_getElem hkr))
      have hcl := HCL.out _ (List.getElem_mem hkr)
      have HRS : Hid (rsK seed tree D (k + 1) = rsK seed tree D k ++ [rsN seed tree k D[k] D[k].length]) := by rw [Hid, rsK, List.getElem?_eq_getElem hkD]; rfl
      have hlen := HTk.out.len
      obtain ⟨hckl, hckm⟩ := (cap_le HLk.out).2
      generalize x.rels[k] = r at *
      generalize D[k] = l at *
      have hzk : k < zs.length := by rw [HZL.out]; exact hkN
      have hz0 : zs[k]? = some (.slice none 0 0) := by
        have h1 := HZD.out
        have h2 : (zs.drop k)[0]? = zs[k]? := by rw [List.getElem?_drop]; rfl
        rw [← h2, h1, List.getElem?_replicate, if_pos (by omega)]
      have hzs : zs.set k (.slice none 0 0) = zs := by
        rw [List.getElem?_eq_getElem hzk] at hz0
        injection hz0 with hz0
        rw [← hz0]
        exact List.set_getElem_self hzk
      have HB0 : Hid (Blk wr bo tRows (zs.set k (.slice none 0 0))) := by rw [hzs]; exact HB
      clear hz0 hzs
      have HB4 := HB
      have HC4 := HCh
      have hsz4 := HXr.out.size
      have hbr := HB.out.lt
      generalize hw4 : wr = w4 at *
      clear hw4
      go_upto_region 11 with fail
      go_loopw [49] (fun v49 wr => ∃ (j : Nat) (vk : Value), j ≤ l.length ∧ v49 = .int .i64 j ∧ Hid (Blk wr bo tRows (zs.set k vk)) ∧ Hid (OwnL tRow 2 RwR w4.heap.size wr vk (rsN seed tree k l j)) ∧ Hid (Only bo w4 wr)) (fun v49 _ => l.length - (RowKit.intOf v49).toNat)
      case atStart => exact ⟨0, _, Nat.zero_le _, rfl, HB0, OwnL.nil, Only.refl _ _⟩
      case round =>
        clear HB0 HB HCh
        obtain ⟨j, vk, hj, rfl, HB5, HO5, HY5⟩ := hrel
        obtain ⟨Av, cv, xv, rfl, hvc, hvm, HRv, _⟩ := HO5.out.parts
        have hvb : Av = none ∨ ∃ gv, Av = some ⟨gv, 0, none⟩ ∧ gv < wr.heap.size := by
          rcases own_cases HRv.out with h | ⟨gv, h1, _, h2⟩
          · exact .inl h.1
          · exact .inr ⟨gv, h1, h2⟩
        clear HRv
        by_cases hjl : j < l.length
        · have HX5 : Hid (Ext w1 wr) := HXr.out.only HY5.out (by rw [hbo]; exact Nat.le_refl _)
          have HK5 : Hid (RwL wr (.slice Ak l.length ck) l) := HLk.out.keep RwR.stab (fun u hu => by
            rcases List.mem_cons.1 hu with rfl | hu
            · exact HY5.out.keptB HB4.out (by decide)
            · rw [List.mem_singleton.1 hu]; exact HY5.out.keptB HB4.out (by decide))
          obtain ⟨gl, ol, Bk, dk, hAk, hgl, hp1, hp2, HTy⟩ := RwL.get HK5.out hjl
          subst hAk
          have HVk := Lib.hid (HTk.out.val _ (List.getElem_mem hjl))
          obtain ⟨hw1, hw2⟩ := HTk.out.wt _ (List.getElem_mem hjl)
          have HSU := Lib.hid (rsN_succ (seed := seed) (tree := tree) (i := k) hjl)
          have hrl := rsN_le seed tree k l j
          generalize l[j] = y at *
          obtain ⟨yv, yw⟩ := y
          simp only at hp1 hp2 HTy HVk hw1 hw2 HSU
          obtain ⟨hy12, hy60⟩ := rowval_short HVk.out hcl
          go_upto_region 13 with fail
          refine box1 (P := fun W => Code.wp _ _ _ _ W) fun W6 HX6 BY => ?_
          have HB6 := Lib.hid (HB5.out.ext HX6.out)
          have HO6 := Lib.hid (HO5.out.ext RwR.stab HX6.out)
          have HY6 := Lib.hid (HY5.out.trans (Only.of_ext HX6.out))
          have HE6 := Lib.hid (HX5.out.trans HX6.out)
          have HT6 := Lib.hid (TL.ext HTy.out HX6.out)
          have FD := Lib.hid (fun w' (hx : Ext W6 w') => fdraw_any seed tree k Bk yv.length dk yv w' ⟨by omega, by omega⟩ ⟨by omega, by omega⟩ ⟨by omega, by omega⟩ hy12 hy60 (TL.ext HT6.out hx) (HTW.out.ext (HE6.out.trans hx)))
          obtain ⟨hd0, hd2⟩ := drawT_bd seed tree k yv
          have HRW : Hid (rsW seed tree k (yv, yw) = min (yw * drawT seed tree k yv) 100) := rfl
          generalize hby : wr.heap.size = by6 at *
          clear HX6 HTy hp1 hp2 HB5 HO5 HX5 HK5 hgl
          generalize drawT seed tree k yv = dd at *
          generalize rsW seed tree k (yv, yw) = nW at *
          have HWR : Hid (IntKind.i64.wrap (yw * dd) = yw * dd) := by
            have h1 : yw * dd ≤ 100 * 2 := Int.mul_le_mul hw2 hd2 hd0 (by decide)
            have h2 : 0 ≤ yw * dd := Int.mul_nonneg (by omega) hd0
            rw [Hid, IntKind.wrap_i64]
            omega
          have HSI : Hid (∀ w', Ext W6 w' → w'.cell? ⟨by6, 0, none⟩ = some (.slice Bk yv.length dk) ∧ w'.cell? ⟨by6, 1, none⟩ = some (.int .i64 yw)) := fun w' hx => (BY.out.ext hx).two
          have HS0 : Hid (Ext W6 W6.drew) := (Ext.refl W6).drew
          refine AnyT.start (S := fun w' => Ext W6 w') (T := fun _ => false) (by kernel_rfl) ?_
          generalize W6.drew = wd at *
          refine AnyT.ld 0 53 ?_ _ rfl rfl (by kernel_rfl) (fun _ _ _ h => h) HS0.out rfl ?_ ?_
          rotate_left
          focus (intro w' hSw; have hs := HSI.out w' hSw; go_split_ands; go_simp; try (first | exact rfl | omega | go_num | (intro hbd; exfalso; omega)))
          simp only [Act.put, List.setIfInBounds_toArray, List.set_cons_zero, List.set_cons_succ]
          refine AnyT.ld 1 54 ?_ _ rfl rfl (by kernel_rfl) (fun _ _ _ h => h) HS0.out rfl ?_ ?_
          rotate_left
          focus (intro w' hSw; have hs := HSI.out w' hSw; go_split_ands; go_simp; try (first | exact rfl | omega | go_num | (intro hbd; exfalso; omega)))
          simp only [Act.put, List.setIfInBounds_toArray, List.set_cons_zero, List.set_cons_succ]
          refine AnyT.ld 2 55 ?_ _ rfl rfl (by kernel_rfl) (fun _ _ _ h => h) HS0.out rfl ?_ ?_
          rotate_left
          focus (intro w' hSw; have hs := HSI.out w' hSw; go_split_ands; go_simp; try (first | exact rfl | omega | go_num | (intro hbd; exfalso; omega)))
          simp only [Act.put, List.setIfInBounds_toArray, List.set_cons_zero, List.set_cons_succ]
          refine AnyT.ld 3 56 ?_ _ rfl rfl (by kernel_rfl) (fun _ _ _ h => h) HS0.out rfl ?_ ?_
          rotate_left
          focus (intro w' hSw; have hs := HSI.out w' hSw; go_split_ands; go_simp; try (first | exact rfl | omega | go_num | (intro hbd; exfalso; omega)))
          simp only [Act.put, List.setIfInBounds_toArray, List.set_cons_zero, List.set_cons_succ]
          refine AnyT.ld 4 57 ?_ _ rfl rfl (by kernel_rfl) (fun _ _ _ h => h) HS0.out rfl ?_ ?_
          rotate_left
          focus (intro w' hSw; have hs := HSI.out w' hSw; go_split_ands; go_simp; try (first | exact rfl | omega | go_num | (intro hbd; exfalso; omega)))
          simp only [Act.put, List.setIfInBounds_toArray, List.set_cons_zero, List.set_cons_succ]
          refine AnyT.ld 5 58 ?_ _ rfl rfl (by kernel_rfl) (fun _ _ _ h => h) HS0.out rfl ?_ ?_
          rotate_left
          focus (intro w' hSw; have hs := HSI.out w' hSw; go_split_ands; go_simp; try (first | exact rfl | omega | go_num | (intro hbd; exfalso; omega)))
          simp only [Act.put, List.setIfInBounds_toArray, List.set_cons_zero, List.set_cons_succ]
          refine AnyT.ld 6 59 ?_ _ rfl rfl (by kernel_rfl) (fun _ _ _ h => h) HS0.out rfl ?_ ?_
          rotate_left
          focus (intro w' hSw; have hs := HSI.out w' hSw; go_split_ands; go_simp; try (first | exact rfl | omega | go_num | (intro hbd; exfalso; omega)))
          simp only [Act.put, List.setIfInBounds_toArray, List.set_cons_zero, List.set_cons_succ]
          refine AnyT.step 7 (by kernel_rfl) ?_
          intro o ho K hK
          simp only [List.getElem?_toArray, List.getElem?_cons_succ, List.getElem?_cons_zero, Option.some.injEq] at ho
          subst ho
          go_simp
          refine (FD.out wd HS0.out).mono ?_
          rintro e7 w7 ⟨rfl, hx7⟩
          have HS7 := Lib.hid (HS0.out.trans hx7)
          refine hK.out _ _ (fun _ => HS7.out) ?_
          clear hK hx7 HS0 FD
          have HS0 := HS7
          refine AnyT.ld 8 61 (.int .i64 (yw * dd)) _ rfl rfl (by kernel_rfl) (fun _ _ _ h => h) HS0.out rfl ?_ ?_
          focus (intro w' hSw; have hs := HSI.out w' hSw; go_split_ands; go_simp; exact HWR.out)
          simp only [Act.put, List.setIfInBounds_toArray, List.set_cons_zero, List.set_cons_succ]
          refine AnyT.ld 9 62 ?_ _ rfl rfl (by kernel_rfl) (fun _ _ _ h => h) HS0.out rfl ?_ ?_
          rotate_left
          focus (intro w' hSw; have hs := HSI.out w' hSw; go_split_ands; go_simp; try (first | exact rfl | omega | go_num | (intro hbd; exfalso; omega)))
          simp only [Act.put, List.setIfInBounds_toArray, List.set_cons_zero, List.set_cons_succ]
          refine AnyT.ld 10 15 ?_ _ rfl rfl (by kernel_rfl) (fun _ _ _ h => h) HS0.out rfl ?_ ?_
          rotate_left
          focus (intro w' hSw; have hs := HSI.out w' hSw; go_split_ands; go_simp; try (first | exact rfl | omega | go_num | (intro hbd; exfalso; omega)))
          simp only [Act.put, List.setIfInBounds_toArray, List.set_cons_zero, List.set_cons_succ]
          refine AnyT.done (by kernel_rfl) ?_
          rw [← HRW.out]
          have HB7 := Lib.hid (HB6.out.ext HS0.out)
          have HO7 := Lib.hid (HO6.out.ext RwR.stab HS0.out)
          have HY7 := Lib.hid (HY6.out.trans (Only.of_ext HS0.out))
          have HT7 := Lib.hid (TL.ext HT6.out HS0.out)
          have BY7 := Lib.hid (BY.out.ext HS0.out)
          clear HSI HS0 HS7 HB6 HO6 HY6 HT6 BY HE6 HWR hd0 hd2 HRW
          by_cases hp : 0 < nW
          · rw [if_pos hp] at HSU
            have hd : decide (nW > 0) = true := decide_eq_true hp
            have CT := Lib.hid (cloneT_any Bk yv.length dk yv)
            generalize rsN seed tree k l j = o at *
            go_upto_region 15 with fail
            have hzk2 : (zs.set k (Value.slice Av o.length cv))[k]? = some (.slice Av o.length cv) := by rw [List.getElem?_set_self hzk]
            obtain ⟨S, hSd⟩ : ∃ S : World → Prop, S = fun w' => w'.cell? ⟨by6, 0, none⟩ = some (.slice Bk yv.length dk) ∧ w'.cell? ⟨bo, k, none⟩ = some (.slice Av o.length cv) := ⟨_, rfl⟩
            have HSI : Hid (∀ w', S w' → w'.cell? ⟨by6, 0, none⟩ = some (.slice Bk yv.length dk) ∧ w'.cell? ⟨bo, k, none⟩ = some (.slice Av o.length cv)) := by rw [Hid, hSd]; exact fun _ h => h
            have HSE : Hid (∀ w', Blk w' by6 tRow [.slice Bk yv.length dk, .int .i64 yw] → Blk w' bo tRows (zs.set k (.slice Av o.length cv)) → S w') := by rw [Hid, hSd]; exact fun w' h1 h2 => ⟨h1.cell (i := 0) rfl, h2.cell hzk2⟩
            clear hSd
            have HXd : Hid (Ext w7 w7.drew) := (Ext.refl w7).drew
            have HS0 : Hid (S w7.drew) := HSE.out _ (BY7.out.ext HXd.out) (HB7.out.ext HXd.out)
            refine AnyT.start (S := S) (T := fun j => decide (13 ≤ j)) (by kernel_rfl) ?_
            generalize w7.drew = wd at *
            refine AnyT.ld 0 65 ?_ _ rfl rfl (by kernel_rfl) (fun _ _ _ h => h) HS0.out rfl ?_ ?_
            rotate_left
            focus (intro w' hSw; have hs := HSI.out w' hSw; go_split_ands; go_simp; try (first | exact rfl | omega | go_num | (intro hbd; exfalso; omega)))
            simp only [Act.put, List.setIfInBounds_toArray, List.set_cons_zero, List.set_cons_succ]
            refine AnyT.ld 1 66 ?_ _ rfl rfl (by kernel_rfl) (fun _ _ _ h => h) HS0.out rfl ?_ ?_
            rotate_left
            focus (intro w' hSw; have hs := HSI.out w' hSw; go_split_ands; go_simp; try (first | exact rfl | omega | go_num | (intro hbd; exfalso; omega)))
            simp only [Act.put, List.setIfInBounds_toArray, List.set_cons_zero, List.set_cons_succ]
            refine AnyT.ld 2 67 ?_ _ rfl rfl (by kernel_rfl) (fun _ _ _ h => h) HS0.out rfl ?_ ?_
            rotate_left
            focus (intro w' hSw; have hs := HSI.out w' hSw; go_split_ands; go_simp; try (first | exact rfl | omega | go_num | (intro hbd; exfalso; omega)))
            simp only [Act.put, List.setIfInBounds_toArray, List.set_cons_zero, List.set_cons_succ]
            refine AnyT.ld 3 68 ?_ _ rfl rfl (by kernel_rfl) (fun _ _ _ h => h) HS0.out rfl ?_ ?_
            rotate_left
            focus (intro w' hSw; have hs := HSI.out w' hSw; go_split_ands; go_simp; try (first | exact rfl | omega | go_num | (intro hbd; exfalso; omega)))
            simp only [Act.put, List.setIfInBounds_toArray, List.set_cons_zero, List.set_cons_succ]
            refine AnyT.ld 4 69 ?_ _ rfl rfl (by kernel_rfl) (fun _ _ _ h => h) HS0.out rfl ?_ ?_
            rotate_left
            focus (intro w' hSw; have hs := HSI.out w' hSw; go_split_ands; go_simp; try (first | exact rfl | omega | go_num | (intro hbd; exfalso; omega)))
            simp only [Act.put, List.setIfInBounds_toArray, List.set_cons_zero, List.set_cons_succ]
            refine AnyT.ld 5 70 ?_ _ rfl rfl (by kernel_rfl) (fun _ _ _ h => h) HS0.out rfl ?_ ?_
            rotate_left
            focus (intro w' hSw; have hs := HSI.out w' hSw; go_split_ands; go_simp; try (first | exact rfl | omega | go_num | (intro hbd; exfalso; omega)))
            simp only [Act.put, List.setIfInBounds_toArray, List.set_cons_zero, List.set_cons_succ]
            refine AnyT.ld 6 71 ?_ _ rfl rfl (by kernel_rfl) (fun _ _ _ h => h) HS0.out rfl ?_ ?_
            rotate_left
            focus (intro w' hSw; have hs := HSI.out w' hSw; go_split_ands; go_simp; try (first | exact rfl | omega | go_num | (intro hbd; exfalso; omega)))
            simp only [Act.put, List.setIfInBounds_toArray, List.set_cons_zero, List.set_cons_succ]
            refine AnyT.ld 7 72 ?_ _ rfl rfl (by kernel_rfl) (fun _ _ _ h => h) HS0.out rfl ?_ ?_
            rotate_left
            focus (intro w' hSw; have hs := HSI.out w' hSw; go_split_ands; go_simp; try (first | exact rfl | omega | go_num | (intro hbd; exfalso; omega)))
            simp only [Act.put, List.setIfInBounds_toArray, List.set_cons_zero, List.set_cons_succ]
            refine AnyT.ld 9 74 ?_ _ rfl rfl (by kernel_rfl) (fun _ _ _ h => h) HS0.out rfl ?_ ?_
            rotate_left
            focus (intro w' hSw; have hs := HSI.out w' hSw; go_split_ands; go_simp; try (first | exact rfl | omega | go_num | (intro hbd; exfalso; omega)))
            simp only [Act.put, List.setIfInBounds_toArray, List.set_cons_zero, List.set_cons_succ]
            refine AnyT.step 8 (by kernel_rfl) ?_
            intro o ho K hK
            simp only [List.getElem?_toArray, List.getElem?_cons_succ, List.getElem?_cons_zero, Option.some.injEq] at ho
            subst ho
            go_simp
            refine (CT.out wd (TL.ext HT7.out HXd.out) (by omega)).mono ?_
            rintro e8 w8 ⟨A8, c8, rfl, hT8, hx8⟩
            have HXd8 := Lib.hid (HXd.out.trans hx8)
            have HS8 := Lib.hid (HSE.out _ (BY7.out.ext HXd8.out) (HB7.out.ext HXd8.out))
            have HT8 := Lib.hid hT8
            refine hK.out _ _ (fun _ => HS8.out) ?_
            clear hK hx8 hT8 HS0 CT HXd
            have HS0 := HS8
            clear HS8
            refine AnyT.ld 10 75 ?_ _ rfl rfl (by kernel_rfl) (fun _ _ _ h => h) HS0.out rfl ?_ ?_
            rotate_left
            focus (intro w' hSw; have hs := HSI.out w' hSw; go_split_ands; go_simp; try (first | exact rfl | omega | go_num | (intro hbd; exfalso; omega)))
            simp only [Act.put, List.setIfInBounds_toArray, List.set_cons_zero, List.set_cons_succ]
            refine AnyT.step 11 (by kernel_rfl) ?_
            intro o ho K hK
            simp only [List.getElem?_toArray, List.getElem?_cons_succ, List.getElem?_cons_zero, Option.some.injEq] at ho
            subst ho
            go_simp
            refine hK.out _ _ (fun _ => HSE.out _ (BY7.out.ext (HXd8.out.alloc _)) (HB7.out.ext (HXd8.out.alloc _))) ?_
            refine box1 (P := fun W => AnyT _ _ _ _ _ _ _ _ _ W) fun WZ HXZ BZ => ?_
            have HSZ := Lib.hid (HXd8.out.trans HXZ.out)
            have BYZ := Lib.hid (BY7.out.ext HSZ.out)
            have HBZ := Lib.hid (HB7.out.ext HSZ.out)
            have HOZ := Lib.hid (HO7.out.ext RwR.stab HSZ.out)
            have HYZ := Lib.hid (HY7.out.trans (Only.of_ext HSZ.out))
            have HTZ := Lib.hid (TL.ext HT8.out HXZ.out)
            clear hK HXZ HB7 HO7 HY7 HT7 HT8 BY7
            obtain ⟨_, _, xsO, ee, _, _, HRo, HCo⟩ := HOZ.out.parts
            injection ee with ee1 _ ee2
            subst ee1 ee2
            have hwz : w4.heap.size ≤ WZ.heap.size := HYZ.out.size
            have hbt : (o.length + 1) * 32 ≤ 140737488355328 := by omega
            refine AnyT.step 12 (by kernel_rfl) ?_
            intro oo hoo K hK
            simp only [List.getElem?_toArray, List.getElem?_cons_succ, List.getElem?_cons_zero, Option.some.injEq] at hoo
            subst hoo
            refine if_go rfl ?_
            refine wp_appB _ _ tRows rfl w4.heap.size row_slice _ _ _ rfl HRo.out _ [.slice A8 yv.length c8, .int .i64 nW] BZ.out 1 1 rfl rfl rfl hbt hwz ?_
            intro v' w12 ho12 hg12 _
            obtain ⟨A12, c12, rfl, _, _, _⟩ := own_parts ho12
            have O12 := Lib.hid (OwnL.snoc (R := RwR) (x := (yv, nW)) RwR.stab (fun u hu => by rw [List.mem_singleton.1 hu]; decide) HRo.out HCo.out ⟨A8, c8, rfl, HTZ.out⟩ ho12 hg12)
            have HB12 := Lib.hid (blkG HBZ.out HRo.out hg12 hbr)
            have HY12 := Lib.hid (HYZ.out.grown HRo.out hg12)
            have BY12 : Hid (Blk w12 by6 tRow [.slice Bk yv.length dk, .int .i64 yw]) := (hg12.block by6 BYZ.out.lt (by
              rcases hvb with h | ⟨gv, h, hlt⟩
              · rw [h]; intro h2; cases h2
              · rw [h]; intro h2; injection h2 with h2; simp only at h2; omega)).trans BYZ.out
            clear ho12 hg12
            simp only [Act.put, List.setIfInBounds_toArray, List.set_cons_zero, List.set_cons_succ]
            refine hK.out _ _ (fun _ => HSE.out _ BY12.out HB12.out) ?_
            clear hK HS0 HSZ HBZ HOZ HYZ HTZ BZ HRo HCo BYZ BY12
            refine AnyT.step 13 (by kernel_rfl) ?_
            intro o ho K hK
            simp only [List.getElem?_toArray, List.getElem?_cons_succ, List.getElem?_cons_zero, Option.some.injEq] at ho
            subst ho
            go_simp
            refine hK.out _ _ (fun h => by cases h) ?_
            clear hK
            have hzk3 : (zs.set k (Value.slice Av o.length cv))[k]? = some (.slice Av o.length cv) := hzk2
            have hc12 := HB12.out.cell hzk3
            have hf12 := HB12.out.frozen k
            obtain ⟨W14, hW14, B14, K14, N14⟩ := put1 (i := k) HB12.out (.slice A12 (o.length + 1) c12)
            have HW14 := Lib.hid hW14
            clear hW14
            refine AnyT.step 14 (by kernel_rfl) ?_
            intro o ho K hK
            simp only [List.getElem?_toArray, List.getElem?_cons_succ, List.getElem?_cons_zero, Option.some.injEq] at ho
            subst ho
            go_simp
            refine hK.out _ _ (fun h => by cases h) ?_
            rw [HW14.out]
            refine AnyT.done (by kernel_rfl) ?_
            have O14 := Lib.hid (O12.out.only RwR.stab N14.out hbr (fun u hu => by rw [List.mem_singleton.1 hu]; exact K14.out _ (by decide)))
            have B14' : Hid (Blk W14 bo tRows (zs.set k (.slice A12 (o.length + 1) c12))) := by
              have h := B14.out
              rw [List.set_set] at h
              exact h
            have HY14 := Lib.hid (HY12.out.trans N14.out)
            clear HSI HSE hK hc12 hf12 HW14 O12 HB12 HY12 B14 K14 N14 hzk2 hzk3
            go_wp2_with fail
            go_roundw
            case rel => exact ⟨j + 1, _, by omega, by go_num, B14', by rw [HSU.out]; exact O14, HY14⟩
            case measure => simp [RowKit.intOf]; omega
          · rw [if_neg hp] at HSU
            have hd : decide (nW > 0) = false := decide_eq_false hp
            go_wp2_with fail
            go_roundw
            case rel => exact ⟨j + 1, _, by omega, by go_num, HB7, by rw [HSU.out]; exact HO7, HY7⟩
            case measure => simp [RowKit.intOf]; omega
        · have hje : j = l.length := by omega
          have d1 : decide ((j : Int) < (l.length : Int)) = false := decide_eq_false (by omega)
          have HRf : Hid (rsK seed tree D (k + 1) = rsK seed tree D k ++ [rsN seed tree k l j]) := by rw [hje]; exact HRS
          clear hje
          have HXn : Hid (Ext w1 wr) := HXr.out.only HY5.out (by rw [hbo]; exact Nat.le_refl _)
          have HLn : Hid ((zs.set k (.slice Av (rsN seed tree k l j).length cv)).length = N) := by rw [Hid, List.length_set]; exact HZL.out
          have HDn : Hid ((zs.set k (.slice Av (rsN seed tree k l j).length cv)).drop (k + 1) = List.replicate (N - (k + 1)) (.slice none 0 0)) := by
            rw [Hid, drop_set, ← List.drop_drop, HZD.out, List.drop_replicate]
            congr 1
          have HCn : Hid (Ch (TbR wr) ((zs.set k (.slice Av (rsN seed tree k l j).length cv)).take (k + 1)) (rsK seed tree D (k + 1))) := by
            rw [Hid, take_set hzk, HRf.out]
            refine Ch.append (m := [rsN seed tree k l j]) ⟨_, [], rfl, ⟨Av, cv, rfl, HO5.out.ls⟩, rfl⟩ (HC4.out.mono fun c x hx => TbR.stab _ _ _ _ (fun u hu => ?_) hx)
            rcases List.mem_cons.1 hu with rfl | hu
            · exact HY5.out.keptB HB4.out (by decide)
            · rw [List.mem_singleton.1 hu]; exact HY5.out.keptB HB4.out (by decide)
          clear HO5 HY5 HC4 HB4 HRf HZL HZD
          go_wp2_with fail
          go_roundw
          case rel => exact ⟨k + 1, _, by omega, by go_num, HLn, HDn, HB5, HCn, HXn⟩
          case measure => simp [RowKit.intOf]; omega
    · have hkn : k = N := by omega
      have d1 : decide ((k : Int) < (N : Int)) = false := decide_eq_false (by omega)
      have HF : Hid (Ch (TbR wr) zs (rsK seed tree D N)) := by
        have h := HCh.out
        rw [hkn, List.take_of_length_le (by rw [HZL.out]; exact Nat.le_refl _)] at h
        exact h
      have HLs : Hid (DbL wr (.slice (some ⟨bo, 0, none⟩) N N) (rsK seed tree D N)) := by
        have h := Ls.of_blk HB.out HF.out (by rw [rsK_length]; omega)
        rw [rsK_length] at h
        exact h
      clear hkn HCh HF
      go_wp2_with fail
      go_ret2
      exact ⟨_, N, rfl, HLs.out, HX1.out.trans HXr.out⟩
end Go.Proofs.YthalpbjkkfkheaaGreatDoor
