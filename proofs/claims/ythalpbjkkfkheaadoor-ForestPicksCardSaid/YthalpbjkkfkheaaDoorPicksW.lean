/- joinlearnlaw26.ForestPicks, walked. -/
import Derived.Test.YthalpbjkkfkheaaDoorChkR
import Derived.Test.YthalpbjkkfkheaaDoorMkSch
namespace Go.Proofs.YthalpbjkkfkheaaDoor
open Go.RowKit Go.Lib

theorem upto_nodup (n : Nat) : (upto n).Nodup := by
  unfold upto List.Nodup
  rw [List.pairwise_map]
  exact List.nodup_range.imp fun h e => h (Int.ofNat.inj e)
theorem pickF_mem {seed tree z : Int} {n many : Nat} : z ∈ pickF seed tree n many ↔ z ∈ (ordF seed tree n).take many := by
  unfold pickF
  rw [List.mem_mergeSort]
theorem pickF_range {seed tree : Int} {n many : Nat} : ∀ f ∈ pickF seed tree n many, 0 ≤ f ∧ f < n := fun _ hf =>
  upto_mem.1 ((ordF_perm seed tree n).mem_iff.1 (List.mem_of_mem_take (pickF_mem.1 hf)))
theorem pickF_nodup (seed tree : Int) (n many : Nat) : (pickF seed tree n many).Nodup := by
  unfold pickF
  refine (List.mergeSort_perm _ _).nodup_iff.2 ?_
  exact ((ordF_perm seed tree n).nodup_iff.2 (upto_nodup n)).sublist (List.take_sublist _ _)
theorem pickF_more {seed tree : Int} {n many : Nat} : ∀ f ∈ pickF seed tree n many, f ∈ pickF seed tree n (many + 1) := fun _ hf =>
  pickF_mem.2 ((List.take_sublist_take_left (Nat.le_succ many)).subset (pickF_mem.1 hf))
theorem fsF_mem {fs : List Fe} {l : List Int} {f : Fe} (h : f ∈ fsF fs l) : f ∈ fs := by
  obtain ⟨k, -, hk⟩ := List.mem_filterMap.1 h
  split at hk
  · exact List.mem_of_getElem? hk
  · cases hk
theorem keepF_ok {x : Sch} {l : List Int} (ok : SchOk x) (hl : l.Nodup) (hr : ∀ f ∈ l, 0 ≤ f ∧ f < x.feats.length) (h8 : l.length ≤ 8) : SchOk (keepF x l) := by
  refine ⟨ok.a1, ok.a12, ok.r1, ok.r6, ?_, ok.aw, ok.ad, ok.ak, ok.rw', ok.rd, ok.rn, ok.ri, ok.ra, ok.used, fun f hf => ok.fo f (fsF_mem hf), ?_, fun f hf => ok.fl f (fsF_mem hf), ok.lb, ok.lk⟩
  · show (fsF x.feats l).length ≤ 8
    rw [fsF_length hr]
    exact h8
  · refine List.Pairwise.filterMap (R := fun a b : Int => a ≠ b) _ (fun a a' hne b hb b' hb' => ?_) hl
    split at hb
    · split at hb'
      · rename_i h0 h0'
        obtain ⟨i1, e1⟩ := List.getElem?_eq_some_iff.1 hb
        obtain ⟨i2, e2⟩ := List.getElem?_eq_some_iff.1 hb'
        rcases Nat.lt_trichotomy a.toNat a'.toNat with h | h | h
        · rw [← e1, ← e2]
          exact List.pairwise_iff_getElem.1 ok.fd _ _ i1 i2 h
        · omega
        · rw [← e1, ← e2]
          exact fun e => List.pairwise_iff_getElem.1 ok.fd _ _ i2 i1 h e.symm
      · cases hb'
    · cases hb
set_option maxRecDepth 100000 in
theorem rin_any (A : Option Addr) (n c : Nat) (l : List Int) (z : Int) (w : World) (h : IL w (.slice A n c) l) (hz : z ∈ l) (_hl : l.length ≤ 100) :
    Calls Tryd.prog 28 #[.slice A n c, .int .i64 z] w fun e w' => e = .returned (.bool true) ∧ Ext w w' := by
  obtain ⟨hn, hnc, hcm⟩ := cap_le h
  subst hn
  have HL := Lib.hid h
  have HZ := Lib.hid hz
  have HT0 : Hid (z ∉ l.take 0) := by simp [Hid]
  clear h hz
  go_enter Tryd.func28, Tryd.ntmps28
  go_wp2_with fail
  go_loopw [6, 9] (fun _ v9 wr => ∃ i : Nat, i ≤ l.length ∧ v9 = .int .i64 i ∧ Hid (z ∉ l.take i) ∧ Hid (Ext w wr)) (fun _ v9 _ => l.length - (RowKit.intOf v9).toNat)
  case atStart => exact ⟨0, Nat.zero_le _, rfl, HT0, Ext.refl _⟩
  case round =>
    obtain ⟨i, hi, rfl, HT, HX⟩ := hrel
    by_cases hil : i < l.length
    · obtain ⟨g, o, rfl, _, hc⟩ := IL.get (IL.ext HL.out HX.out) hil
      have HN : Hid (l[i] ≠ z → z ∉ l.take (i + 1)) := fun hne hm => by
        rw [List.take_succ_eq_append_getElem hil] at hm
        rcases List.mem_append.1 hm with hm | hm
        · exact HT.out hm
        · exact hne (List.mem_singleton.1 hm).symm
      generalize l[i] = y at *
      by_cases hy : y = z
      · subst hy
        go_wp2
        go_ret
        exact ⟨rfl, HX.out⟩
      · have hb : (y == z) = false := by rw [beq_eq_false_iff_ne]; exact hy
        have HN1 := Lib.hid (HN.out hy)
        go_wp2
        go_roundw
        case rel => exact ⟨i + 1, by omega, by go_num, HN1, HX⟩
        case measure => simp [RowKit.intOf]; omega
    · obtain rfl : i = l.length := by omega
      exact absurd HZ.out (by have := HT.out; rwa [List.take_length] at this)
set_option maxRecDepth 100000 in
theorem min_any (A : Option Addr) (n c : Nat) (l : List Int) (z : Int) (w : World) (h : IL w (.slice A n c) l) (hz : z ∈ l) (hl : l.length ≤ 100) :
    Calls Tryd.prog 12 #[.slice A n c, .int .i64 z] w fun e w' => e = .returned (.bool true) ∧ Ext w w' := by
  have RI := Lib.hid (rin_any A n c l z w h hz hl)
  clear h hz hl
  go_enter Tryd.func12, Tryd.ntmps12
  go_wp2_with fail
  refine RI.out.mono ?_
  rintro e w1 ⟨rfl, hx⟩
  go_wp2
  go_ret
  exact ⟨rfl, hx⟩
set_option maxRecDepth 100000 in
set_option maxHeartbeats 8000000 in
theorem picks_walk (t : TypeId) (A : Option Addr) (zs : List Int) (c : Nat) (w : World) (hc : zs.length ≤ c) (hm : c ≤ 9223372036854775807) (hs : Sl w t A (zcells zs)) (hz : ∀ z ∈ zs, -9223372036854775808 ≤ z ∧ z ≤ 9223372036854775807) (ht : Tab w) :
    Calls Tryd.prog 3 #[.slice A zs.length c] w fun e w' => e = .returned (.bool true) ∧ Ext w w' := by
  have HS := Lib.hid hs
  have HZ := Lib.hid hz
  have HT := Lib.hid ht
  clear hs hz ht
  go_enter Tryd.func3, Tryd.ntmps3
  go_wp2_with fail
  refine (light_any A zs.length c w (by omega)).mono ?_
  rintro e w0 ⟨rfl, rfl⟩
  by_cases hl : zs.length ≤ 600
  · have hd : decide (zs.length ≤ 600) = true := decide_eq_true hl
    rw [hd]
    go_wp2_with fail
    refine (mnew_any t A zs c w hc hm hl HS.out HZ.out).mono ?_
    rintro e w1 ⟨rfl, hsrc1, hx1⟩
    clear hd
    go_wp2_with fail
    refine (mschema_any w.heap.size 6 w1 hsrc1 (by decide) (by decide)).mono ?_
    rintro e w2 ⟨x, v, hok, -, -, rfl, hsv, hs2, ho2⟩
    have HX2 := Lib.hid (hx1.only ho2 (Nat.le_refl _))
    have HOK := Lib.hid hok
    have f8 := hok.f8
    have HSV := Lib.hid hsv
    obtain ⟨As, cs, Bs_, ds, Ds, es, hve, -, -, hfe⟩ := hsv
    obtain ⟨-, hes, hes2⟩ := cap_le hfe
    subst hve
    clear hx1 ho2 hsrc1 hl hok hfe
    go_upto_region 5 with fail
    refine box1 (P := fun W => Code.wp _ _ _ _ W) fun W3 HX3 BX => ?_
    have HS3 := Lib.hid (hs2.ext HX3.out)
    have HXX := Lib.hid (HX2.out.trans HX3.out)
    have HSV3 := Lib.hid (HSV.out.ext HX3.out)
    have hgw : w.heap.size < w2.heap.size := hs2.lt
    clear HX3 HX2 hs2 HSV
    go_wp2_with fail
    refine (n_any w.heap.size 1000 W3 HS3.out (by decide) (by decide)).mono ?_
    rintro e w4 ⟨seed, hseed, rfl, hs4, ho4⟩
    have HX4 := Lib.hid (HXX.out.only ho4 (Nat.le_refl _))
    have BX4 := Lib.hid (BX.out.only ho4 (by omega))
    have SV4 := Lib.hid (HSV3.out.kept (Src.keptA HS3.out ho4) (by decide) (by decide) (by decide) (by decide))
    clear ho4 HXX BX HSV3 HS3
    go_wp2_with fail
    refine (n_any w.heap.size 8 w4 hs4 (by decide) (by decide)).mono ?_
    rintro e w5 ⟨tree, htree, rfl, hs5, ho5⟩
    have HX5 := Lib.hid (HX4.out.only ho5 (Nat.le_refl _))
    have BX5 := Lib.hid (BX4.out.only ho5 (by omega))
    have SV5 := Lib.hid (SV4.out.kept (Src.keptA hs4 ho5) (by decide) (by decide) (by decide) (by decide))
    clear ho5 HX4 BX4 SV4 hs4 hs5
    obtain ⟨n, hn⟩ : ∃ n, x.feats.length = n := ⟨_, rfl⟩
    have HN := Lib.hid hn
    rw [hn] at SV5 BX5 f8 hes
    clear hn
    have HP := Lib.hid (fun (many : Nat) (hm : many ≤ 1000) (w' : World) (h : SchV w' (.agg #[.slice As x.atts.length cs, .slice Bs_ x.rels.length ds, .slice Ds n es, .int .i64 x.label]) x) (ht : Tab w') => pick_any _ x (seed : Int) (tree : Int) many w' h HOK.out ⟨by omega, by omega⟩ ⟨by omega, by omega⟩ hm ht)
    rw [HN.out] at HP
    have HL := Lib.hid (fun many => pickF_length (seed : Int) (tree : Int) n many)
    have HRG := Lib.hid (fun many => pickF_range (seed := (seed : Int)) (tree := (tree : Int)) (n := n) (many := many))
    have HND := Lib.hid (fun many => pickF_nodup (seed : Int) (tree : Int) n many)
    have HMO := Lib.hid (fun many => pickF_more (seed := (seed : Int)) (tree := (tree : Int)) (n := n) (many := many))
    generalize pickF (seed : Int) (tree : Int) n = pk at *
    have HNL : Hid (∀ f ∈ ([] : List Int), f ∈ pk 0) := fun f hf => by cases hf
    have HIL : Hid (IL w5 (.slice none 0 0) []) := Ls.nil
    go_wp2_with fail
    go_loopw [7, 8, 9, 11] (fun v7 v8 _ _ wr => ∃ (many : Nat) (lb : List Int) (m1 : Nat) (A1 : Option Addr) (c1 : Nat), many ≤ n + 2 ∧ v8 = .int .i64 many ∧ v7 = .slice A1 m1 c1 ∧ Hid (IL wr (.slice A1 m1 c1) lb) ∧ Hid (∀ f ∈ lb, f ∈ pk many) ∧ Hid (Ext w5 wr)) (fun _ v8 _ _ _ => n + 2 - (RowKit.intOf v8).toNat)
    case atStart => exact ⟨0, [], 0, none, 0, by omega, rfl, rfl, HIL, HNL, Ext.refl _⟩
    case round =>
      clear HNL HIL
      obtain ⟨many, lb, m1, A1, c1, hmn, rfl, rfl, HIL, HSB, HXr⟩ := hrel
      have BXr := Lib.hid (BX5.out.ext HXr.out)
      have SVr := Lib.hid (SV5.out.ext HXr.out)
      obtain ⟨s0, s1, s2, s3⟩ := BXr.out.four
      by_cases hle : many ≤ n + 1
      · have hd1 : decide ((many : Int) ≤ (n : Int) + 1) = true := decide_eq_true (by omega)
        have PC := Lib.hid (HP.out many (by omega) wr SVr.out (HT.out.ext (HX5.out.trans HXr.out)))
        go_wp2_with fail
        refine PC.out.mono ?_
        rintro e w6 ⟨A2, c2, rfl, hil2, hx6⟩
        obtain ⟨q, hq⟩ : ∃ q, min many n = q := ⟨_, rfl⟩
        have hmin : min (many : Int) (n : Int) = (q : Int) := by omega
        have hqn : q ≤ n := by omega
        have hpl : (pk many).length = q := by rw [HL.out many, hq]
        rw [hq] at hil2 ⊢
        clear hq
        have HPL := Lib.hid hpl
        have HX6 := Lib.hid (HXr.out.trans hx6)
        have BX6 := Lib.hid (BXr.out.ext hx6)
        have SV6 := Lib.hid (SVr.out.ext hx6)
        have HI6 := Lib.hid hil2
        have HIB := Lib.hid (IL.ext HIL.out hx6)
        have HRGM : Hid (∀ f ∈ pk many, 0 ≤ f ∧ f < (x.feats.length : Int)) := by rw [HN.out]; exact HRG.out many
        have KC := Lib.hid (fun w' hx => keep_any _ x A2 q c2 (pk many) w' (SV6.out.ext hx) HOK.out (IL.ext HI6.out hx) (by rw [HPL.out]; omega) HRGM.out)
        have HOK2 := Lib.hid (keepF_ok HOK.out (HND.out many) HRGM.out (by rw [HPL.out]; omega))
        clear hil2 hx6 hpl s0 s1 s2 s3 PC HIL BXr SVr
        obtain ⟨s0, s1, s2, s3⟩ := BX6.out.four
        go_wp2_with fail
        refine (KC.out _ (Ext.refl _)).mono ?_
        rintro e w7 ⟨u, rfl, hsu, hx7⟩
        have HX7 := Lib.hid (HX6.out.trans hx7)
        go_wp2_with fail
        refine (rcheck_any u _ w7 hsu HOK2.out).mono ?_
        rintro e w8 ⟨rfl, hx8⟩
        have HX8 := Lib.hid (HX7.out.trans hx8)
        have HI8 := Lib.hid (IL.ext HI6.out (hx7.trans hx8))
        have HB8 := Lib.hid (IL.ext HIB.out (hx7.trans hx8))
        obtain ⟨hm1, hmc, hmc2⟩ := cap_le HIB.out
        have HM1 := Lib.hid hm1
        clear hsu hx7 hx8 HX7 HX6 BX6 SV6 HI6 HIB KC s0 s1 s2 s3 hm1
        go_wp2_with fail
        go_loopw [11, 54] (fun _ v54 wr => ∃ j : Nat, j ≤ m1 ∧ v54 = .int .i64 j ∧ Hid (Ext w8 wr)) (fun _ v54 _ => m1 - (RowKit.intOf v54).toNat)
        case atStart => exact ⟨0, Nat.zero_le _, rfl, Ext.refl _⟩
        case round =>
          obtain ⟨j, hj, rfl, HXj⟩ := hrel
          by_cases hjm : j < m1
          · have hjl : j < lb.length := by rw [← HM1.out]; exact hjm
            obtain ⟨g, o, rfl, _, hc⟩ := IL.get (IL.ext HB8.out HXj.out) hjl
            have hmem := HSB.out _ (List.getElem_mem hjl)
            generalize lb[j] = z at *
            clear hjl
            have IC := Lib.hid (min_any A2 q c2 (pk many) z wr (IL.ext HI8.out HXj.out) hmem (by rw [HPL.out]; omega))
            clear hmem
            go_wp2_with fail
            refine IC.out.mono ?_
            rintro e w9 ⟨rfl, hx9⟩
            have HX9 := Lib.hid (HXj.out.trans hx9)
            go_wp2_with fail
            go_roundw
            case rel => exact ⟨j + 1, by omega, by go_num, HX9⟩
            case measure => simp [RowKit.intOf]; omega
          · have hjd : decide (j < m1) = false := decide_eq_false hjm
            have HX9 := Lib.hid (HX8.out.trans HXj.out)
            have HI9 := Lib.hid (IL.ext HI8.out HXj.out)
            have HM9 := Lib.hid (fun f hf => HMO.out many f hf)
            go_wp2_with fail
            go_roundw
            case rel => exact ⟨many + 1, pk many, q, A2, c2, by omega, by go_num, rfl, HI9, HM9, HX9⟩
            case measure => simp [RowKit.intOf]; omega
      · have hd1 : decide ((many : Int) ≤ (n : Int) + 1) = false := decide_eq_false (by omega)
        have SNE := Lib.hid (sane_any wr (HT.out.ext (HX5.out.trans HXr.out)))
        go_wp2_with fail
        refine SNE.out.mono ?_
        rintro e w9 ⟨rfl, hx9⟩
        go_wp2
        go_ret
        exact ⟨rfl, (HX5.out.trans HXr.out).trans hx9⟩
  · have hd : decide (zs.length ≤ 600) = false := decide_eq_false hl
    rw [hd]
    go_wp2_with fail
    refine (sane_any w HT.out).mono ?_
    rintro e w1 ⟨rfl, hx1⟩
    go_wp2
    go_ret
    exact ⟨rfl, hx1⟩
end Go.Proofs.YthalpbjkkfkheaaDoor
