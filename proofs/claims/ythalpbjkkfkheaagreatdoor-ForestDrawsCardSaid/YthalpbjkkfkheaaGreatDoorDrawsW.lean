/- The law ForestDraws walked. -/
import Derived.Test.YthalpbjkkfkheaaGreatDoorResW
namespace Go.Proofs.YthalpbjkkfkheaaGreatDoor
open Go.RowKit Go.Lib

theorem rsN_at {seed tree : Int} {i : Nat} {l : List Rw} {j : Nat} (h : j < l.length) (hp : 0 < rsW seed tree i l[j]) :
    (rsN seed tree i l l.length)[(rsN seed tree i l j).length]? = some (l[j].1, rsW seed tree i l[j]) := by
  have e : rsN seed tree i l l.length = rsN seed tree i l j ++ (l.drop j).filterMap (fun y => if 0 < rsW seed tree i y then some (y.1, rsW seed tree i y) else none) := by
    unfold rsN
    rw [List.take_length, ← List.filterMap_append, List.take_append_drop]
  rw [e, List.getElem?_append_right (Nat.le_refl _), Nat.sub_self, List.drop_eq_getElem_cons h, List.filterMap_cons_some (b := (l[j].1, rsW seed tree i l[j])) (by rw [if_pos hp])]
  rfl
set_option maxRecDepth 100000 in
set_option maxHeartbeats 8000000 in
theorem draws_walk (t : TypeId) (A : Option Addr) (zs : List Int) (c : Nat) (w : World) (hc : zs.length ≤ c) (hm : c ≤ 9223372036854775807) (hs : Sl w t A (zcells zs)) (hz : ∀ z ∈ zs, -9223372036854775808 ≤ z ∧ z ≤ 9223372036854775807) (ht : Tab w) :
    Calls Tryz.prog 3 #[.slice A zs.length c] w fun e w' => e = .returned (.bool true) ∧ Ext w w' := by
  have HS := Lib.hid hs
  have HZ := Lib.hid hz
  have HT := Lib.hid ht
  clear hs hz ht
  go_enter Tryz.func3, Tryz.ntmps3
  go_wp2_with fail
  refine (light_any A zs.length c w (by omega)).mono ?_
  rintro e w0 ⟨rfl, rfl⟩
  by_cases hl : zs.length ≤ 600
  · have hd : decide (zs.length ≤ 600) = true := decide_eq_true hl
    rw [hd]
    go_wp2_with fail
    refine (mnew_any t A zs c w hc hm hl HS.out HZ.out).mono ?_
    rintro e w1 ⟨rfl, hsrc1, hx1⟩
    clear hd
    go_wp2_with fail
    refine (mschema_any w.heap.size 5 w1 hsrc1 (by decide) (by decide)).mono ?_
    rintro e w2 ⟨x, v, hok, -, -, rfl, hsv, hs2, ho2⟩
    have HX2 := Lib.hid (hx1.only ho2 (Nat.le_refl _))
    have HOK := Lib.hid hok
    have HSV := Lib.hid hsv
    obtain ⟨As, cs, Bs_, ds, Ds, es, hve, -, -, -⟩ := hsv
    subst hve
    clear hx1 ho2 hsrc1 hl hok
    go_upto_region 5 with fail
    refine box1 (P := fun W => Code.wp _ _ _ _ W) fun W3 HX3 BX => ?_
    have HS3 := Lib.hid (hs2.ext HX3.out)
    have HXX := Lib.hid (HX2.out.trans HX3.out)
    have HSV3 := Lib.hid (HSV.out.ext HX3.out)
    have hgw : w.heap.size < w2.heap.size := hs2.lt
    have hgw3 : w.heap.size < W3.heap.size := Nat.lt_of_lt_of_le hgw HX3.out.size
    have hbg : w2.heap.size ≠ w.heap.size := by omega
    clear HX3 HX2 hs2 HSV
    have MR := Lib.hid (mrich_any w.heap.size 6 _ x W3 HS3.out HSV3.out HOK.out (by decide) (by decide))
    obtain ⟨an, han⟩ : ∃ n, x.atts.length = n := ⟨_, rfl⟩
    obtain ⟨rn, hrn⟩ : ∃ n, x.rels.length = n := ⟨_, rfl⟩
    obtain ⟨fn, hfn⟩ : ∃ n, x.feats.length = n := ⟨_, rfl⟩
    have HRN := Lib.hid hrn
    rw [han, hfn] at MR HSV3 BX
    have MR := Lib.hid MR.out
    rw [hrn] at HSV3 BX
    rw [hrn] at MR
    clear han hrn hfn
    obtain ⟨s0, s1, s2, s3⟩ := BX.out.four
    go_wp2_with fail
    refine MR.out.mono ?_
    rintro e w4 ⟨D, u, hmade, rfl, hod, hs4, ho4⟩
    have HDB : Hid (DbOk x D) := MadeOk.db (by rw [HRN.out]; exact hmade) (by decide)
    have hD6 : D.length ≤ 6 := by have h1 := hmade.1; have h2 := HOK.out.r6; have h3 := HRN.out; omega
    obtain ⟨Ad, cd, xd, rfl, hcd, hcd2, _, _⟩ := hod.parts
    have HX4 := Lib.hid (HXX.out.only ho4 (Nat.le_refl _))
    have BX4 := Lib.hid (BX.out.only ho4 hbg)
    have SV4 := Lib.hid (HSV3.out.past HS3.out ho4)
    have OD4 := Lib.hid hod
    clear hod ho4 HXX BX HSV3 HS3 hmade MR s0 s1 s2 s3
    go_wp2_with fail
    refine (n_any w.heap.size 1000 w4 hs4 (by decide) (by decide)).mono ?_
    rintro e w5 ⟨seed, hseed, rfl, hs5, ho5⟩
    have HX5 := Lib.hid (HX4.out.only ho5 (Nat.le_refl _))
    have BX5 := Lib.hid (BX4.out.only ho5 hbg)
    have SV5 := Lib.hid (SV4.out.past hs4 ho5)
    have OD5 := Lib.hid (own_pastT OD4.out hs4 ho5 hgw3)
    clear ho5 HX4 BX4 SV4 OD4 hs4
    go_wp2_with fail
    refine (n_any w.heap.size 8 w5 hs5 (by decide) (by decide)).mono ?_
    rintro e w6 ⟨tree, htree, rfl, hs6, ho6⟩
    have HX6 := Lib.hid (HX5.out.only ho6 (Nat.le_refl _))
    have BX6 := Lib.hid (BX5.out.only ho6 hbg)
    have SV6 := Lib.hid (SV5.out.past hs5 ho6)
    have OD6 := Lib.hid (own_pastT OD5.out hs5 ho6 hgw3)
    have DL6 : Hid (DbL w6 (.slice Ad D.length cd) D) := OD6.out.ls
    have RS := Lib.hid (resample_any _ x Ad D.length cd D seed tree w6 SV6.out HOK.out DL6.out HDB.out (by omega) (by omega) (HT.out.ext HX6.out))
    clear ho6 HX5 BX5 SV5 OD5 OD6 hs5 hs6
    obtain ⟨s0, s1, s2, s3⟩ := BX6.out.four
    go_wp2_with fail
    refine RS.out.mono ?_
    rintro e w7 ⟨Ar, cr, rfl, hdr, hx7⟩
    have HX7 := Lib.hid (HX6.out.trans hx7)
    have BX7 := Lib.hid (BX6.out.ext hx7)
    have SV7 := Lib.hid (SV6.out.ext hx7)
    have DL7 := Lib.hid (DL6.out.ext hx7)
    have DR7 := Lib.hid hdr
    have HRL : Hid ((rsK (seed : Int) (tree : Int) D D.length).length = D.length) := rsK_length _ _ _ _
    have HRO := Lib.hid (rsK_ok (seed := (seed : Int)) (tree := (tree : Int)) HDB.out)
    have CK := Lib.hid (rdb_any _ x Ar D.length cr _ w7 SV7.out HOK.out DR7.out HRO.out)
    have HRG := Lib.hid (rsK_get (seed : Int) (tree : Int) D D.length)
    generalize rsK (seed : Int) (tree : Int) D D.length = R at *
    obtain ⟨-, hcr1, hcr2⟩ := cap_le DR7.out
    clear hdr hx7 RS HX6 BX6 SV6 DL6 s0 s1 s2 s3
    obtain ⟨s0, s1, s2, s3⟩ := BX7.out.four
    go_wp2_with fail
    refine CK.out.mono ?_
    rintro e w8 ⟨rfl, hx8⟩
    have HX8 := Lib.hid (HX7.out.trans hx8)
    have DL8 := Lib.hid (DL7.out.ext hx8)
    have DR8 := Lib.hid (DR7.out.ext hx8)
    clear hx8 CK HX7 BX7 SV7 DL7 DR7 s0 s1 s2 s3 HRO
    go_upto_region 10 with fail
    go_loopw [55] (fun v55 wr => ∃ k : Nat, k ≤ D.length ∧ v55 = .int .i64 k ∧ Hid (Ext w8 wr)) (fun v55 _ => D.length - (RowKit.intOf v55).toNat)
    case atStart => exact ⟨0, Nat.zero_le _, rfl, Ext.refl _⟩
    case round =>
      obtain ⟨k, hk, rfl, HXr⟩ := hrel
      generalize wr = wk at *
      by_cases hkD : k < D.length
      · obtain ⟨g0, o0, Ak, ck, hA0, hg0, HLk, hck⟩ := DbL.get (DL8.out.ext HXr.out) hkD
        subst hA0
        have hkr : k < x.rels.length := by rw [← HDB.out.1]; exact hkD
        have HTk := Lib.hid (HDB.out.2 k _ _ (List.getElem?_eq_getElem hkD) (List.getElem?_eq_getElem hkr))
        have hcl : (x.rels[k]).2.length ≤ 12 := by
          have hm := List.getElem_mem hkr
          rcases asc_len (k := 0) (n := x.atts.length) (HOK.out.ra _ hm) (HOK.out.ri _ hm) with h1 | h1
          · rw [h1]; simp
          · have := HOK.out.a12; omega
        have HGk : Hid (R[k]? = some (rsN seed tree k D[k] D[k].length)) := by
          have h := HRG.out k hkD
          rw [List.getElem?_eq_getElem hkD] at h
          exact h
        have hkR : k < R.length := by rw [HRL.out]; exact hkD
        have HRk : Hid (R[k] = rsN seed tree k D[k] D[k].length) := by
          have h := HGk.out
          rw [List.getElem?_eq_getElem hkR] at h
          injection h
        have hlen := HTk.out.len
        obtain ⟨hckl, hckm⟩ := (cap_le HLk.out).2
        generalize x.rels[k] = r at *
        generalize D[k] = l at *
        go_upto_region 14 with fail
        go_loopw [11, 63] (fun v11 v63 w2 => ∃ j : Nat, j ≤ l.length ∧ v63 = .int .i64 j ∧ v11 = .int .i64 ((rsN seed tree k l j).length : Nat) ∧ Hid (Ext wk w2)) (fun _ v63 _ => l.length - (RowKit.intOf v63).toNat)
        case atStart => exact ⟨0, Nat.zero_le _, rfl, rfl, Ext.refl _⟩
        case round =>
          obtain ⟨j, hj, rfl, rfl, HXj⟩ := hrel
          have HXw := Lib.hid (HXr.out.trans HXj.out)
          obtain ⟨g1, o1, A1, c1, hAr, hg1, HLR, hcR⟩ := DbL.get (DR8.out.ext HXw.out) hkR
          subst hAr
          by_cases hjl : j < l.length
          · obtain ⟨gl, ol, Bk, dk, hAk, hgl, hp1, hp2, HTy⟩ := RwL.get (HLk.out.ext HXj.out) hjl
            subst hAk
            have HVk := Lib.hid (HTk.out.val _ (List.getElem_mem hjl))
            obtain ⟨hw1, hw2⟩ := HTk.out.wt _ (List.getElem_mem hjl)
            have HSU := Lib.hid (rsN_succ (seed := (seed : Int)) (tree := (tree : Int)) (i := k) hjl)
            have HAT := Lib.hid (fun h => rsN_at (seed := (seed : Int)) (tree := (tree : Int)) (i := k) hjl h)
            have hrl := rsN_le seed tree k l j
            rw [← HRk.out] at HAT
            generalize l[j] = y at *
            generalize R[k] = Rk at *
            obtain ⟨yv, yw⟩ := y
            simp only at hp1 hp2 HTy HVk hw1 hw2 HSU HAT
            obtain ⟨hy12, hy60⟩ := rowval_short HVk.out hcl
            go_upto_region 16 with fail
            refine box1 (P := fun W => Code.wp _ _ _ _ W) fun W6 HX6 BY => ?_
            have HE6 := Lib.hid (HXj.out.trans HX6.out)
            have HT6 := Lib.hid (TL.ext HTy.out HX6.out)
            have HR6 := Lib.hid (HLR.out.ext HX6.out)
            have hcR6 := (HX6.out.cell (p := ⟨g1, o1 + k, none⟩) hg1).trans hcR
            have hg16 := Nat.lt_of_lt_of_le hg1 HX6.out.size
            have FD := Lib.hid (fdraw_any seed tree k Bk yv.length dk yv W6 ⟨by omega, by omega⟩ ⟨by omega, by omega⟩ ⟨by omega, by omega⟩ hy12 hy60 HT6.out (HT.out.ext ((HX8.out.trans HXr.out).trans HE6.out)))
            obtain ⟨hd0, hd2⟩ := drawT_bd seed tree k yv
            have HRW : Hid (rsW seed tree k (yv, yw) = min (yw * drawT seed tree k yv) 100) := rfl
            generalize drawT seed tree k yv = dd at *
            generalize rsW seed tree k (yv, yw) = nW at *
            obtain ⟨b0, b1⟩ := BY.out.two
            clear HX6 HTy hp1 hp2 hgl HLR hcR hg1
            go_wp2_with fail
            refine FD.out.mono ?_
            rintro e7 w7 ⟨rfl, hx7⟩
            have HE7 := Lib.hid (HE6.out.trans hx7)
            have HT7 := Lib.hid (TL.ext HT6.out hx7)
            have HR7 := Lib.hid (HR6.out.ext hx7)
            have BY7 := Lib.hid (BY.out.ext hx7)
            have hcR7 := (hx7.cell (p := ⟨g1, o1 + k, none⟩) hg16).trans hcR6
            clear b0 b1 HE6 HT6 HR6 BY hcR6 hx7 FD hg16
            by_cases hz : dd = 0
            · have hnW : ¬ 0 < nW := by
                have h := HRW.out
                rw [hz] at h
                simp at h
                omega
              rw [if_neg hnW] at HSU
              subst hz
              clear hnW HAT HRW
              go_wp2_with fail
              go_roundw
              case rel => exact ⟨j + 1, by omega, by go_num, by rw [HSU.out], HE7⟩
              case measure => simp [RowKit.intOf]; omega
            · have hmc : yw * dd = dd * yw := Int.mul_comm _ _
              have hpb : 1 ≤ dd * yw ∧ dd * yw ≤ 200 := by
                have hdd : dd = 1 ∨ dd = 2 := by omega
                rcases hdd with h | h
                · rw [h]; omega
                · rw [h]; omega
              have hnW : nW = min 100 (dd * yw) := by
                have h := HRW.out
                rw [hmc] at h
                omega
              have hp : 0 < nW := by omega
              rw [if_pos hp] at HSU
              have hat := HAT.out hp
              have hsl : (rsN seed tree k l (j + 1)).length = (rsN seed tree k l j).length + 1 := by rw [HSU.out]; simp
              have HSL := Lib.hid hsl
              clear hsl HAT HRW hmc hp HSU
              generalize (rsN seed tree k l j).length = n at *
              obtain ⟨hnl, hne⟩ := List.getElem?_eq_some_iff.1 hat
              obtain ⟨g2, o2, B2, d2, hA1, hg2, hq1, hq2, HT2⟩ := RwL.get HR7.out hnl
              rw [hne] at hq1 hq2 HT2
              simp only at hq1 hq2 HT2
              rw [hnW] at hq2
              subst hA1
              have HTX : Hid (∀ m, Calls Tryz.prog 13 #[.slice B2 yv.length d2, .slice Bk yv.length dk] (w7.drewN m) fun e w' => e = .returned (.bool true) ∧ ∃ q, w' = w7.drewN q) := fun m => by
                refine (rtexts_any _ _ _ _ _ _ yv yv _ (TL.ext HT2.out ((Ext.refl w7).drewN m)) (TL.ext HT7.out ((Ext.refl w7).drewN m))).mono ?_
                rintro e w' ⟨h1, q, rfl⟩
                rw [beq_self_eq_true] at h1
                exact ⟨h1, _, drewN_add _ _ _⟩
              obtain ⟨b0, b1⟩ := BY7.out.two
              have hwr : IntKind.i64.wrap (dd * yw) = dd * yw := by rw [IntKind.wrap_i64]; omega
              have c1 : decide (dd < 0) = false := decide_eq_false (by omega)
              have c2 : decide (dd > 2) = false := decide_eq_false (by omega)
              have c3 : (dd == 0) = false := by rw [beq_eq_false_iff_ne]; exact hz
              have c4 : decide (Rk.length ≤ n) = false := decide_eq_false (by omega)
              clear hnW hat hne hpb HT2 HT7 BY7
              go_upto_region 20 with fail
              go_quiet ((go_at_call 13; exact HTX.out _))
              go_wp2_with fail
              go_roundw
              case rel => exact ⟨j + 1, by omega, by go_num, by rw [HSL.out]; go_num, HE7.out.drewN _⟩
              case measure => simp [RowKit.intOf]; omega
          · have hje : j = l.length := by omega
            have d1 : decide ((j : Int) < (l.length : Int)) = false := decide_eq_false (by omega)
            rw [hje, ← HRk.out]
            have HFin := Lib.hid hje
            clear hje
            generalize R[k] = Rk at *
            go_wp2_with fail
            go_roundw
            case rel => exact ⟨k + 1, by omega, by go_num, HXw⟩
            case measure => simp [RowKit.intOf]; omega
      · have hkn : decide ((k : Int) < (D.length : Int)) = false := decide_eq_false (by omega)
        have SNE := Lib.hid (sane_any wk (HT.out.ext (HX8.out.trans HXr.out)))
        go_wp2_with fail
        refine SNE.out.mono ?_
        rintro e w9 ⟨rfl, hx9⟩
        go_wp2
        go_ret
        exact ⟨rfl, (HX8.out.trans HXr.out).trans hx9⟩
  · have hd : decide (zs.length ≤ 600) = false := decide_eq_false hl
    rw [hd]
    go_wp2_with fail
    refine (sane_any w HT.out).mono ?_
    rintro e w1 ⟨rfl, hx1⟩
    go_wp2
    go_ret
    exact ⟨rfl, hx1⟩
end Go.Proofs.YthalpbjkkfkheaaGreatDoor
