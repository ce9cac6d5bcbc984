/- joinlearnmake.Rich: a made database. -/
import Derived.Test.YthalpbjkkfkheaaGreatDoorSortW
namespace Go.Proofs.YthalpbjkkfkheaaGreatDoor
open Go.RowKit Go.Lib

/-- the kind of an attribute -/
def kd (x : Sch) (a : Int) : Int := (x.atts[a.toNat]?.getD ([], 1)).2
/-- the values of a row that has these attributes -/
def RowVal (x : Sch) (cs : List Int) (vs : List Txt) : Prop := vs.length = cs.length ∧ ∀ (i : Nat) (a : Int) (t : Txt), cs[i]? = some a → vs[i]? = some t → ValT (kd x a) t
theorem RowVal.nil {x : Sch} : RowVal x [] [] := ⟨rfl, fun i a t h => by simp at h⟩
theorem RowVal.snoc {x : Sch} {cs : List Int} {vs : List Txt} {a : Int} {t : Txt} (h : RowVal x cs vs) (ht : ValT (kd x a) t) : RowVal x (cs ++ [a]) (vs ++ [t]) := by
  refine ⟨by rw [List.length_append, List.length_append, h.1]; rfl, fun i b u h1 h2 => ?_⟩
  rcases Nat.lt_or_ge i cs.length with hi | hi
  · rw [List.getElem?_append_left hi] at h1
    rw [List.getElem?_append_left (by rw [h.1]; exact hi)] at h2
    exact h.2 i b u h1 h2
  · rw [List.getElem?_append_right hi] at h1
    rw [List.getElem?_append_right (by rw [h.1]; exact hi), h.1] at h2
    rcases hj : i - cs.length with _ | j
    · rw [hj] at h1 h2
      simp only [List.getElem?_cons_zero, Option.some.injEq] at h1 h2
      subst h1 h2
      exact ht
    · rw [hj] at h1
      simp at h1
/-- rows cs they are made -/
def RawOk (x : Sch) (cs : List Int) (m : Int) (l : List Rw) : Prop := ∀ y ∈ l, RowVal x cs y.1 ∧ 1 ≤ y.2 ∧ y.2 ≤ m
theorem RawOk.snoc {x : Sch} {cs : List Int} {m : Int} {l : List Rw} {y : Rw} (h : RawOk x cs m l) (h1 : RowVal x cs y.1) (h2 : 1 ≤ y.2) (h3 : y.2 ≤ m) : RawOk x cs m (l ++ [y]) := by
  intro z hz
  rcases List.mem_append.1 hz with hz | hz
  · exact h z hz
  · rw [List.mem_singleton.1 hz]; exact ⟨h1, h2, h3⟩
/-- the tables are made rows in order -/
def MadeOk (x : Sch) (most : Nat) (m : Int) (D : List (List Rw)) (i : Nat) : Prop := D.length = i ∧ ∀ (k : Nat) (t : List Rw) (r : Rl), D[k]? = some t → x.rels[k]? = some r → ∃ l : List Rw, l.length ≤ most ∧ RawOk x r.2 m l ∧ t = sortR l
theorem MadeOk.nil {x : Sch} {most : Nat} {m : Int} : MadeOk x most m [] 0 := ⟨rfl, fun k t r h => by simp at h⟩
theorem MadeOk.snoc {x : Sch} {most : Nat} {m : Int} {D : List (List Rw)} {i : Nat} {r : Rl} {l : List Rw} (h : MadeOk x most m D i) (hr : x.rels[i]? = some r) (h1 : l.length ≤ most) (h2 : RawOk x r.2 m l) : MadeOk x most m (D ++ [sortR l]) (i + 1) := by
  refine ⟨by rw [List.length_append, h.1]; rfl, fun k t q h3 h4 => ?_⟩
  rcases Nat.lt_or_ge k D.length with hk | hk
  · rw [List.getElem?_append_left hk] at h3
    exact h.2 k t q h3 h4
  · rw [List.getElem?_append_right hk] at h3
    rcases hj : k - D.length with _ | j
    · rw [hj] at h3
      simp only [List.getElem?_cons_zero, Option.some.injEq] at h3
      have hki : k = i := by have := h.1; omega
      subst hki h3
      rw [hr] at h4
      injection h4 with h4
      subst h4
      exact ⟨l, h1, h2, rfl⟩
    · rw [hj] at h3
      simp at h3
section
variable {w w' : World} {g : Nat} {v : Value}
theorem SchV.past {x : Sch} (h : SchV w v x) (hs : SrcAt w g) (ho : Only g w w') : SchV w' v x := h.kept (Src.keptA hs ho) (by decide) (by decide) (by decide) (by decide)
theorem RlL.past {l : List Rl} (h : RlL w v l) (hs : SrcAt w g) (ho : Only g w w') : RlL w' v l := Ls.kept RlR.stab h (Src.keptA hs ho) ⟨by decide, fun u hu => by rw [List.mem_singleton.1 hu]; decide⟩
theorem AL.past {l : List Att} (h : AL w v l) (hs : SrcAt w g) (ho : Only g w w') : AL w' v l := Ls.kept AttR.stab h (Src.keptA hs ho) ⟨by decide, fun u hu => by cases hu⟩
theorem IL.past {l : List Int} (h : IL w v l) (hs : SrcAt w g) (ho : Only g w w') : IL w' v l := Ls.kept IntR.stab h (Src.keptA hs ho) ⟨by decide, fun u hu => by cases hu⟩
theorem RwL.past {l : List Rw} (h : RwL w v l) (hs : SrcAt w g) (ho : Only g w w') : RwL w' v l := Ls.kept RwR.stab h (Src.keptA hs ho) ⟨by decide, fun u hu => by rw [List.mem_singleton.1 hu]; decide⟩
theorem own_pastR {b : Nat} {l : List Rw} (h : OwnL tRow 2 RwR b w v l) (hs : SrcAt w g) (ho : Only g w w') (hl : g < b) : OwnL tRow 2 RwR b w' v l := h.only RwR.stab ho hl (fun u hu => by rw [List.mem_singleton.1 hu]; exact Src.kept hs ho (by decide))
theorem own_pastT {b : Nat} {l : List (List Rw)} (h : OwnL tRows 1 TbR b w v l) (hs : SrcAt w g) (ho : Only g w w') (hl : g < b) : OwnL tRows 1 TbR b w' v l := h.only TbR.stab ho hl (fun u hu => by
  rcases List.mem_cons.1 hu with rfl | hu
  · exact Src.kept hs ho (by decide)
  · rw [List.mem_singleton.1 hu]; exact Src.kept hs ho (by decide))
theorem own_pastX {b : Nat} {l : List Txt} (h : OwnL tStr 1 TxR b w v l) (ho : Only g w w') (hl : g < b) : OwnL tStr 1 TxR b w' v l := h.only TxR.stab ho hl (fun u hu => by cases hu)
end
set_option maxRecDepth 100000 in
set_option maxHeartbeats 4000000 in
theorem mrich_any (g most : Nat) (v : Value) (x : Sch) (w : World) (h : SrcAt w g) (hv : SchV w v x) (ok : SchOk x) (h2 : 2 ≤ most) (h8 : most ≤ 8) :
    Calls Tryz.prog 8 #[.pointer (some ⟨g, 0, none⟩), v, .int .i64 most] w fun e w' => ∃ D u, MadeOk x most 3 D x.rels.length ∧ e = .returned u ∧ OwnL tRows 1 TbR w.heap.size w' u D ∧ SrcAt w' g ∧ Only g w w' := by
  have HV := Lib.hid hv
  obtain ⟨A, c, B, d, Dd, e, rfl, ha, hr, hf⟩ := hv
  obtain ⟨-, ha1, ha2⟩ := cap_le ha
  obtain ⟨-, hd1, hd2⟩ := cap_le hr
  have HA := Lib.hid ha
  have HR := Lib.hid hr
  have HOK := Lib.hid ok
  have HS := Lib.hid h
  have hg := h.lt
  have r6 := ok.r6
  obtain ⟨RN, hRN⟩ : ∃ RN, x.rels.length = RN := ⟨_, rfl⟩
  have HRN := Lib.hid hRN
  rw [hRN] at hd1 HR r6 HV ⊢
  obtain ⟨AN, hAN⟩ : ∃ AN, x.atts.length = AN := ⟨_, rfl⟩
  have HAN := Lib.hid hAN
  rw [hAN] at ha1 HA HV ⊢
  clear hRN ha hr hf ok h hAN
  go_enter Tryz.func8, Tryz.ntmps8
  go_upto_region 1 with fail
  refine box1 (P := fun W => Code.wp _ _ _ _ W) fun W HX BX => ?_
  obtain ⟨s0, s1, s2, s3⟩ := BX.out.four
  have hgW : g < W.heap.size := Nat.lt_of_lt_of_le hg HX.out.size
  have HSW := Lib.hid (HS.out.ext HX.out)
  have HVW := Lib.hid (HV.out.ext HX.out)
  have HRW := Lib.hid (Ls.ext RlR.stab HR.out HX.out)
  have HAW := Lib.hid (Ls.ext AttR.stab HA.out HX.out)
  have hbg : w.heap.size ≠ g := by omega
  have hbW := BX.out.lt
  have hwW := HX.out.size
  generalize hbs : w.heap.size = bs at *
  go_upto_region 3 with fail
  clear s0 s1 s2 s3 HV HR HA HS
  go_loopw [7, 19] (fun v7 v19 wr => ∃ (i : Nat) (outs : List (List Rw)), i ≤ RN ∧ v19 = .int .i64 i ∧ Hid (MadeOk x most 3 outs i) ∧ Hid (OwnL tRows 1 TbR W.heap.size wr v7 outs) ∧ Hid (SrcAt wr g) ∧ Hid (Only g W wr)) (fun _ v19 _ => RN - (RowKit.intOf v19).toNat)
  case atStart => exact ⟨0, [], Nat.zero_le _, rfl, MadeOk.nil, OwnL.nil, HSW, Only.refl _ _⟩
  case round =>
    obtain ⟨i, outs, hi, rfl, HM, HO, HS1, HY1⟩ := hrel
    obtain ⟨A7, c7, xs7, rfl, _, _, _, _⟩ := HO.out.parts
    by_cases hiR : i < RN
    · have hil : i < x.rels.length := by rw [HRN.out]; exact hiR
      have BX1 := Lib.hid (BX.out.only HY1.out hbg)
      have HV1 := Lib.hid (HVW.out.past HSW.out HY1.out)
      have HA1 := Lib.hid (AL.past HAW.out HSW.out HY1.out)
      obtain ⟨gr, orr, Bi, mi, di, rfl, hgr, hp1, hp2, hIL⟩ := RlL.get (RlL.past HRW.out HSW.out HY1.out) hil
      have HIL := Lib.hid hIL
      have HRE : Hid (x.rels[i]? = some x.rels[i]) := List.getElem?_eq_getElem hil
      have HRI := Lib.hid (HOK.out.ri _ (List.getElem_mem hil))
      obtain ⟨hmi, hmi1, hmi2⟩ := cap_le hIL
      have hal : x.rels[i].2.length ≤ 12 := by
        rcases asc_len (k := 0) (n := x.atts.length) (HOK.out.ra _ (List.getElem_mem hil)) (HOK.out.ri _ (List.getElem_mem hil)) with h1 | h1
        · rw [h1]; simp
        · have := HOK.out.a12; omega
      generalize x.rels[i] = rel at *
      obtain ⟨rn, cs⟩ := rel
      simp only at hp1 hp2 HIL HRI hmi hal hIL
      subst hmi
      clear hIL
      go_upto_region 5 with fail
      refine box1 (P := fun W => Code.wp _ _ _ _ W) fun W1 HX1 BR => ?_
      have hWr := HY1.out.size
      have hbr : wr.heap.size ≠ g := by omega
      have HS2 := Lib.hid (HS1.out.ext HX1.out)
      have HY2 := Lib.hid (HY1.out.trans (Only.of_ext HX1.out))
      have HIL1 := Lib.hid (IL.ext HIL.out HX1.out)
      have HV2 := Lib.hid (HV1.out.ext HX1.out)
      have HA2 := Lib.hid (Ls.ext AttR.stab HA1.out HX1.out)
      have BX2 := Lib.hid (BX1.out.ext HX1.out)
      have HO2 := Lib.hid (HO.out.ext TbR.stab HX1.out)
      generalize wr.heap.size = br at *
      clear HO HS1 HY1 HIL HV1 HA1 BX1 hp1 hp2 HX1
      go_wp2_with fail
      have hmx : (max 1 ((most : Int) - 1)) = ((most - 1 : Nat) : Int) := by omega
      rw [hmx]
      refine (n_any g (most - 1) W1 HS2.out (by omega) (by omega)).mono ?_
      rintro e2 w2 ⟨r0, hr0, rfl, hs3, ho3⟩
      have HO3 := Lib.hid (own_pastT HO2.out HS2.out ho3 hgW)
      have HIL3 := Lib.hid (IL.past HIL1.out HS2.out ho3)
      have HV3 := Lib.hid (HV2.out.past HS2.out ho3)
      have HA3 := Lib.hid (AL.past HA2.out HS2.out ho3)
      have BX3 := Lib.hid (BX2.out.only ho3 hbg)
      have BR3 := Lib.hid (BR.out.only ho3 hbr)
      have HY3 := Lib.hid (HY2.out.trans ho3)
      have HS3 := Lib.hid hs3
      have hw2 := HY3.out.size
      have hbr2 := BR3.out.lt
      have hbx2 := BX3.out.lt
      clear hmx HO2 HIL1 HV2 HA2 BX2 BR HY2 HS2 hs3 ho3
      go_upto_region 7 with fail
      go_loopw [10, 11] (fun v10 v11 wr => ∃ (k : Nat) (ls : List Rw), v11 = .int .i64 k ∧ ls.length + k ≤ most ∧ Hid (RawOk x cs 3 ls) ∧ Hid (OwnL tRow 2 RwR w2.heap.size wr v10 ls) ∧ Hid (SrcAt wr g) ∧ Hid (Only g w2 wr)) (fun _ v11 _ => (RowKit.intOf v11).toNat)
      case atStart => exact ⟨2 + r0, [], by go_num, by simp; omega, (fun y hy => by cases hy), OwnL.nil, HS3, Only.refl _ _⟩
      case round =>
        obtain ⟨k, ls, rfl, hk, HRaw, HO4, HS4, HY4⟩ := hrel
        obtain ⟨A10, c10, xs10, rfl, _, _, _, _⟩ := HO4.out.parts
        generalize wr = w4 at *
        have hw4 := HY4.out.size
        by_cases hk0 : 0 < k
        · have hbt4 : w4.heap.size ≠ g := by omega
          go_wp2_with fail
          refine (mpick_any g _ [1, 1, 1, 2, 3] _ (HS4.out.ext ((Ext.refl _).alloc _)) (Blk.new _ tInt (zcells [1, 1, 1, 2, 3])) hbt4 (by decide) (by decide)).mono ?_
          rintro e5 w5 ⟨wt, hwt, rfl, hs5, ho5⟩
          have hwt3 : 1 ≤ wt ∧ wt ≤ 3 := by simp only [List.mem_cons, List.not_mem_nil, or_false] at hwt; omega
          have HY5 : Hid (Only g w4 w5) := (Only.of_ext ((Ext.refl _).alloc _)).trans ho5
          have HS5 := Lib.hid hs5
          clear hwt hs5 ho5
          go_upto_region 10 with fail
          refine box1 (P := fun W => Code.wp _ _ _ _ W) fun W6 HX6 BW => ?_
          have HY6 := Lib.hid (HY5.out.trans (Only.of_ext HX6.out))
          have HS6 := Lib.hid (HS5.out.ext HX6.out)
          have hbw : w4.heap.size ≤ w5.heap.size := HY5.out.size
          have hbw6 := BW.out.lt
          generalize w5.heap.size = bw at *
          have BR6 := Lib.hid ((BR3.out.only HY4.out hbr).only HY6.out hbr)
          obtain ⟨q0, q1⟩ := BR6.out.two
          clear HY5 HS5 HX6
          go_upto_region 11 with fail
          clear q0 q1
          go_loopw [41] (fun v41 wr => ∃ (j : Nat) (vs : List Txt) (vv : Value), j ≤ cs.length ∧ v41 = .int .i64 j ∧ Hid (RowVal x (cs.take j) vs) ∧ Hid (Blk wr bw tRow [vv, .int .i64 wt]) ∧ Hid (OwnL tStr 1 TxR W6.heap.size wr vv vs) ∧ Hid (SrcAt wr g) ∧ Hid (Only g w4 wr) ∧ W6.heap.size ≤ wr.heap.size) (fun v41 _ => cs.length - (RowKit.intOf v41).toNat)
          case atStart => exact ⟨0, [], _, Nat.zero_le _, rfl, RowVal.nil, BW, OwnL.nil, HS6, HY6, Nat.le_refl _⟩
          case round =>
            clear HS6 HY6 BW BR6
            obtain ⟨j, vs, vv, hj, rfl, HRV, BWr, HOv, HSr, HYr, hsz⟩ := hrel
            by_cases hjc : j < cs.length
            · have HYa := Lib.hid (HY4.out.trans HYr.out)
              obtain ⟨gi, oi, rfl, _, hcj⟩ := IL.get (IL.past HIL3.out HS3.out HYa.out) hjc
              have hin := HRI.out _ (List.getElem_mem hjc)
              have HTK : Hid (cs.take (j + 1) = cs.take j ++ [cs[j]]) := List.take_succ_eq_append_getElem hjc
              generalize cs[j] = a at *
              obtain ⟨an, rfl⟩ : ∃ an : Nat, a = an := ⟨a.toNat, by omega⟩
              have hanl : an < x.atts.length := by omega
              have hanN : an < AN := by rw [← HAN.out]; exact hanl
              obtain ⟨ga, oa, rfl, hga, hc0, hc1⟩ := AL.get (AL.past HA3.out HS3.out HYa.out) hanl
              have HCK : Hid (∀ w', AL w' (.slice (some ⟨ga, oa, none⟩) AN c) x.atts → ga < w'.heap.size ∧ w'.cell? ⟨ga, oa + an * 2, none⟩ = some (.string ⟨x.atts[an].1.toArray⟩) ∧ w'.cell? ⟨ga, oa + an * 2 + 1, none⟩ = some (.int .i64 x.atts[an].2)) := fun w' h => by
                obtain ⟨ga', oa', ee, h1, h2, h3⟩ := AL.get h hanl
                injection ee with ee
                injection ee with e1 e2
                subst e1 e2
                exact ⟨h1, h2, h3⟩
              have HKD : Hid (kd x an = x.atts[an].2) := by unfold kd; simp [Hid, hanl]
              have hkk := HOK.out.ak _ (List.getElem_mem hanl)
              generalize x.atts[an] = att at *
              obtain ⟨nm, ak⟩ := att
              simp only at hc0 hc1 HKD hkk HCK
              have BXr := Lib.hid (BX3.out.only HYa.out hbg)
              have HVr := Lib.hid (HV3.out.past HS3.out HYa.out)
              have HAr := Lib.hid (AL.past HA3.out HS3.out HYa.out)
              obtain ⟨s0, s1, s2, s3⟩ := BXr.out.four
              go_wp2_with fail
              refine (mval_any g nm ak wr HSr.out hkk).mono ?_
              rintro e7 w7 ⟨t, ht, rfl, hs7, ho7⟩
              have BX7 := Lib.hid (BXr.out.only ho7 hbg)
              have HV7 := Lib.hid (HVr.out.past HSr.out ho7)
              have HA7 := Lib.hid (AL.past HAr.out HSr.out ho7)
              have HVT := Lib.hid ht
              have HS7 := Lib.hid hs7
              have HY7 := Lib.hid ho7
              clear s0 s1 s2 s3 hc0 hc1 hcj ht hs7 ho7 BXr HVr HAr
              go_upto_region 14 with fail
              go_cut [15, 41, 61] from 41 to 77 (fun s15 s41 s61 wx => s15 = .string ⟨t.toArray⟩ ∧ s41 = .int .i64 j ∧ ∃ bb, s61 = .bool bb ∧ Hid (SrcAt wx g) ∧ Hid (Only g w7 wx))
              case first =>
                have RU := Lib.hid (ruses_any _ x an w7 HV7.out HOK.out)
                obtain ⟨un, hun⟩ : ∃ un, (usesN x.rels an x.rels.length).length = un := ⟨_, rfl⟩
                rw [hun] at RU
                clear hun
                obtain ⟨s0, s1, s2, s3⟩ := BX7.out.four
                go_wp2_with fail
                refine RU.out.mono ?_
                rintro e8 w8 ⟨Au, cu, rfl, _, hx8⟩
                have HS8 := Lib.hid (HS7.out.ext hx8)
                have HY8 : Hid (Only g w7 w8) := Only.of_ext hx8
                clear s0 s1 s2 s3 RU hx8
                by_cases hu : 1 < un
                · have d1 : decide ((un : Int) > 1) = true := decide_eq_true (by omega)
                  go_wp2_with fail
                  refine (n_any g 3 w8 HS8.out (by decide) (by decide)).mono ?_
                  rintro e9 w9 ⟨r1, hr1, rfl, hs9, ho9⟩
                  have HY9 := Lib.hid (HY8.out.trans ho9)
                  have HS9 := Lib.hid hs9
                  clear hs9 ho9 HS8 HY8
                  go_wp2
                  go_meet
                  case rel => exact ⟨rfl, rfl, _, rfl, HS9, HY9⟩
                · have d1 : decide ((un : Int) > 1) = false := decide_eq_false (by omega)
                  go_wp2
                  go_meet
                  case rel => exact ⟨rfl, rfl, _, rfl, HS8, HY8⟩
              case rest =>
                obtain ⟨rfl, rfl, bb, rfl, HS8, HY8⟩ := hcut
                generalize wc = w8 at *
                have BX8 := Lib.hid (BX7.out.only HY8.out hbg)
                have HA8 := Lib.hid (AL.past HA7.out HS7.out HY8.out)
                go_upto_if 61 with fail
                go_cut [15, 41] from 41 to 77 (fun s15 s41 wx => s41 = .int .i64 j ∧ ∃ t' : Txt, s15 = .string ⟨t'.toArray⟩ ∧ Hid (ValT ak t') ∧ Hid (SrcAt wx g) ∧ Hid (Only g w7 wx))
                case first =>
                  cases bb with
                  | true =>
                    obtain ⟨s0, s1, s2, s3⟩ := BX8.out.four
                    obtain ⟨hga', hc0, hc1⟩ := HCK.out w8 HA8.out
                    have hk3 : ak = 1 ∨ ak = 2 ∨ ak = 3 := by omega
                    have hb8 := BX8.out.lt
                    clear HVT
                    rcases hk3 with rfl | rfl | rfl
                    · have VT : Hid (ValT 1 [49]) := valt_int 1 _ (by decide) one_text
                      go_wp2
                      go_meet
                      case rel => exact ⟨rfl, [49], rfl, VT, HS8.out.ext ((Ext.refl _).alloc _), HY8.out.trans (Only.of_ext ((Ext.refl _).alloc _))⟩
                    · have VT : Hid (ValT 2 [49]) := valt_dig 1 (by decide)
                      go_wp2
                      go_meet
                      case rel => exact ⟨rfl, [49], rfl, VT, HS8.out.ext ((Ext.refl _).alloc _), HY8.out.trans (Only.of_ext ((Ext.refl _).alloc _))⟩
                    · have VT : Hid (ValT 3 [114, 101, 100]) := .inr (.inl ⟨rfl, word_red⟩)
                      go_wp2
                      go_meet
                      case rel => exact ⟨rfl, [114, 101, 100], rfl, VT, HS8.out.ext ((Ext.refl _).alloc _), HY8.out.trans (Only.of_ext ((Ext.refl _).alloc _))⟩
                  | false =>
                    go_wp2
                    go_meet
                    case rel => exact ⟨rfl, t, rfl, HVT, HS8, HY8⟩
                case rest =>
                  obtain ⟨rfl, t', rfl, HVT', HS9, HY9⟩ := hcut
                  have HY79 := Lib.hid (HY7.out.trans HY9.out)
                  have HRV2 : Hid (RowVal x (cs.take (j + 1)) (vs ++ [t'])) := by
                    rw [Hid, HTK.out]
                    exact HRV.out.snoc (by rw [HKD.out]; exact HVT'.out)
                  have HOv2 := Lib.hid (own_pastX HOv.out HY79.out (by have := hbw; omega))
                  have hbwg : bw ≠ g := by omega
                  have BW2 := Lib.hid (BWr.out.only HY79.out hbwg)
                  have HYr2 := Lib.hid (HYr.out.trans HY79.out)
                  have hsz2 : W6.heap.size ≤ wc.heap.size := Nat.le_trans hsz HY79.out.size
                  have hvl : vs.length ≤ 12 := by have h := HRV.out.1; rw [List.length_take] at h; omega
                  clear HVT HVT' BX7 HV7 HA7 HS7 HY7 HY9 HY79 HOv BWr HYr HSr HRV HTK HCK
                  obtain ⟨Av, cv, xv, rfl, _, _, HRo, HCo⟩ := HOv2.out.parts
                  obtain ⟨v0, v1⟩ := BW2.out.two
                  have hbt : (vs.length + 1) * 16 ≤ 140737488355328 := by omega
                  go_wp2_with (at_builtin; refine wpList_app1 rfl _ _ tStrs rfl W6.heap.size str_slice _ _ _ rfl HRo.out #[.string ⟨t'.toArray⟩] 1 1 rfl rfl rfl hbt hsz2 ?_)
                  intro v' w10 ho10 hg10 _
                  obtain ⟨A10v, c10v, rfl, _, _, _⟩ := own_parts ho10
                  have O10 := Lib.hid (OwnL.snoc (R := TxR) (x := t') TxR.stab (fun u hu => by cases hu) HRo.out HCo.out rfl ho10 hg10)
                  have BW10 := Lib.hid (blkG BW2.out HRo.out hg10 hbw6)
                  have HS10 := Lib.hid (HS9.out.grown hg10 (fun k hk => by have := (HRo.out.lt k hk).1; omega))
                  have HY10 := Lib.hid (Only.grownF HYr2.out HRo.out hg10 (by omega))
                  have hsz10 : W6.heap.size ≤ w10.heap.size := Nat.le_trans hsz2 hg10.size
                  clear ho10 hg10
                  obtain ⟨v0, v1⟩ := BW10.out.two
                  have hf0 := BW10.out.frozen 0
                  obtain ⟨W11, hW11, B11, K11, N11⟩ := put1 (i := 0) BW10.out (.slice A10v (vs.length + 1) c10v)
                  have HW11 := Lib.hid hW11
                  clear hW11
                  go_wp2_with fail
                  rw [HW11.out]
                  have hgbw : g < bw := by omega
                  have O11 := Lib.hid (O10.out.only TxR.stab N11.out hbw6 (fun u hu => by cases hu))
                  have HS11 := Lib.hid (HS10.out.past N11.out hgbw)
                  have HY11 := Lib.hid (HY10.out.fresh N11.out hbw)
                  have hsz11 : W6.heap.size ≤ W11.heap.size := Nat.le_trans hsz10 N11.out.size
                  clear v0 v1 hf0 HW11 N11 K11 O10 HS10 HY10 BW10 HRo HCo HOv2 BW2 HYr2 HS9
                  go_wp2_with fail
                  go_roundw
                  case rel => exact ⟨j + 1, _, _, by omega, by go_num, HRV2, B11, O11, HS11, HY11, hsz11⟩
                  case measure => simp [RowKit.intOf]; omega
            · have hje : cs.take j = cs := List.take_of_length_le (by omega)
              rw [hje] at HRV
              clear hje
              have d1 : decide ((j : Int) < (cs.length : Int)) = false := decide_eq_false (by omega)
              have HOR := Lib.hid (own_pastR HO4.out HS4.out HYr.out (by omega))
              obtain ⟨_, _, xsR, ee, _, _, HRl, HCl⟩ := HOR.out.parts
              injection ee with ee1 _ ee2
              subst ee1 ee2
              obtain ⟨Av, cv, xv, rfl, _, _, HRo, HCo⟩ := HOv.out.parts
              have HTv : Hid (TL wr (.slice Av vs.length cv) vs) := (OwnL.of HRo.out HCo.out).ls
              obtain ⟨v0, v1⟩ := BWr.out.two
              have hbt : (ls.length + 1) * 32 ≤ 140737488355328 := by omega
              have HYa := Lib.hid (HY4.out.trans HYr.out)
              have hwz : w2.heap.size ≤ wr.heap.size := HYa.out.size
              clear HOv HO4 HOR HRo HCo
              go_wp2_with (at_builtin; refine wpList_app1 rfl _ _ tRows rfl w2.heap.size row_slice _ _ _ rfl HRl.out #[.slice Av vs.length cv, .int .i64 wt] 1 1 rfl rfl rfl hbt hwz ?_)
              intro v' w10 ho10 hg10 _
              have O10 := Lib.hid (OwnL.snoc (R := RwR) (x := (vs, wt)) RwR.stab (fun u hu => by rw [List.mem_singleton.1 hu]; decide) HRl.out HCl.out ⟨Av, cv, rfl, HTv.out⟩ ho10 hg10)
              have HS10 := Lib.hid (HSr.out.grown hg10 (fun k hk => by have := (HRl.out.lt k hk).1; omega))
              have HY10 := Lib.hid (Only.grownF HYa.out HRl.out hg10 (Nat.le_refl _))
              clear ho10 hg10
              go_wp2
              go_roundw
              case rel => exact ⟨k - 1, ls ++ [(vs, wt)], by rw [Int.natCast_sub (by omega)]; rfl, by simp; omega, HRaw.out.snoc HRV.out hwt3.1 hwt3.2, O10, HS10, HY10⟩
              case measure => simp [RowKit.intOf]; omega
        · obtain rfl : k = 0 := by omega
          have HLs : Hid (RwL w4 (.slice A10 ls.length c10) ls) := HO4.out.ls
          have HLw : Hid (∀ y ∈ ls, y.2.natAbs ≤ 1000000) := fun y hy => by have := HRaw.out y hy; omega
          have HRS := Lib.hid (rsort_any A10 ls.length c10 ls w4 HLs.out (by omega) HLw.out)
          have HOD := Lib.hid (own_pastT HO3.out HS3.out HY4.out hgW)
          have hol : outs.length ≤ 6 := by have := HM.out.1; omega
          go_wp2_with fail
          refine HRS.out.mono ?_
          rintro e5 w5 ⟨vS, rfl, hoS, hx5⟩
          obtain ⟨AS, cS, xsS, rfl, _, _, HRx, HCx⟩ := hoS.parts
          have HTS : Hid (RwL w5 (.slice AS (sortR ls).length cS) (sortR ls)) := hoS.ls
          have HOD5 := Lib.hid (HOD.out.ext TbR.stab hx5)
          obtain ⟨_, _, xsD, ee, _, _, HRd, HCd⟩ := HOD5.out.parts
          injection ee with ee1 _ ee2
          subst ee1 ee2
          have HS5 := Lib.hid (HS4.out.ext hx5)
          have HY5 := Lib.hid ((HY3.out.trans HY4.out).trans (Only.of_ext hx5))
          have hwz : W.heap.size ≤ w5.heap.size := HY5.out.size
          have hbt : (outs.length + 1) * 24 ≤ 140737488355328 := by omega
          clear hoS hx5 HRS HLs HO4 HS4 HOD HOD5 HRx HCx
          go_wp2_with (at_builtin; refine wpList_app1 rfl _ _ tDb rfl W.heap.size rows_slice _ _ _ rfl HRd.out #[.slice AS (sortR ls).length cS] 1 1 rfl rfl rfl hbt hwz ?_)
          intro v' w10 ho10 hg10 _
          have O10 := Lib.hid (OwnL.snoc (R := TbR) (x := sortR ls) TbR.stab (fun u hu => by
            rcases List.mem_cons.1 hu with rfl | hu
            · decide
            · rw [List.mem_singleton.1 hu]; decide) HRd.out HCd.out ⟨AS, cS, rfl, HTS.out⟩ ho10 hg10)
          have HS10 := Lib.hid (HS5.out.grown hg10 (fun k hk => by have := (HRd.out.lt k hk).1; omega))
          have HY10 := Lib.hid (Only.grownF HY5.out HRd.out hg10 (Nat.le_refl _))
          clear ho10 hg10
          go_wp2
          go_roundw
          case rel => exact ⟨i + 1, outs ++ [sortR ls], by omega, by go_num, HM.out.snoc HRE.out (by omega) HRaw.out, O10, HS10, HY10⟩
          case measure => simp [RowKit.intOf]; omega
    · have hie : i = RN := by omega
      have d1 : decide ((i : Int) < (RN : Int)) = false := decide_eq_false (by omega)
      have HM2 : Hid (MadeOk x most 3 outs RN) := by rw [← hie]; exact HM
      have HOw : Hid (OwnL tRows 1 TbR bs wr (.slice A7 outs.length c7) outs) := HO.out.weaken hwW
      have HYw := Lib.hid ((Only.of_ext (g := g) HX.out).trans HY1.out)
      clear hie HM
      go_wp2
      go_ret
      exact ⟨outs, _, HM2.out, rfl, by rw [hbs]; exact HOw.out, HS1.out, HYw.out⟩
end Go.Proofs.YthalpbjkkfkheaaGreatDoor
