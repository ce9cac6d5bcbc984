/- joinlearnlaw27.CorepointLine, walked: it returns true. -/
import Derived.Test.YtkhmfgkbobblmaaGreatDoorCLinePlain
import Derived.Test.YtkhmfgkbobblmaaGreatDoorFloat
namespace Go.Proofs.YtkhmfgkbobblmaaGreatDoor
open Go.RowKit Go.Lib

theorem newrbox2 {P : World → Prop} {w : World} {p q : Rat} {b : Bool} {A : Option Addr} {n c : Nat} {b' : Bool} {A' : Option Addr} {n' c' : Nat} {d : Bool} {B : Option Addr} {m e : Nat} {d' : Bool} {B' : Option Addr} {m' e' : Nat}
    (hv : RFrac w (.agg #[.bool b, .slice A n c, .bool b', .slice A' n' c']) p) (hu : RFrac w (.agg #[.bool d, .slice B m e, .bool d', .slice B' m' e']) q) (h : ∀ W, Hid (Ext w W) → Hid (RBox W w.heap.size p) → Hid (RBox W (w.heap.size + 1) q) → P W) :
    P ((w.alloc (.cells #[.bool b, .slice A n c, .bool b', .slice A' n' c'] tFr)).alloc (.cells #[.bool d, .slice B m e, .bool d', .slice B' m' e'] tFr)) :=
  have hx : Ext w ((w.alloc (.cells #[.bool b, .slice A n c, .bool b', .slice A' n' c'] tFr)).alloc (.cells #[.bool d, .slice B m e, .bool d', .slice B' m' e'] tFr)) := ((Ext.refl w).alloc _).alloc _
  h _ hx ⟨b, A, n, c, b', A', n', c', (Blk.new w tFr [.bool b, .slice A n c, .bool b', .slice A' n' c']).alloc _, hv.ext hx⟩ ⟨d, B, m, e, d', B', m', e', Blk.new' (w.alloc _) tFr [.bool d, .slice B m e, .bool d', .slice B' m' e'] _ (by simp), hu.ext hx⟩
def zf : List Value := [.bool false, .slice none 0 0, .bool false, .slice none 0 0]
set_option maxRecDepth 100000 in
set_option maxHeartbeats 2000000 in
theorem cline_walk (t : TypeId) (A : Option Addr) (zs : List Int) (c : Nat) (w : World) (hc : zs.length ≤ c) (hm : c ≤ 9223372036854775807) (hs : Sl w t A (zcells zs)) (hz : ∀ z ∈ zs, -9223372036854775808 ≤ z ∧ z ≤ 9223372036854775807) (ht : Tab w) :
    Calls Tryz.prog 5 #[.slice A zs.length c] w fun e w' => e = .returned (.bool true) ∧ Ext w w' := by
  have HS := Lib.hid hs
  have HZ := Lib.hid hz
  have HT := Lib.hid ht
  clear hs hz ht
  go_enter Tryz.func5, Tryz.ntmps5
  go_wp2_with fail
  refine (light_any A zs.length c w (by omega)).mono ?_
  rintro e w0 ⟨rfl, rfl⟩
  by_cases hl : zs.length ≤ 600
  · have hd : decide (zs.length ≤ 600) = true := decide_eq_true hl
    rw [hd]
    go_wp2_with fail
    refine (mnew_any t A zs c w hc hm hl HS.out HZ.out).mono ?_
    rintro e w1 ⟨rfl, hsrc1, hx1⟩
    clear hd
    go_wp2_with fail
    refine (mmasses_any w.heap.size 7 w1 hsrc1 (by decide)).mono ?_
    rintro e w2 ⟨Al, cl, l, hl7, hok, hasc, rfl, hml, hs2, ho2⟩
    have HX2 := Lib.hid (hx1.only ho2 (Nat.le_refl _))
    have HOK := Lib.hid hok
    have HAS := Lib.hid hasc
    clear hx1 ho2 hsrc1 hl hok hasc
    go_wp2_with fail
    refine (range_any w.heap.size 1 3 w2 hs2 (by decide) (by decide)).mono ?_
    rintro e w3 ⟨k, hk1, hk3, rfl, hs3, ho3⟩
    have HX3 := Lib.hid (HX2.out.only ho3 (Nat.le_refl _))
    have HML : Hid (ML w3 (.slice Al l.length cl) l) := Ls.kept MaR.stab hml (Src.keptA hs2 ho3) (by decide)
    obtain ⟨-, -, hcm⟩ := cap_le HML.out
    have HS3 := Lib.hid hs3
    have HT3 := Lib.hid (HT.out.ext HX3.out)
    clear ho3 hs2 hs3 hml HX2
    by_cases hn0 : l = []
    · subst hn0
      have L1 := Lib.hid (line_nil _ k w3 HML.out hk1 (by omega))
      have L2 := Lib.hid (fun w' hx => line_nil _ (k + 1) w' (ML.ext HML.out hx) (by omega) (by omega))
      rw [show ((k + 1 : Nat) : Int) = (k : Int) + 1 from rfl] at L2
      go_wp2_with fail
      refine L1.out.mono ?_
      rintro e w4 ⟨rfl, hx4⟩
      go_wp2_with fail
      refine (L2.out w4 hx4).mono ?_
      rintro e w5 ⟨rfl, hx5⟩
      have hy5 := HX3.out.trans (hx4.trans hx5)
      go_wp2_with fail
      refine (lsane_any w5 (HT.out.ext hy5)).mono ?_
      rintro e w6 ⟨rfl, hx6⟩
      go_wp2
      go_ret
      exact ⟨rfl, hy5.trans hx6⟩
    · have h0 : 0 < l.length := by
        rcases l with _ | ⟨x, l⟩
        · exact absurd rfl hn0
        · simp
      have L1 := Lib.hid (line_any _ l k w3 HML.out HOK.out HAS.out hn0 hk1 (by omega) HT3.out)
      have L2 := Lib.hid (fun w' hx => line_any _ l (k + 1) w' (ML.ext HML.out hx) HOK.out HAS.out hn0 (by omega) (by omega) (HT3.out.ext hx))
      rw [show ((k + 1 : Nat) : Int) = (k : Int) + 1 from rfl] at L2
      have hp := HOK.out.pos
      have hpl := lp_lt h0 hk1
      have hpl2 := lp_lt (k := k + 1) h0 (by omega)
      have CF := Lib.hid (cen_fit (lp l k) l HOK.out (by omega))
      have HLC : Hid (cen (lp l k) l = lcen l k) := rfl
      rw [HLC.out] at CF
      have FC : Hid (FitQ 56 (lcost l k)) := (dv_fit (lp l k) l HOK.out (by omega)).mono (by omega)
      have FC2 : Hid (FitQ 56 (lcost l (k + 1))) := (dv_fit (lp l (k + 1)) l HOK.out (by omega)).mono (by omega)
      have GE := Lib.hid (lcost_gc hp HAS.out h0 hk1)
      have GL : Hid (∀ cs : List Rat, cs ≠ [] → cs.length ≤ k → lcost l k ≤ gc l cs) := fun cs h1 h2 => lcost_least hp HAS.out h0 h1 h2
      have GM : Hid (lcost l (k + 1) ≤ lcost l k) := lcost_more h0 hk1
      have GF : Hid (l.length ≤ k → lcost l k = 0) := lcost_few hp h0 hk1
      have hlen := lcen_length l k
      have hLk : (lcen l k).length ≤ k := by omega
      have hL1 : 0 < (lcen l k).length := by omega
      clear hp hpl hpl2 HLC hlen
      obtain ⟨L, hL⟩ : ∃ L, lcen l k = L := ⟨_, rfl⟩
      rw [hL] at L1 CF GE hLk hL1
      generalize lcen l (k + 1) = L' at *
      clear hL
      generalize lcost l k = lc at *
      generalize lcost l (k + 1) = ld at *
      obtain ⟨m, hmm⟩ : ∃ m, L.length = m := ⟨_, rfl⟩
      rw [hmm] at L1 hLk hL1
      have HLM := Lib.hid hmm
      clear hmm
      obtain ⟨tc, htc⟩ : ∃ tc, ratText lc = tc := ⟨_, rfl⟩
      rw [htc] at L1
      have HTC := Lib.hid htc
      clear htc
      obtain ⟨td, htd⟩ : ∃ td, ratText ld = td := ⟨_, rfl⟩
      rw [htd] at L2
      have HTD := Lib.hid htd
      clear htd
      go_wp2_with fail
      refine L1.out.mono ?_
      rintro e w4 ⟨Ac, cc, rfl, hrl, hx4⟩
      obtain ⟨-, -, hccm⟩ := cap_le hrl
      go_wp2_with fail
      refine (L2.out w4 hx4).mono ?_
      rintro e w5 ⟨Ad, cd, rfl, _, hx5⟩
      have hx35 := hx4.trans hx5
      have HX5 := Lib.hid (HX3.out.trans hx35)
      have HRL5 := Lib.hid (RL.ext hrl hx5)
      have HML5 := Lib.hid (ML.ext HML.out hx35)
      have HS5 := Lib.hid (HS3.out.ext hx35)
      clear hx4 hx5 hx35 hrl HML HS3 HX3 HT3 L1 L2
      have hln0 : ((l.length : Nat) : Int) ≠ 0 := by omega
      have hlnb : (((l.length : Nat) : Int) == 0) = false := by rw [beq_eq_false_iff_ne]; exact hln0
      go_wp2_with fail
      refine (r2of_any 0 w5 (by decide) (by decide)).mono ?_
      rintro e w6 ⟨v6, rfl, hv6, hx6⟩
      obtain ⟨a0, A0, a1, a2, b0, B0, b1, b2, rfl, _, _⟩ := hv6.parts
      go_wp2_with fail
      refine (r2of_any 0 w6 (by decide) (by decide)).mono ?_
      rintro e w7 ⟨v7, rfl, hv7, hx7⟩
      obtain ⟨c0, C0, c1, c2, d0, D0, d1, d2, rfl, _, _⟩ := hv7.parts
      go_upto_region 11 with fail
      refine newrbox2 (P := fun W => Code.wp _ _ _ _ W) (hv6.ext hx7) hv7 fun W HXW HB1 HB2 => ?_
      have hyW := hx6.trans (hx7.trans HXW.out)
      have HXW' := Lib.hid (HX5.out.trans hyW)
      have HRLW := Lib.hid (RL.ext HRL5.out hyW)
      have HMLW := Lib.hid (ML.ext HML5.out hyW)
      have HSW := Lib.hid (HS5.out.ext hyW)
      have hgs : w.heap.size < w7.heap.size := Nat.lt_of_lt_of_le HS5.out.lt (hx6.trans hx7).size
      have hgW : w7.heap.size + 1 < W.heap.size := HB2.out.lt
      clear hx6 hx7 hv6 hv7 HXW hyW HX5 HRL5 HML5 HS5
      go_wp2_with fail
      go_loopw [14, 62] (fun v14 v62 wr => ∃ (i : Nat) (cs : List Rat), i ≤ k ∧ v62 = .int .i64 i ∧ cs.length = i ∧ Hid (∀ c ∈ cs, FitQ 7 c) ∧ Hid (OwnL tRat 1 RatR W.heap.size wr v14 cs) ∧ Hid (SrcAt wr w.heap.size) ∧ Hid (Only w.heap.size W wr)) (fun _ v62 _ => k - (RowKit.intOf v62).toNat)
      case atStart => exact ⟨0, [], Nat.zero_le _, rfl, rfl, (fun c hc => by cases hc), OwnL.nil, HSW, Only.refl _ _⟩
      case round =>
        obtain ⟨i, cs, hi, rfl, hci, HCF, HOw, HSr, HOr⟩ := hrel
        obtain ⟨A1, cx, xs, rfl, _, _, HR, HC⟩ := HOw.out.parts
        rw [hci] at HR ⊢
        by_cases hik : i < k
        · go_wp2_with fail
          refine (n_any w.heap.size l.length wr HSr.out h0 (by omega)).mono ?_
          rintro e wa ⟨r, hr, rfl, hs9, ho9⟩
          have HO9 := Lib.hid (HOr.out.trans ho9)
          have HS9 := Lib.hid hs9
          have O9 := Lib.hid (HOw.out.only RatR.stab ho9 (by omega) (fun u hu => by cases hu))
          obtain ⟨A1', cx', xs', e, _, _, HR9, HC9⟩ := O9.out.parts
          rw [hci] at e
          injection e with e1 _ e2
          subst e1 e2
          rw [hci] at HR9
          have hml9 : ML wa (.slice Al l.length cl) l := Ls.kept MaR.stab HMLW.out (Src.keptA HSW.out HO9.out) (by decide)
          obtain ⟨g1, o1, rfl, hg1, hp1, _⟩ := ML.get hml9 hr
          have FX : Hid (FitQ 7 l[r].1) := ((HOK.out.2 _ (List.getElem_mem hr)).val.1.fit (e := 4) (by decide) (by decide) (by decide)).mono (by decide)
          generalize l[r].1 = x at *
          generalize htx : ratText x = tx at *
          have HTX := Lib.hid htx
          have hw9 : W.heap.size ≤ wa.heap.size := HO9.out.size
          have hbt : (i + 1) * 16 ≤ 140737488355328 := by omega
          clear htx hs9 ho9 O9 hml9 HR HC
          go_wp2_with (at_builtin; refine wpList_app1 rfl _ _ tRats rfl W.heap.size rat_slice _ _ _ rfl HR9.out #[.string ⟨tx.toArray⟩] 1 1 rfl rfl rfl hbt hw9 ?_)
          intro v' wb hob hgb _
          have Ob := Lib.hid (OwnL.snoc (R := RatR) (x := x) RatR.stab (fun u hu => by cases hu) (by rw [hci]; exact HR9.out) HC9.out (by rw [RatR, HTX.out]) (by rw [hci]; exact hob) hgb)
          have Sb := Lib.hid (HS9.out.grown hgb (fun j hj => by have := (HR9.out.lt j hj).1; omega))
          have Nb : Hid (Only w.heap.size W wb) := HO9.out.grownF HR9.out hgb (Nat.le_refl _)
          clear hob hgb
          go_wp2
          go_roundw
          case rel => exact ⟨i + 1, cs ++ [x], by omega, by go_num, by rw [List.length_append, hci]; rfl, (fun y hy => by
              rcases List.mem_append.1 hy with h | h
              · exact HCF.out y h
              · rw [List.mem_singleton.1 h]; exact FX.out), Ob, Sb, Nb⟩
          case measure => simp [RowKit.intOf]; omega
        · obtain rfl : i = k := by omega
          have hkW := Lib.hid (Src.keptA HSW.out HOr.out)
          have HRL8 : Hid (RL wr (.slice Ac m cc) L) := Ls.kept RatR.stab HRLW.out hkW.out (by decide)
          have HML8 : Hid (ML wr (.slice Al l.length cl) l) := Ls.kept MaR.stab HMLW.out hkW.out (by decide)
          have HCU8 : Hid (RL wr (.slice A1 cs.length cx) cs) := HOw.out.ls
          rw [hci] at HCU8
          have HB18 : Hid (RBox wr w7.heap.size ((0 : Int) : Rat)) := HB1.out.past HOr.out (by omega) (hkW.out _ (by decide))
          have HB28 : Hid (RBox wr (w7.heap.size + 1) ((0 : Int) : Rat)) := HB2.out.past HOr.out (by omega) (hkW.out _ (by decide))
          have HX8 := Lib.hid (HXW'.out.only HOr.out (Nat.le_refl _))
          have hw8 : W.heap.size ≤ wr.heap.size := HOr.out.size
          obtain ⟨-, -, hcxm⟩ := cap_le HCU8.out
          have hcs0 : cs ≠ [] := ne_len (by omega)
          have hL0 : L ≠ [] := ne_len (by rw [HLM.out]; exact hL1)
          have GFL := Lib.hid (gc_fit (cs := L) hL0 HOK.out.2 CF.out)
          have GFC := Lib.hid (gc_fit (cs := cs) hcs0 HOK.out.2 HCF.out)
          have GLC := Lib.hid (GL.out cs hcs0 (by omega))
          clear HR HC HOw HSr HOr hkW HRLW HMLW HSW HXW' HB1 HB2 GL
          generalize wr = w8 at *
          have Z1 : Hid (RBox w8 w7.heap.size (gc (l.take 0) L)) := HB18
          have Z2 : Hid (RBox w8 (w7.heap.size + 1) (gc (l.take 0) cs)) := HB28
          clear HB18 HB28
          go_wp2_with fail
          go_loopw [16, 17, 18, 19, 20, 78] (fun _ _ _ _ _ v78 wr => ∃ i : Nat, i ≤ l.length ∧ v78 = .int .i64 i ∧ Hid (RBox wr w7.heap.size (gc (l.take i) L)) ∧ Hid (RBox wr (w7.heap.size + 1) (gc (l.take i) cs)) ∧ Hid (Ext w wr) ∧ Hid (∀ u, tFr ≠ u → Kept u w8 wr) ∧ w8.heap.size ≤ wr.heap.size) (fun _ _ _ _ _ v78 _ => l.length - (RowKit.intOf v78).toNat)
          case atStart => exact ⟨0, Nat.zero_le _, rfl, Z1, Z2, HX8, (fun u _ => Kept.refl u _), Nat.le_refl _⟩
          case round =>
            clear Z1 Z2 HX8
            obtain ⟨j, hj, rfl, HS1, HS2, HXr, HKr, hwr⟩ := hrel
            by_cases hjl : j < l.length
            · have HRr : Hid (RL wr (.slice Ac m cc) L) := Ls.kept RatR.stab HRL8.out HKr.out (by decide)
              have HCr : Hid (RL wr (.slice A1 i cx) cs) := Ls.kept RatR.stab HCU8.out HKr.out (by decide)
              have hmlr : ML wr (.slice Al l.length cl) l := Ls.kept MaR.stab HML8.out HKr.out (by decide)
              obtain ⟨g1, o1, rfl, hg1, hp1, hp2⟩ := ML.get hmlr hjl
              have hmg := HOK.out.2 _ (List.getElem_mem hjl)
              have FV : Hid (FitQ 4 l[j].1) := hmg.val.1.fit (by decide) (by decide) (by decide)
              have FW : Hid (FitQ 4 l[j].2) := hmg.val.2.fit (by decide) (by decide) (by decide)
              have N1 := Lib.hid (gc_next (cs := L) hjl)
              have N2 := Lib.hid (gc_next (cs := cs) hjl)
              have G1 := Lib.hid (GFL.out j (by omega))
              have G2 := Lib.hid (GFC.out j (by omega))
              clear hmg
              generalize l[j] = x at *
              obtain ⟨xv, xw⟩ := x
              simp only at FV FW N1 N2 hp1 hp2
              obtain ⟨a, ha, hna, hqa⟩ := near_mn (l := L) (x := xv) (by rw [HLM.out]; exact hL1)
              obtain ⟨b, hb, hnb, hqb⟩ := near_mn (l := cs) (x := xv) (by omega)
              have ham : a < m := by rw [← HLM.out]; exact ha
              have hbi : b < i := by omega
              have NA := Lib.hid (fun w' h => cNear_any (.slice Ac m cc) L xv w' h (fun q hq => (CF.out q hq).mono (by decide)) (FV.out.mono (by decide)) (by rw [HLM.out]; omega))
              have NB := Lib.hid (fun w' h => cNear_any (.slice A1 i cx) cs xv w' h (fun q hq => (HCF.out q hq).mono (by decide)) (FV.out.mono (by decide)) (by omega))
              rw [hna] at NA
              rw [hnb] at NB
              have FA := Lib.hid (CF.out _ (List.getElem_mem ha))
              have FB := Lib.hid (HCF.out _ (List.getElem_mem hb))
              have HCA : Hid (∃ gA oA, Ac = some ⟨gA, oA, none⟩ ∧ ∀ w', Ext wr w' → w'.cell? ⟨gA, oA + a, none⟩ = some (.string ⟨(ratText L[a]).toArray⟩)) := by
                obtain ⟨gA, oA, e, _, _⟩ := RL.get HRr.out ha
                refine ⟨gA, oA, e, fun w' hx => ?_⟩
                obtain ⟨g', o', e', _, h⟩ := RL.get (RL.ext HRr.out hx) ha
                rw [e] at e'
                injection e' with e'
                injection e' with e1 e2
                subst e1 e2
                exact h
              have HCB : Hid (∃ gB oB, A1 = some ⟨gB, oB, none⟩ ∧ ∀ w', Ext wr w' → w'.cell? ⟨gB, oB + b, none⟩ = some (.string ⟨(ratText cs[b]).toArray⟩)) := by
                obtain ⟨gA, oA, e, _, _⟩ := RL.get HCr.out hb
                refine ⟨gA, oA, e, fun w' hx => ?_⟩
                obtain ⟨g', o', e', _, h⟩ := RL.get (RL.ext HCr.out hx) hb
                rw [e] at e'
                injection e' with e'
                injection e' with e1 e2
                subst e1 e2
                exact h
              obtain ⟨gA, oA, rfl, hca⟩ := HCA.out
              obtain ⟨gB, oB, rfl, hcb⟩ := HCB.out
              have HCA' := Lib.hid hca
              have HCB' := Lib.hid hcb
              clear HCA HCB hca hcb hna hnb
              generalize L[a] = ya at *
              generalize cs[b] = yb at *
              clear ha hb
              have HN1 : Hid (gc (l.take (j + 1)) L = gc (l.take j) L + xw * (xv - ya) * (xv - ya)) := by rw [Hid, N1.out, ← hqa, Rat.mul_assoc]
              have HN2 : Hid (gc (l.take (j + 1)) cs = gc (l.take j) cs + xw * (xv - yb) * (xv - yb)) := by rw [Hid, N2.out, ← hqb, Rat.mul_assoc]
              clear hqa hqb N1 N2
              obtain ⟨s1', hs1⟩ : ∃ s, gc (l.take (j + 1)) L = s := ⟨_, rfl⟩
              have HE1 := Lib.hid hs1
              rw [hs1] at HN1
              obtain ⟨s2', hs2⟩ : ∃ s, gc (l.take (j + 1)) cs = s := ⟨_, rfl⟩
              have HE2 := Lib.hid hs2
              rw [hs2] at HN2
              clear hs1 hs2
              generalize gc (l.take j) L = s1 at *
              generalize gc (l.take j) cs = s2 at *
              have RV := Lib.hid (fun w' => r2read_any xv w' (e := 3) FV.out (by decide))
              have RW := Lib.hid (fun w' => r2read_any xw w' (e := 3) FW.out (by decide))
              have RA := Lib.hid (fun w' => r2read_any ya w' (e := 6) FA.out (by decide))
              have RB := Lib.hid (fun w' => r2read_any yb w' (e := 6) FB.out (by decide))
              generalize ratText xv = tv at *
              generalize ratText xw = tw at *
              generalize ratText ya = ta at *
              generalize ratText yb = tb at *
              have hda : decide ((a : Int) < 0) = false := decide_eq_false (by omega)
              have hdb : decide ((b : Int) < 0) = false := decide_eq_false (by omega)
              have hdam : decide (m ≤ a) = false := decide_eq_false (by omega)
              have hdbi : decide (i ≤ b) = false := decide_eq_false (by omega)
              have hgr1 := HS1.out.lt
              have hgr2 := HS2.out.lt
              go_upto_region 19 with fail
              refine box1 (P := fun W => Code.wp _ _ _ _ W) fun W3 HX3 BM => ?_
              have HSI : Hid (∀ w', Ext W3 w' → w'.cell? ⟨wr.heap.size, 0, none⟩ = some (.string ⟨tv.toArray⟩) ∧ w'.cell? ⟨wr.heap.size, 1, none⟩ = some (.string ⟨tw.toArray⟩)) := fun w' hx => (BM.out.ext hx).two
              have HS0 : Hid (Ext W3 W3.drew) := (Ext.refl W3).drew
              clear hp1 hp2 hmlr hg1
              refine AnyT.start (S := fun w' => Ext W3 w') (T := fun _ => false) (by kernel_rfl) ?_
              refine AnyT.ld 0 82 ?_ _ rfl rfl (by kernel_rfl) (fun _ _ _ h => h) HS0.out rfl ?_ ?_
              rotate_left
              focus (intro w' hSw; have hs := HSI.out w' hSw; go_split_ands; go_simp; try (first | exact rfl | omega | go_num | (intro hbd; exfalso; omega)))
              simp only [Act.put, List.setIfInBounds_toArray, List.set_cons_zero, List.set_cons_succ]
              refine AnyT.ld 1 83 ?_ _ rfl rfl (by kernel_rfl) (fun _ _ _ h => h) HS0.out rfl ?_ ?_
              rotate_left
              focus (intro w' hSw; have hs := HSI.out w' hSw; go_split_ands; go_simp; try (first | exact rfl | omega | go_num | (intro hbd; exfalso; omega)))
              simp only [Act.put, List.setIfInBounds_toArray, List.set_cons_zero, List.set_cons_succ]
              refine AnyT.ld 2 84 ?_ _ rfl rfl (by kernel_rfl) (fun _ _ _ h => h) HS0.out rfl ?_ ?_
              rotate_left
              focus (intro w' hSw; have hs := HSI.out w' hSw; go_split_ands; go_simp; try (first | exact rfl | omega | go_num | (intro hbd; exfalso; omega)))
              simp only [Act.put, List.setIfInBounds_toArray, List.set_cons_zero, List.set_cons_succ]
              refine AnyT.ld 4 86 ?_ _ rfl rfl (by kernel_rfl) (fun _ _ _ h => h) HS0.out rfl ?_ ?_
              rotate_left
              focus (intro w' hSw; have hs := HSI.out w' hSw; go_split_ands; go_simp; try (first | exact rfl | omega | go_num | (intro hbd; exfalso; omega)))
              simp only [Act.put, List.setIfInBounds_toArray, List.set_cons_zero, List.set_cons_succ]
              refine AnyT.ld 5 87 ?_ _ rfl rfl (by kernel_rfl) (fun _ _ _ h => h) HS0.out rfl ?_ ?_
              rotate_left
              focus (intro w' hSw; have hs := HSI.out w' hSw; go_split_ands; go_simp; try (first | exact rfl | omega | go_num | (intro hbd; exfalso; omega)))
              simp only [Act.put, List.setIfInBounds_toArray, List.set_cons_zero, List.set_cons_succ]
              refine AnyT.ld 6 88 ?_ _ rfl rfl (by kernel_rfl) (fun _ _ _ h => h) HS0.out rfl ?_ ?_
              rotate_left
              focus (intro w' hSw; have hs := HSI.out w' hSw; go_split_ands; go_simp; try (first | exact rfl | omega | go_num | (intro hbd; exfalso; omega)))
              simp only [Act.put, List.setIfInBounds_toArray, List.set_cons_zero, List.set_cons_succ]
              refine AnyT.step 3 (by kernel_rfl) ?_
              intro o ho K hK
              simp only [List.getElem?_toArray, List.getElem?_cons_succ, List.getElem?_cons_zero, Option.some.injEq] at ho
              subst ho
              go_simp
              refine (NA.out _ (RL.ext HRr.out (HX3.out.trans HS0.out))).mono ?_
              rintro e w9 ⟨rfl, hx9⟩
              have hy9 := HS0.out.trans hx9
              refine hK.out _ _ (fun _ => hy9) ?_
              refine AnyT.step 7 (by kernel_rfl) ?_
              intro o ho K hK
              simp only [List.getElem?_toArray, List.getElem?_cons_succ, List.getElem?_cons_zero, Option.some.injEq] at ho
              subst ho
              go_simp
              refine (NB.out _ (RL.ext HCr.out (HX3.out.trans hy9))).mono ?_
              rintro e wa ⟨rfl, hxa⟩
              refine hK.out _ _ (fun _ => hy9.trans hxa) ?_
              clear HS0
              have HS0 := Lib.hid (hy9.trans hxa)
              refine AnyT.ld 8 17 ?_ _ rfl rfl (by kernel_rfl) (fun _ _ _ h => h) HS0.out rfl ?_ ?_
              rotate_left
              focus (intro w' hSw; have hs := HSI.out w' hSw; go_split_ands; go_simp; try (first | exact rfl | omega | go_num | (intro hbd; exfalso; omega)))
              simp only [Act.put, List.setIfInBounds_toArray, List.set_cons_zero, List.set_cons_succ]
              refine AnyT.ld 9 18 ?_ _ rfl rfl (by kernel_rfl) (fun _ _ _ h => h) HS0.out rfl ?_ ?_
              rotate_left
              focus (intro w' hSw; have hs := HSI.out w' hSw; go_split_ands; go_simp; try (first | exact rfl | omega | go_num | (intro hbd; exfalso; omega)))
              simp only [Act.put, List.setIfInBounds_toArray, List.set_cons_zero, List.set_cons_succ]
              refine AnyT.done (by kernel_rfl) ?_
              have HXa := Lib.hid (HX3.out.trans HS0.out)
              have BMa := Lib.hid (BM.out.ext HS0.out)
              clear HSI HS0 hx9 hy9 hxa BM HX3 NA NB HRr HCr
              go_upto_region 22 with fail
              have HSI : Hid (∀ w', Ext wa w' → (w'.cell? ⟨wr.heap.size, 0, none⟩ = some (.string ⟨tv.toArray⟩) ∧ w'.cell? ⟨wr.heap.size, 1, none⟩ = some (.string ⟨tw.toArray⟩)) ∧ w'.cell? ⟨gA, oA + a, none⟩ = some (.string ⟨ta.toArray⟩) ∧ w'.cell? ⟨gB, oB + b, none⟩ = some (.string ⟨tb.toArray⟩)) := fun w' hx => ⟨(BMa.out.ext hx).two, HCA'.out _ (HXa.out.trans hx), HCB'.out _ (HXa.out.trans hx)⟩
              have HS0 : Hid (Ext wa wa.drew) := (Ext.refl wa).drew
              refine AnyT.start (S := fun w' => Ext wa w') (T := fun j => decide (20 ≤ j)) (by kernel_rfl) ?_
              have hwd : wa.heap.size ≤ wa.drew.heap.size := Nat.le_refl _
              generalize wa.drew = wd at *
              refine AnyT.ld 0 108 ?_ _ rfl rfl (by kernel_rfl) (fun _ _ _ h => h) HS0.out rfl ?_ ?_
              rotate_left
              focus (intro w' hSw; have hs := HSI.out w' hSw; go_split_ands; go_simp; try (first | exact rfl | omega | go_num | (intro hbd; exfalso; omega)))
              simp only [Act.put, List.setIfInBounds_toArray, List.set_cons_zero, List.set_cons_succ]
              refine AnyT.ld 1 109 ?_ _ rfl rfl (by kernel_rfl) (fun _ _ _ h => h) HS0.out rfl ?_ ?_
              rotate_left
              focus (intro w' hSw; have hs := HSI.out w' hSw; go_split_ands; go_simp; try (first | exact rfl | omega | go_num | (intro hbd; exfalso; omega)))
              simp only [Act.put, List.setIfInBounds_toArray, List.set_cons_zero, List.set_cons_succ]
              refine AnyT.ld 3 111 ?_ _ rfl rfl (by kernel_rfl) (fun _ _ _ h => h) HS0.out rfl ?_ ?_
              rotate_left
              focus (intro w' hSw; have hs := HSI.out w' hSw; go_split_ands; go_simp; try (first | exact rfl | omega | go_num | (intro hbd; exfalso; omega)))
              simp only [Act.put, List.setIfInBounds_toArray, List.set_cons_zero, List.set_cons_succ]
              refine AnyT.ld 4 112 ?_ _ rfl rfl (by kernel_rfl) (fun _ _ _ h => h) HS0.out rfl ?_ ?_
              rotate_left
              focus (intro w' hSw; have hs := HSI.out w' hSw; go_split_ands; go_simp; try (first | exact rfl | omega | go_num | (intro hbd; exfalso; omega)))
              simp only [Act.put, List.setIfInBounds_toArray, List.set_cons_zero, List.set_cons_succ]
              refine AnyT.ld 5 113 ?_ _ rfl rfl (by kernel_rfl) (fun _ _ _ h => h) HS0.out rfl ?_ ?_
              rotate_left
              focus (intro w' hSw; have hs := HSI.out w' hSw; go_split_ands; go_simp; try (first | exact rfl | omega | go_num | (intro hbd; exfalso; omega)))
              simp only [Act.put, List.setIfInBounds_toArray, List.set_cons_zero, List.set_cons_succ]
              refine AnyT.ld 6 114 ?_ _ rfl rfl (by kernel_rfl) (fun _ _ _ h => h) HS0.out rfl ?_ ?_
              rotate_left
              focus (intro w' hSw; have hs := HSI.out w' hSw; go_split_ands; go_simp; try (first | exact rfl | omega | go_num | (intro hbd; exfalso; omega)))
              simp only [Act.put, List.setIfInBounds_toArray, List.set_cons_zero, List.set_cons_succ]
              refine AnyT.ld 9 117 ?_ _ rfl rfl (by kernel_rfl) (fun _ _ _ h => h) HS0.out rfl ?_ ?_
              rotate_left
              focus (intro w' hSw; have hs := HSI.out w' hSw; go_split_ands; go_simp; try (first | exact rfl | omega | go_num | (intro hbd; exfalso; omega)))
              simp only [Act.put, List.setIfInBounds_toArray, List.set_cons_zero, List.set_cons_succ]
              refine AnyT.ld 10 118 ?_ _ rfl rfl (by kernel_rfl) (fun _ _ _ h => h) HS0.out rfl ?_ ?_
              rotate_left
              focus (intro w' hSw; have hs := HSI.out w' hSw; go_split_ands; go_simp; try (first | exact rfl | omega | go_num | (intro hbd; exfalso; omega)))
              simp only [Act.put, List.setIfInBounds_toArray, List.set_cons_zero, List.set_cons_succ]
              refine AnyT.ld 12 120 ?_ _ rfl rfl (by kernel_rfl) (fun _ _ _ h => h) HS0.out rfl ?_ ?_
              rotate_left
              focus (intro w' hSw; have hs := HSI.out w' hSw; go_split_ands; go_simp; try (first | exact rfl | omega | go_num | (intro hbd; exfalso; omega)))
              simp only [Act.put, List.setIfInBounds_toArray, List.set_cons_zero, List.set_cons_succ]
              refine AnyT.ld 13 121 ?_ _ rfl rfl (by kernel_rfl) (fun _ _ _ h => h) HS0.out rfl ?_ ?_
              rotate_left
              focus (intro w' hSw; have hs := HSI.out w' hSw; go_split_ands; go_simp; try (first | exact rfl | omega | go_num | (intro hbd; exfalso; omega)))
              simp only [Act.put, List.setIfInBounds_toArray, List.set_cons_zero, List.set_cons_succ]
              refine AnyT.ld 14 122 ?_ _ rfl rfl (by kernel_rfl) (fun _ _ _ h => h) HS0.out rfl ?_ ?_
              rotate_left
              focus (intro w' hSw; have hs := HSI.out w' hSw; go_split_ands; go_simp; try (first | exact rfl | omega | go_num | (intro hbd; exfalso; omega)))
              simp only [Act.put, List.setIfInBounds_toArray, List.set_cons_zero, List.set_cons_succ]
              refine AnyT.ld 15 123 ?_ _ rfl rfl (by kernel_rfl) (fun _ _ _ h => h) HS0.out rfl ?_ ?_
              rotate_left
              focus (intro w' hSw; have hs := HSI.out w' hSw; go_split_ands; go_simp; try (first | exact rfl | omega | go_num | (intro hbd; exfalso; omega)))
              simp only [Act.put, List.setIfInBounds_toArray, List.set_cons_zero, List.set_cons_succ]
              refine AnyE.go 6 2 18 19 19 20 tFr tFr zf zf (by kernel_rfl) (by kernel_rfl) ⟨by simp, by simp⟩ ?_ ?_ (fun w o h => h.alloc o) HS0.out ?_
              · intro a w K hK
                refine wpOp_intro _ rfl rfl ?_
                go_simp
                exact hK
              · intro a w K hK
                refine wpOp_intro _ rfl rfl ?_
                go_simp
                exact hK
              clear HSI HCA' HCB'
              refine AnyE.step 2 (by kernel_rfl) ?_
              intro u1 u2 wp hxp hSp o ho K hK
              simp only [List.getElem?_toArray, List.getElem?_cons_succ, List.getElem?_cons_zero, Option.some.injEq] at ho
              subst ho
              simp only [Act.put, List.setIfInBounds_toArray, List.set_cons_zero, List.set_cons_succ]
              go_simp
              refine (RV.out wp).mono ?_
              rintro e wn ⟨v1, rfl, hv1, hxn⟩
              refine hK.out _ _ hxn (hSp.trans hxn) ?_
              refine AnyE.step 7 (by kernel_rfl) ?_
              intro u1 u2 wp hxp hSp o ho K hK
              simp only [List.getElem?_toArray, List.getElem?_cons_succ, List.getElem?_cons_zero, Option.some.injEq] at ho
              subst ho
              simp only [Act.put, List.setIfInBounds_toArray, List.set_cons_zero, List.set_cons_succ]
              go_simp
              refine (RA.out wp).mono ?_
              rintro e wn ⟨v2, rfl, hv2, hxn⟩
              refine hK.out _ _ hxn (hSp.trans hxn) ?_
              have hv1 := hv1.ext (hxp.trans hxn)
              refine AnyE.step 8 (by kernel_rfl) ?_
              intro u1 u2 wp hxp hSp o ho K hK
              simp only [List.getElem?_toArray, List.getElem?_cons_succ, List.getElem?_cons_zero, Option.some.injEq] at ho
              subst ho
              simp only [Act.put, List.setIfInBounds_toArray, List.set_cons_zero, List.set_cons_succ]
              go_simp
              refine (rfsub_any _ _ _ _ wp (hv1.ext hxp) (hv2.ext hxp) FV.out FA.out (by decide)).mono ?_
              rintro e wn ⟨v3, rfl, hv3, hxn⟩
              refine hK.out _ _ hxn (hSp.trans hxn) ?_
              obtain ⟨x0, X0, x1, x2, y0, Y0, y1, y2, rfl, _, _⟩ := hv3.parts
              clear hv1 hv2
              refine AnyE.step 11 (by kernel_rfl) ?_
              intro u1 u2 wp hxp hSp o ho K hK
              simp only [List.getElem?_toArray, List.getElem?_cons_succ, List.getElem?_cons_zero, Option.some.injEq] at ho
              subst ho
              simp only [Act.put, List.setIfInBounds_toArray, List.set_cons_zero, List.set_cons_succ]
              go_simp
              refine (RV.out wp).mono ?_
              rintro e wn ⟨v1, rfl, hv1, hxn⟩
              refine hK.out _ _ hxn (hSp.trans hxn) ?_
              have hv3 := hv3.ext (hxp.trans hxn)
              refine AnyE.step 16 (by kernel_rfl) ?_
              intro u1 u2 wp hxp hSp o ho K hK
              simp only [List.getElem?_toArray, List.getElem?_cons_succ, List.getElem?_cons_zero, Option.some.injEq] at ho
              subst ho
              simp only [Act.put, List.setIfInBounds_toArray, List.set_cons_zero, List.set_cons_succ]
              go_simp
              refine (RB.out wp).mono ?_
              rintro e wn ⟨v2, rfl, hv2, hxn⟩
              refine hK.out _ _ hxn (hSp.trans hxn) ?_
              have hv3 := hv3.ext (hxp.trans hxn)
              have hv1 := hv1.ext (hxp.trans hxn)
              refine AnyE.step 17 (by kernel_rfl) ?_
              intro u1 u2 wp hxp hSp o ho K hK
              simp only [List.getElem?_toArray, List.getElem?_cons_succ, List.getElem?_cons_zero, Option.some.injEq] at ho
              subst ho
              simp only [Act.put, List.setIfInBounds_toArray, List.set_cons_zero, List.set_cons_succ]
              go_simp
              refine (rfsub_any _ _ _ _ wp (hv1.ext hxp) (hv2.ext hxp) FV.out FB.out (by decide)).mono ?_
              rintro e wn ⟨v4, rfl, hv4, hxn⟩
              refine hK.out _ _ hxn (hSp.trans hxn) ?_
              obtain ⟨z0, Z0, z1, z2, t0, T0, t1, t2, rfl, _, _⟩ := hv4.parts
              have hv3 := hv3.ext (hxp.trans hxn)
              clear hv1 hv2 hSp
              refine ⟨by kernel_rfl, fun g1 g2 wp hxp hSp B1 B2 hg1 hg2 hne => ?_⟩
              simp only [Act.put, List.setIfInBounds_toArray, List.set_cons_zero, List.set_cons_succ]
              have hyp := Lib.hid (HXa.out.trans hSp)
              have hv3 := Lib.hid (hv3.ext hxp)
              have hv4 := Lib.hid (hv4.ext hxp)
              have BMp := Lib.hid (BMa.out.ext hSp)
              have B1' : Hid (Blk wp g1 tFr [.bool false, .slice none 0 0, .bool false, .slice none 0 0]) := B1
              have B2' : Hid (Blk wp g2 tFr [.bool false, .slice none 0 0, .bool false, .slice none 0 0]) := B2
              have hra := HXa.out.size
              have hrm := BMa.out.lt
              have hwg : w.heap.size ≤ wr.heap.size := HXr.out.size
              clear B1 B2 hxn hxp hSp HXa BMa hK RA RB RV
              obtain ⟨k0, k1, k2, k3⟩ := B1'.out.four
              obtain ⟨m0, m1, m2, m3⟩ := B1'.out.free4
              obtain ⟨W1, hW1, BN1, KN1, ON1⟩ := put4 B1'.out (.bool x0) (.slice X0 x1 x2) (.bool y0) (.slice Y0 y1 y2)
              have HW1 := Lib.hid hW1
              have BZ2 := Lib.hid (B2'.out.only ON1.out (Ne.symm hne))
              clear hW1
              refine AnyT.step 20 (by kernel_rfl) ?_
              intro o ho K hK
              simp only [List.getElem?_toArray, List.getElem?_cons_succ, List.getElem?_cons_zero, Option.some.injEq] at ho
              subst ho
              go_simp
              rw [HW1.out]
              refine hK.out _ _ (fun h => by cases h) ?_
              clear k0 k1 k2 k3 m0 m1 m2 m3 hK
              obtain ⟨k0, k1, k2, k3⟩ := BZ2.out.four
              obtain ⟨m0, m1, m2, m3⟩ := BZ2.out.free4
              obtain ⟨W2, hW2, BN2, KN2, ON2⟩ := put4 BZ2.out (.bool z0) (.slice Z0 z1 z2) (.bool t0) (.slice T0 t1 t2)
              have HW2 := Lib.hid hW2
              clear hW2
              refine AnyT.step 21 (by kernel_rfl) ?_
              intro o ho K hK
              simp only [List.getElem?_toArray, List.getElem?_cons_succ, List.getElem?_cons_zero, Option.some.injEq] at ho
              subst ho
              go_simp
              rw [HW2.out]
              refine hK.out _ _ (fun h => by cases h) ?_
              clear k0 k1 k2 k3 m0 m1 m2 m3 hK HW1 HW2
              refine AnyT.done (by kernel_rfl) ?_
              have HP : Hid (RBox W2 g1 (xv - ya)) := (show RBox W1 g1 (xv - ya) from ⟨x0, X0, x1, x2, y0, Y0, y1, y2, BN1.out, hv3.out.keep (KN1.out _ (by decide))⟩).past ON2.out hne (KN2.out _ (by decide))
              have HQ : Hid (RBox W2 g2 (xv - yb)) := ⟨z0, Z0, z1, z2, t0, T0, t1, t2, BN2.out, (hv4.out.keep (KN1.out _ (by decide))).keep (KN2.out _ (by decide))⟩
              have HS1W : Hid (RBox W2 w7.heap.size s1) := ((HS1.out.ext hyp.out).past ON1.out (by omega) (KN1.out _ (by decide))).past ON2.out (by omega) (KN2.out _ (by decide))
              have HS2W : Hid (RBox W2 (w7.heap.size + 1) s2) := ((HS2.out.ext hyp.out).past ON1.out (by omega) (KN1.out _ (by decide))).past ON2.out (by omega) (KN2.out _ (by decide))
              have BM2 := Lib.hid ((BMp.out.only ON1.out (by omega)).only ON2.out (by omega))
              have HX2 : Hid (Ext w W2) := ((HXr.out.trans hyp.out).only ON1.out (by omega)).only ON2.out (by omega)
              have HK2 : Hid (∀ u, tFr ≠ u → Kept u w8 W2) := fun u hu => (((HKr.out u hu).trans (.of_below hyp.out)).trans (KN1.out u hu)).trans (KN2.out u hu)
              have hw2 : wr.heap.size ≤ W2.heap.size := Nat.le_trans hyp.out.size (Nat.le_trans ON1.out.size ON2.out.size)
              have hn12 : w7.heap.size ≠ g1 ∧ w7.heap.size ≠ g2 ∧ w7.heap.size + 1 ≠ g1 ∧ w7.heap.size + 1 ≠ g2 := by omega
              clear hyp hv3 hv4 BMp B1' B2' BN1 BN2 BZ2 KN1 KN2 ON1 ON2 HS1 HS2 HXr HKr
              go_upto_region 23 with fail
              obtain ⟨x0, X0, x1, x2, y0, Y0, y1, y2, BS1, VS1⟩ := HS1W.out.parts
              obtain ⟨z0, Z0, z1, z2, t0, T0, t1, t2, BS2, VS2⟩ := HS2W.out.parts
              obtain ⟨p0, P0, p1, p2, q0, Q0, q1, q2, BP, VP⟩ := HP.out.parts
              obtain ⟨e0, E0, e1, e2, f0, F0, f1, f2, BQ, VQ⟩ := HQ.out.parts
              have HSI : Hid (∀ w', Ext W2 w' → (w'.cell? ⟨w7.heap.size, 0, none⟩ = some (.bool x0) ∧ w'.cell? ⟨w7.heap.size, 0 + 1, none⟩ = some (.slice X0 x1 x2) ∧ w'.cell? ⟨w7.heap.size, 0 + 2, none⟩ = some (.bool y0) ∧ w'.cell? ⟨w7.heap.size, 0 + 3, none⟩ = some (.slice Y0 y1 y2)) ∧ (w'.cell? ⟨w7.heap.size + 1, 0, none⟩ = some (.bool z0) ∧ w'.cell? ⟨w7.heap.size + 1, 0 + 1, none⟩ = some (.slice Z0 z1 z2) ∧ w'.cell? ⟨w7.heap.size + 1, 0 + 2, none⟩ = some (.bool t0) ∧ w'.cell? ⟨w7.heap.size + 1, 0 + 3, none⟩ = some (.slice T0 t1 t2)) ∧ (w'.cell? ⟨g1, 0, none⟩ = some (.bool p0) ∧ w'.cell? ⟨g1, 0 + 1, none⟩ = some (.slice P0 p1 p2) ∧ w'.cell? ⟨g1, 0 + 2, none⟩ = some (.bool q0) ∧ w'.cell? ⟨g1, 0 + 3, none⟩ = some (.slice Q0 q1 q2)) ∧ (w'.cell? ⟨g2, 0, none⟩ = some (.bool e0) ∧ w'.cell? ⟨g2, 0 + 1, none⟩ = some (.slice E0 e1 e2) ∧ w'.cell? ⟨g2, 0 + 2, none⟩ = some (.bool f0) ∧ w'.cell? ⟨g2, 0 + 3, none⟩ = some (.slice F0 f1 f2)) ∧ w'.cell? ⟨wr.heap.size, 1, none⟩ = some (.string ⟨tw.toArray⟩)) := fun w' hx => ⟨(BS1.out.ext hx).four, (BS2.out.ext hx).four, (BP.out.ext hx).four, (BQ.out.ext hx).four, (BM2.out.ext hx).two.2⟩
              have HS0 : Hid (Ext W2 W2.drew) := (Ext.refl W2).drew
              have FP : Hid (FitQ 12 (xv - ya)) := FV.out.sub FA.out
              have FQ : Hid (FitQ 12 (xv - yb)) := FV.out.sub FB.out
              clear HS1W HS2W HP HQ
              refine AnyT.start (S := fun w' => Ext W2 w') (T := fun j => decide (18 ≤ j)) (by kernel_rfl) ?_
              refine AnyT.ld 0 126 ?_ _ rfl rfl (by kernel_rfl) (fun _ _ _ h => h) HS0.out rfl ?_ ?_
              rotate_left
              focus (intro w' hSw; have hs := HSI.out w' hSw; go_split_ands; go_simp; try (first | exact rfl | omega | go_num | (intro hbd; exfalso; omega)))
              simp only [Act.put, List.setIfInBounds_toArray, List.set_cons_zero, List.set_cons_succ]
              refine AnyT.ld 1 127 ?_ _ rfl rfl (by kernel_rfl) (fun _ _ _ h => h) HS0.out rfl ?_ ?_
              rotate_left
              focus (intro w' hSw; have hs := HSI.out w' hSw; go_split_ands; go_simp; try (first | exact rfl | omega | go_num | (intro hbd; exfalso; omega)))
              simp only [Act.put, List.setIfInBounds_toArray, List.set_cons_zero, List.set_cons_succ]
              refine AnyT.ld 2 128 ?_ _ rfl rfl (by kernel_rfl) (fun _ _ _ h => h) HS0.out rfl ?_ ?_
              rotate_left
              focus (intro w' hSw; have hs := HSI.out w' hSw; go_split_ands; go_simp; try (first | exact rfl | omega | go_num | (intro hbd; exfalso; omega)))
              simp only [Act.put, List.setIfInBounds_toArray, List.set_cons_zero, List.set_cons_succ]
              refine AnyT.ld 4 130 ?_ _ rfl rfl (by kernel_rfl) (fun _ _ _ h => h) HS0.out rfl ?_ ?_
              rotate_left
              focus (intro w' hSw; have hs := HSI.out w' hSw; go_split_ands; go_simp; try (first | exact rfl | omega | go_num | (intro hbd; exfalso; omega)))
              simp only [Act.put, List.setIfInBounds_toArray, List.set_cons_zero, List.set_cons_succ]
              refine AnyT.ld 6 132 ?_ _ rfl rfl (by kernel_rfl) (fun _ _ _ h => h) HS0.out rfl ?_ ?_
              rotate_left
              focus (intro w' hSw; have hs := HSI.out w' hSw; go_split_ands; go_simp; try (first | exact rfl | omega | go_num | (intro hbd; exfalso; omega)))
              simp only [Act.put, List.setIfInBounds_toArray, List.set_cons_zero, List.set_cons_succ]
              refine AnyT.ld 9 135 ?_ _ rfl rfl (by kernel_rfl) (fun _ _ _ h => h) HS0.out rfl ?_ ?_
              rotate_left
              focus (intro w' hSw; have hs := HSI.out w' hSw; go_split_ands; go_simp; try (first | exact rfl | omega | go_num | (intro hbd; exfalso; omega)))
              simp only [Act.put, List.setIfInBounds_toArray, List.set_cons_zero, List.set_cons_succ]
              refine AnyT.ld 10 136 ?_ _ rfl rfl (by kernel_rfl) (fun _ _ _ h => h) HS0.out rfl ?_ ?_
              rotate_left
              focus (intro w' hSw; have hs := HSI.out w' hSw; go_split_ands; go_simp; try (first | exact rfl | omega | go_num | (intro hbd; exfalso; omega)))
              simp only [Act.put, List.setIfInBounds_toArray, List.set_cons_zero, List.set_cons_succ]
              refine AnyT.ld 11 137 ?_ _ rfl rfl (by kernel_rfl) (fun _ _ _ h => h) HS0.out rfl ?_ ?_
              rotate_left
              focus (intro w' hSw; have hs := HSI.out w' hSw; go_split_ands; go_simp; try (first | exact rfl | omega | go_num | (intro hbd; exfalso; omega)))
              simp only [Act.put, List.setIfInBounds_toArray, List.set_cons_zero, List.set_cons_succ]
              refine AnyT.ld 13 139 ?_ _ rfl rfl (by kernel_rfl) (fun _ _ _ h => h) HS0.out rfl ?_ ?_
              rotate_left
              focus (intro w' hSw; have hs := HSI.out w' hSw; go_split_ands; go_simp; try (first | exact rfl | omega | go_num | (intro hbd; exfalso; omega)))
              simp only [Act.put, List.setIfInBounds_toArray, List.set_cons_zero, List.set_cons_succ]
              refine AnyT.ld 15 141 ?_ _ rfl rfl (by kernel_rfl) (fun _ _ _ h => h) HS0.out rfl ?_ ?_
              rotate_left
              focus (intro w' hSw; have hs := HSI.out w' hSw; go_split_ands; go_simp; try (first | exact rfl | omega | go_num | (intro hbd; exfalso; omega)))
              simp only [Act.put, List.setIfInBounds_toArray, List.set_cons_zero, List.set_cons_succ]
              refine AnyT.step 3 (by kernel_rfl) ?_
              intro o ho K hK
              simp only [List.getElem?_toArray, List.getElem?_cons_succ, List.getElem?_cons_zero, Option.some.injEq] at ho
              subst ho
              go_simp
              refine (RW.out _).mono ?_
              rintro e wn ⟨v1, rfl, h1, hxn⟩
              have hyn := HS0.out.trans hxn
              refine hK.out _ _ (fun _ => hyn) ?_
              clear HS0 hK
              have HS0 := Lib.hid hyn
              clear hyn hxn
              refine AnyT.step 5 (by kernel_rfl) ?_
              intro o ho K hK
              simp only [List.getElem?_toArray, List.getElem?_cons_succ, List.getElem?_cons_zero, Option.some.injEq] at ho
              subst ho
              go_simp
              refine (rfmul_any _ _ _ _ _ h1 (VP.out.ext HS0.out) FW.out FP.out (by decide)).mono ?_
              rintro e wn ⟨v2, rfl, h2, hxn⟩
              have hyn := HS0.out.trans hxn
              refine hK.out _ _ (fun _ => hyn) ?_
              clear HS0 hK
              have HS0 := Lib.hid hyn
              clear hyn hxn
              refine AnyT.step 7 (by kernel_rfl) ?_
              intro o ho K hK
              simp only [List.getElem?_toArray, List.getElem?_cons_succ, List.getElem?_cons_zero, Option.some.injEq] at ho
              subst ho
              go_simp
              refine (rfmul_any _ _ _ _ _ h2 (VP.out.ext HS0.out) (FW.out.mul FP.out) FP.out (by decide)).mono ?_
              rintro e wn ⟨v3, rfl, h3, hxn⟩
              have hyn := HS0.out.trans hxn
              refine hK.out _ _ (fun _ => hyn) ?_
              clear HS0 hK
              have HS0 := Lib.hid hyn
              clear hyn hxn
              refine AnyT.step 8 (by kernel_rfl) ?_
              intro o ho K hK
              simp only [List.getElem?_toArray, List.getElem?_cons_succ, List.getElem?_cons_zero, Option.some.injEq] at ho
              subst ho
              go_simp
              refine (rfadd_any _ _ _ _ _ (VS1.out.ext HS0.out) h3 G1.out ((FW.out.mul FP.out).mul FP.out) (by omega)).mono ?_
              rintro e wn ⟨v4, rfl, h4, hxn⟩
              have hyn := HS0.out.trans hxn
              refine hK.out _ _ (fun _ => hyn) ?_
              clear HS0 hK
              have HS0 := Lib.hid hyn
              clear hyn hxn
              rw [← HN1.out] at h4
              obtain ⟨r0, R0, r1, r2, l0, L0, l1, l2, rfl, _, _⟩ := h4.parts
              clear h1 h2 h3
              refine AnyT.step 12 (by kernel_rfl) ?_
              intro o ho K hK
              simp only [List.getElem?_toArray, List.getElem?_cons_succ, List.getElem?_cons_zero, Option.some.injEq] at ho
              subst ho
              go_simp
              refine (RW.out _).mono ?_
              rintro e wn ⟨v1, rfl, h1, hxn⟩
              have hyn := HS0.out.trans hxn
              refine hK.out _ _ (fun _ => hyn) ?_
              clear HS0 hK
              have HS0 := Lib.hid hyn
              have h4 := h4.ext hxn
              clear hyn hxn
              refine AnyT.step 14 (by kernel_rfl) ?_
              intro o ho K hK
              simp only [List.getElem?_toArray, List.getElem?_cons_succ, List.getElem?_cons_zero, Option.some.injEq] at ho
              subst ho
              go_simp
              refine (rfmul_any _ _ _ _ _ h1 (VQ.out.ext HS0.out) FW.out FQ.out (by decide)).mono ?_
              rintro e wn ⟨v2, rfl, h2, hxn⟩
              have hyn := HS0.out.trans hxn
              refine hK.out _ _ (fun _ => hyn) ?_
              clear HS0 hK
              have HS0 := Lib.hid hyn
              have h4 := h4.ext hxn
              clear hyn hxn
              refine AnyT.step 16 (by kernel_rfl) ?_
              intro o ho K hK
              simp only [List.getElem?_toArray, List.getElem?_cons_succ, List.getElem?_cons_zero, Option.some.injEq] at ho
              subst ho
              go_simp
              refine (rfmul_any _ _ _ _ _ h2 (VQ.out.ext HS0.out) (FW.out.mul FQ.out) FQ.out (by decide)).mono ?_
              rintro e wn ⟨v3, rfl, h3, hxn⟩
              have hyn := HS0.out.trans hxn
              refine hK.out _ _ (fun _ => hyn) ?_
              clear HS0 hK
              have HS0 := Lib.hid hyn
              have h4 := h4.ext hxn
              clear hyn hxn
              refine AnyT.step 17 (by kernel_rfl) ?_
              intro o ho K hK
              simp only [List.getElem?_toArray, List.getElem?_cons_succ, List.getElem?_cons_zero, Option.some.injEq] at ho
              subst ho
              go_simp
              refine (rfadd_any _ _ _ _ _ (VS2.out.ext HS0.out) h3 G2.out ((FW.out.mul FQ.out).mul FQ.out) (by omega)).mono ?_
              rintro e wn ⟨v5, rfl, h5, hxn⟩
              have hyn := HS0.out.trans hxn
              refine hK.out _ _ (fun _ => hyn) ?_
              clear HS0 hK
              have HS0 := Lib.hid hyn
              have h4 := h4.ext hxn
              clear hyn hxn
              rw [← HN2.out] at h5
              obtain ⟨i0, I0, i1, i2, k0, K0, k1, k2, rfl, _, _⟩ := h5.parts
              have H4 := Lib.hid h4
              have H5 := Lib.hid h5
              have BA := Lib.hid (BS1.out.ext HS0.out)
              have BB := Lib.hid (BS2.out.ext HS0.out)
              have HXn := Lib.hid (HX2.out.trans HS0.out)
              have HKn : Hid (∀ u, tFr ≠ u → Kept u w8 wn) := fun u hu => (HK2.out u hu).trans (.of_below HS0.out)
              have hwn : wr.heap.size ≤ wn.heap.size := Nat.le_trans hw2 HS0.out.size
              clear h1 h2 h3 h4 h5 HSI RW BS1 BS2 BP BQ BM2 VS1 VS2 VP VQ HX2 HK2
              obtain ⟨j0, j1, j2, j3⟩ := BA.out.four
              obtain ⟨m0, m1, m2, m3⟩ := BA.out.free4
              obtain ⟨W1, hW1, BN1, KN1, ON1⟩ := put4 BA.out (.bool r0) (.slice R0 r1 r2) (.bool l0) (.slice L0 l1 l2)
              have HW1 := Lib.hid hW1
              have BZ2 := Lib.hid (BB.out.only ON1.out (by omega))
              clear hW1
              refine AnyT.step 18 (by kernel_rfl) ?_
              intro o ho K hK
              simp only [List.getElem?_toArray, List.getElem?_cons_succ, List.getElem?_cons_zero, Option.some.injEq] at ho
              subst ho
              go_simp
              rw [HW1.out]
              refine hK.out _ _ (fun h => by cases h) ?_
              clear j0 j1 j2 j3 m0 m1 m2 m3 hK
              obtain ⟨j0, j1, j2, j3⟩ := BZ2.out.four
              obtain ⟨m0, m1, m2, m3⟩ := BZ2.out.free4
              obtain ⟨W3, hW3, BN2, KN2, ON2⟩ := put4 BZ2.out (.bool i0) (.slice I0 i1 i2) (.bool k0) (.slice K0 k1 k2)
              have HW3 := Lib.hid hW3
              clear hW3
              refine AnyT.step 19 (by kernel_rfl) ?_
              intro o ho K hK
              simp only [List.getElem?_toArray, List.getElem?_cons_succ, List.getElem?_cons_zero, Option.some.injEq] at ho
              subst ho
              go_simp
              rw [HW3.out]
              refine hK.out _ _ (fun h => by cases h) ?_
              clear j0 j1 j2 j3 m0 m1 m2 m3 hK HW1 HW3
              refine AnyT.done (by kernel_rfl) ?_
              have Z1 : Hid (RBox W3 w7.heap.size s1') := (show RBox W1 w7.heap.size s1' from ⟨r0, R0, r1, r2, l0, L0, l1, l2, BN1.out, H4.out.keep (KN1.out _ (by decide))⟩).past ON2.out (by omega) (KN2.out _ (by decide))
              have Z2 : Hid (RBox W3 (w7.heap.size + 1) s2') := ⟨i0, I0, i1, i2, k0, K0, k1, k2, BN2.out, (H5.out.keep (KN1.out _ (by decide))).keep (KN2.out _ (by decide))⟩
              have HXz : Hid (Ext w W3) := (HXn.out.only ON1.out (by omega)).only ON2.out (by omega)
              have HKz : Hid (∀ u, tFr ≠ u → Kept u w8 W3) := fun u hu => ((HKn.out u hu).trans (KN1.out u hu)).trans (KN2.out u hu)
              have hwz : w8.heap.size ≤ W3.heap.size := Nat.le_trans hwr (Nat.le_trans hwn (Nat.le_trans ON1.out.size ON2.out.size))
              clear H4 H5 BA BB HXn HKn BN1 BN2 KN1 KN2 ON1 ON2 BZ2
              go_wp2_with fail
              go_roundw
              case rel => exact ⟨j + 1, by omega, by go_num, by rw [HE1.out]; exact Z1, by rw [HE2.out]; exact Z2, HXz, HKz, hwz⟩
              case measure => simp [RowKit.intOf]; omega
            · obtain rfl : j = l.length := by omega
              rw [List.take_of_length_le (Nat.le_refl _)] at HS1 HS2
              have GFC' := Lib.hid (GFC.out l.length (Nat.le_refl _))
              rw [List.take_of_length_le (Nat.le_refl _)] at GFC'
              rw [GE.out] at HS1
              have GSG := Lib.hid (num_sign_ge (q := gc l cs - lc) (by have := GLC.out; grind))
              have HTr := Lib.hid (HT.out.ext HXr.out)
              have RC := Lib.hid (fun w' => r2read_any lc w' (e := 55) FC.out (by decide))
              rw [HTC.out] at RC
              have RCMP := Lib.hid (fun w' => cmp_le (FC2.out.mono (by decide)) (FC.out.mono (by decide)) GM.out w')
              rw [HTC.out, HTD.out] at RCMP
              generalize gc l cs = s2 at *
              obtain ⟨x0, X0, x1, x2, y0, Y0, y1, y2, BS1, VS1⟩ := HS1.out.parts
              obtain ⟨z0, Z0, z1, z2, t0, T0, t1, t2, BS2, VS2⟩ := HS2.out.parts
              have hsg := GSG.out
              clear GSG HS1 HS2 HKr HRL8 HML8 HCU8 GFL GFC GLC GE CF HCF
              go_upto_region 25 with fail
              have HSI : Hid (∀ w', Ext wr w' → (w'.cell? ⟨w7.heap.size, 0, none⟩ = some (.bool x0) ∧ w'.cell? ⟨w7.heap.size, 0 + 1, none⟩ = some (.slice X0 x1 x2) ∧ w'.cell? ⟨w7.heap.size, 0 + 2, none⟩ = some (.bool y0) ∧ w'.cell? ⟨w7.heap.size, 0 + 3, none⟩ = some (.slice Y0 y1 y2)) ∧ (w'.cell? ⟨w7.heap.size + 1, 0, none⟩ = some (.bool z0) ∧ w'.cell? ⟨w7.heap.size + 1, 0 + 1, none⟩ = some (.slice Z0 z1 z2) ∧ w'.cell? ⟨w7.heap.size + 1, 0 + 2, none⟩ = some (.bool t0) ∧ w'.cell? ⟨w7.heap.size + 1, 0 + 3, none⟩ = some (.slice T0 t1 t2))) := fun w' hx => ⟨(BS1.out.ext hx).four, (BS2.out.ext hx).four⟩
              have HS0 : Hid (Ext wr wr.drew) := (Ext.refl wr).drew
              refine AnyT.start (S := fun w' => Ext wr w') (T := fun _ => false) (by kernel_rfl) ?_
              by_cases hlk : i < l.length
              · skip
                refine AnyT.ld 0 145 ?_ _ rfl rfl (by kernel_rfl) (fun _ _ _ h => h) HS0.out rfl ?_ ?_
                rotate_left
                focus (intro w' hSw; have hs := HSI.out w' hSw; go_split_ands; go_simp; try (first | exact rfl | omega | go_num | (intro hbd; exfalso; omega)))
                simp only [Act.put, List.setIfInBounds_toArray, List.set_cons_zero, List.set_cons_succ]
                refine AnyT.ld 1 146 ?_ _ rfl rfl (by kernel_rfl) (fun _ _ _ h => h) HS0.out rfl ?_ ?_
                rotate_left
                focus (intro w' hSw; have hs := HSI.out w' hSw; go_split_ands; go_simp; try (first | exact rfl | omega | go_num | (intro hbd; exfalso; omega)))
                simp only [Act.put, List.setIfInBounds_toArray, List.set_cons_zero, List.set_cons_succ]
                refine AnyT.ld 2 147 ?_ _ rfl rfl (by kernel_rfl) (fun _ _ _ h => h) HS0.out rfl ?_ ?_
                rotate_left
                focus (intro w' hSw; have hs := HSI.out w' hSw; go_split_ands; go_simp; try (first | exact rfl | omega | go_num | (intro hbd; exfalso; omega)))
                simp only [Act.put, List.setIfInBounds_toArray, List.set_cons_zero, List.set_cons_succ]
                refine AnyT.ld 3 148 ?_ _ rfl rfl (by kernel_rfl) (fun _ _ _ h => h) HS0.out rfl ?_ ?_
                rotate_left
                focus (intro w' hSw; have hs := HSI.out w' hSw; go_split_ands; go_simp; try (first | exact rfl | omega | go_num | (intro hbd; exfalso; omega)))
                simp only [Act.put, List.setIfInBounds_toArray, List.set_cons_zero, List.set_cons_succ]
                refine AnyT.ld 4 149 ?_ _ rfl rfl (by kernel_rfl) (fun _ _ _ h => h) HS0.out rfl ?_ ?_
                rotate_left
                focus (intro w' hSw; have hs := HSI.out w' hSw; go_split_ands; go_simp; try (first | exact rfl | omega | go_num | (intro hbd; exfalso; omega)))
                simp only [Act.put, List.setIfInBounds_toArray, List.set_cons_zero, List.set_cons_succ]
                refine AnyT.ld 5 150 ?_ _ rfl rfl (by kernel_rfl) (fun _ _ _ h => h) HS0.out rfl ?_ ?_
                rotate_left
                focus (intro w' hSw; have hs := HSI.out w' hSw; go_split_ands; go_simp; try (first | exact rfl | omega | go_num | (intro hbd; exfalso; omega)))
                simp only [Act.put, List.setIfInBounds_toArray, List.set_cons_zero, List.set_cons_succ]
                refine AnyT.ld 6 151 ?_ _ rfl rfl (by kernel_rfl) (fun _ _ _ h => h) HS0.out rfl ?_ ?_
                rotate_left
                focus (intro w' hSw; have hs := HSI.out w' hSw; go_split_ands; go_simp; try (first | exact rfl | omega | go_num | (intro hbd; exfalso; omega)))
                simp only [Act.put, List.setIfInBounds_toArray, List.set_cons_zero, List.set_cons_succ]
                refine AnyT.ld 7 152 ?_ _ rfl rfl (by kernel_rfl) (fun _ _ _ h => h) HS0.out rfl ?_ ?_
                rotate_left
                focus (intro w' hSw; have hs := HSI.out w' hSw; go_split_ands; go_simp; try (first | exact rfl | omega | go_num | (intro hbd; exfalso; omega)))
                simp only [Act.put, List.setIfInBounds_toArray, List.set_cons_zero, List.set_cons_succ]
                refine AnyT.ld 8 153 ?_ _ rfl rfl (by kernel_rfl) (fun _ _ _ h => h) HS0.out rfl ?_ ?_
                rotate_left
                focus (intro w' hSw; have hs := HSI.out w' hSw; go_split_ands; go_simp; try (first | exact rfl | omega | go_num | (intro hbd; exfalso; omega)))
                simp only [Act.put, List.setIfInBounds_toArray, List.set_cons_zero, List.set_cons_succ]
                refine AnyT.ld 9 154 ?_ _ rfl rfl (by kernel_rfl) (fun _ _ _ h => h) HS0.out rfl ?_ ?_
                rotate_left
                focus (intro w' hSw; have hs := HSI.out w' hSw; go_split_ands; go_simp; try (first | exact rfl | omega | go_num | (intro hbd; exfalso; omega)))
                simp only [Act.put, List.setIfInBounds_toArray, List.set_cons_zero, List.set_cons_succ]
                refine AnyT.ld 10 155 (.bool true) _ rfl rfl (by kernel_rfl) (fun _ _ _ h => h) HS0.out rfl ?_ ?_
                focus (intro w' hSw; have hs := HSI.out w' hSw; go_split_ands; go_simp; try (first | exact rfl | omega | go_num | (intro hbd; exfalso; omega)))
                simp only [Act.put, List.setIfInBounds_toArray, List.set_cons_zero, List.set_cons_succ]
                refine AnyT.ld 11 156 ?_ _ rfl rfl (by kernel_rfl) (fun _ _ _ h => h) HS0.out rfl ?_ ?_
                rotate_left
                focus (intro w' hSw; have hs := HSI.out w' hSw; go_split_ands; go_simp; try (first | exact rfl | omega | go_num | (intro hbd; exfalso; omega)))
                simp only [Act.put, List.setIfInBounds_toArray, List.set_cons_zero, List.set_cons_succ]
                refine AnyT.ld 12 157 ?_ _ rfl rfl (by kernel_rfl) (fun _ _ _ h => h) HS0.out rfl ?_ ?_
                rotate_left
                focus (intro w' hSw; have hs := HSI.out w' hSw; go_split_ands; go_simp; try (first | exact rfl | omega | go_num | (intro hbd; exfalso; omega)))
                simp only [Act.put, List.setIfInBounds_toArray, List.set_cons_zero, List.set_cons_succ]
                refine AnyT.ld 13 158 ?_ _ rfl rfl (by kernel_rfl) (fun _ _ _ h => h) HS0.out rfl ?_ ?_
                rotate_left
                focus (intro w' hSw; have hs := HSI.out w' hSw; go_split_ands; go_simp; try (first | exact rfl | omega | go_num | (intro hbd; exfalso; omega)))
                simp only [Act.put, List.setIfInBounds_toArray, List.set_cons_zero, List.set_cons_succ]
                refine AnyT.ld 14 159 ?_ _ rfl rfl (by kernel_rfl) (fun _ _ _ h => h) HS0.out rfl ?_ ?_
                rotate_left
                focus (intro w' hSw; have hs := HSI.out w' hSw; go_split_ands; go_simp; try (first | exact rfl | omega | go_num | (intro hbd; exfalso; omega)))
                simp only [Act.put, List.setIfInBounds_toArray, List.set_cons_zero, List.set_cons_succ]
                refine AnyT.step 15 (by kernel_rfl) ?_
                intro o ho K hK
                simp only [List.getElem?_toArray, List.getElem?_cons_succ, List.getElem?_cons_zero, Option.some.injEq] at ho
                subst ho
                go_simp
                refine (RC.out _).mono ?_
                rintro e wn ⟨v1, rfl, h1, hxn⟩
                have hyn := HS0.out.trans hxn
                refine hK.out _ _ (fun _ => hyn) ?_
                clear HS0 hK
                have HS0 := Lib.hid hyn
                clear hyn hxn
                refine AnyT.step 16 (by kernel_rfl) ?_
                intro o ho K hK
                simp only [List.getElem?_toArray, List.getElem?_cons_succ, List.getElem?_cons_zero, Option.some.injEq] at ho
                subst ho
                go_simp
                refine (rfsub_any _ _ _ _ _ (VS1.out.ext HS0.out) h1 FC.out FC.out (by decide)).mono ?_
                rintro e wn ⟨v2, rfl, h2, hxn⟩
                have hyn := HS0.out.trans hxn
                refine hK.out _ _ (fun _ => hyn) ?_
                clear HS0 hK
                have HS0 := Lib.hid hyn
                clear hyn hxn
                rw [Rat.sub_self] at h2
                refine AnyT.step 17 (by kernel_rfl) ?_
                intro o ho K hK
                simp only [List.getElem?_toArray, List.getElem?_cons_succ, List.getElem?_cons_zero, Option.some.injEq] at ho
                subst ho
                go_simp
                refine (rfsign_any _ _ _ h2).mono ?_
                rintro e wn ⟨rfl, hxn⟩
                have hyn := HS0.out.trans hxn
                refine hK.out _ _ (fun _ => hyn) ?_
                clear HS0 hK
                have HS0 := Lib.hid hyn
                clear hyn hxn
                clear h1 h2
                rw [show (0 : Rat).num.sign = 0 from rfl]
                refine AnyT.ld 18 163 ?_ _ rfl rfl (by kernel_rfl) (fun _ _ _ h => h) HS0.out rfl ?_ ?_
                rotate_left
                focus (intro w' hSw; have hs := HSI.out w' hSw; go_split_ands; go_simp; try (first | exact rfl | omega | go_num | (intro hbd; exfalso; omega)))
                simp only [Act.put, List.setIfInBounds_toArray, List.set_cons_zero, List.set_cons_succ]
                refine AnyT.ld 19 164 ?_ _ rfl rfl (by kernel_rfl) (fun _ _ _ h => h) HS0.out rfl ?_ ?_
                rotate_left
                focus (intro w' hSw; have hs := HSI.out w' hSw; go_split_ands; go_simp; try (first | exact rfl | omega | go_num | (intro hbd; exfalso; omega)))
                simp only [Act.put, List.setIfInBounds_toArray, List.set_cons_zero, List.set_cons_succ]
                refine AnyT.ld 20 165 ?_ _ rfl rfl (by kernel_rfl) (fun _ _ _ h => h) HS0.out rfl ?_ ?_
                rotate_left
                focus (intro w' hSw; have hs := HSI.out w' hSw; go_split_ands; go_simp; try (first | exact rfl | omega | go_num | (intro hbd; exfalso; omega)))
                simp only [Act.put, List.setIfInBounds_toArray, List.set_cons_zero, List.set_cons_succ]
                refine AnyT.ld 21 166 ?_ _ rfl rfl (by kernel_rfl) (fun _ _ _ h => h) HS0.out rfl ?_ ?_
                rotate_left
                focus (intro w' hSw; have hs := HSI.out w' hSw; go_split_ands; go_simp; try (first | exact rfl | omega | go_num | (intro hbd; exfalso; omega)))
                simp only [Act.put, List.setIfInBounds_toArray, List.set_cons_zero, List.set_cons_succ]
                refine AnyT.ld 22 167 ?_ _ rfl rfl (by kernel_rfl) (fun _ _ _ h => h) HS0.out rfl ?_ ?_
                rotate_left
                focus (intro w' hSw; have hs := HSI.out w' hSw; go_split_ands; go_simp; try (first | exact rfl | omega | go_num | (intro hbd; exfalso; omega)))
                simp only [Act.put, List.setIfInBounds_toArray, List.set_cons_zero, List.set_cons_succ]
                refine AnyT.step 23 (by kernel_rfl) ?_
                intro o ho K hK
                simp only [List.getElem?_toArray, List.getElem?_cons_succ, List.getElem?_cons_zero, Option.some.injEq] at ho
                subst ho
                go_simp
                refine (rfsub_any _ _ _ _ _ (VS2.out.ext HS0.out) (VS1.out.ext HS0.out) GFC'.out FC.out (by omega)).mono ?_
                rintro e wn ⟨v1, rfl, h1, hxn⟩
                have hyn := HS0.out.trans hxn
                refine hK.out _ _ (fun _ => hyn) ?_
                clear HS0 hK
                have HS0 := Lib.hid hyn
                clear hyn hxn
                refine AnyT.step 24 (by kernel_rfl) ?_
                intro o ho K hK
                simp only [List.getElem?_toArray, List.getElem?_cons_succ, List.getElem?_cons_zero, Option.some.injEq] at ho
                subst ho
                go_simp
                refine (rfsign_any _ _ _ h1).mono ?_
                rintro e wn ⟨rfl, hxn⟩
                have hyn := HS0.out.trans hxn
                refine hK.out _ _ (fun _ => hyn) ?_
                clear HS0 hK
                have HS0 := Lib.hid hyn
                clear hyn hxn
                clear h1
                generalize (s2 - lc).num.sign = sg at *
                refine AnyT.ld 25 170 (.bool true) _ rfl rfl (by kernel_rfl) (fun _ _ _ h => h) HS0.out rfl ?_ ?_
                focus (intro w' hSw; have hs := HSI.out w' hSw; go_split_ands; go_simp; try (first | exact rfl | omega | go_num | (intro hbd; exfalso; omega)))
                simp only [Act.put, List.setIfInBounds_toArray, List.set_cons_zero, List.set_cons_succ]
                refine AnyT.ld 26 171 ?_ _ rfl rfl (by kernel_rfl) (fun _ _ _ h => h) HS0.out rfl ?_ ?_
                rotate_left
                focus (intro w' hSw; have hs := HSI.out w' hSw; go_split_ands; go_simp; try (first | exact rfl | omega | go_num | (intro hbd; exfalso; omega)))
                simp only [Act.put, List.setIfInBounds_toArray, List.set_cons_zero, List.set_cons_succ]
                refine AnyT.ld 27 172 ?_ _ rfl rfl (by kernel_rfl) (fun _ _ _ h => h) HS0.out rfl ?_ ?_
                rotate_left
                focus (intro w' hSw; have hs := HSI.out w' hSw; go_split_ands; go_simp; try (first | exact rfl | omega | go_num | (intro hbd; exfalso; omega)))
                simp only [Act.put, List.setIfInBounds_toArray, List.set_cons_zero, List.set_cons_succ]
                refine AnyT.ld 28 173 ?_ _ rfl rfl (by kernel_rfl) (fun _ _ _ h => h) HS0.out rfl ?_ ?_
                rotate_left
                focus (intro w' hSw; have hs := HSI.out w' hSw; go_split_ands; go_simp; try (first | exact rfl | omega | go_num | (intro hbd; exfalso; omega)))
                simp only [Act.put, List.setIfInBounds_toArray, List.set_cons_zero, List.set_cons_succ]
                refine AnyT.ld 29 174 ?_ _ rfl rfl (by kernel_rfl) (fun _ _ _ h => h) HS0.out rfl ?_ ?_
                rotate_left
                focus (intro w' hSw; have hs := HSI.out w' hSw; go_split_ands; go_simp; try (first | exact rfl | omega | go_num | (intro hbd; exfalso; omega)))
                simp only [Act.put, List.setIfInBounds_toArray, List.set_cons_zero, List.set_cons_succ]
                refine AnyT.step 30 (by kernel_rfl) ?_
                intro o ho K hK
                simp only [List.getElem?_toArray, List.getElem?_cons_succ, List.getElem?_cons_zero, Option.some.injEq] at ho
                subst ho
                go_simp
                refine (RCMP.out _).mono ?_
                rintro e wn ⟨sc, hsc, rfl, hxn⟩
                have hyn := HS0.out.trans hxn
                refine hK.out _ _ (fun _ => hyn) ?_
                clear HS0 hK
                have HS0 := Lib.hid hyn
                clear hyn hxn
                refine AnyT.ld 31 176 (.bool true) _ rfl rfl (by kernel_rfl) (fun _ _ _ h => h) HS0.out rfl ?_ ?_
                focus (intro w' hSw; have hs := HSI.out w' hSw; go_split_ands; go_simp; try (first | exact rfl | omega | go_num | (intro hbd; exfalso; omega)))
                simp only [Act.put, List.setIfInBounds_toArray, List.set_cons_zero, List.set_cons_succ]
                refine AnyT.ld 32 177 ?_ _ rfl rfl (by kernel_rfl) (fun _ _ _ h => h) HS0.out rfl ?_ ?_
                rotate_left
                focus (intro w' hSw; have hs := HSI.out w' hSw; go_split_ands; go_simp; try (first | exact rfl | omega | go_num | (intro hbd; exfalso; omega)))
                simp only [Act.put, List.setIfInBounds_toArray, List.set_cons_zero, List.set_cons_succ]
                refine AnyT.ld 33 178 ?_ _ rfl rfl (by kernel_rfl) (fun _ _ _ h => h) HS0.out rfl ?_ ?_
                rotate_left
                focus (intro w' hSw; have hs := HSI.out w' hSw; go_split_ands; go_simp; try (first | exact rfl | omega | go_num | (intro hbd; exfalso; omega)))
                simp only [Act.put, List.setIfInBounds_toArray, List.set_cons_zero, List.set_cons_succ]
                refine AnyT.ld 34 179 ?_ _ rfl rfl (by kernel_rfl) (fun _ _ _ h => h) HS0.out rfl ?_ ?_
                rotate_left
                focus (intro w' hSw; have hs := HSI.out w' hSw; go_split_ands; go_simp; try (first | exact rfl | omega | go_num | (intro hbd; exfalso; omega)))
                simp only [Act.put, List.setIfInBounds_toArray, List.set_cons_zero, List.set_cons_succ]
                refine AnyT.ld 35 180 ?_ _ rfl rfl (by kernel_rfl) (fun _ _ _ h => h) HS0.out rfl ?_ ?_
                rotate_left
                focus (intro w' hSw; have hs := HSI.out w' hSw; go_split_ands; go_simp; try (first | exact rfl | omega | go_num | (intro hbd; exfalso; omega)))
                simp only [Act.put, List.setIfInBounds_toArray, List.set_cons_zero, List.set_cons_succ]
                refine AnyT.ld 36 181 ?_ _ rfl rfl (by kernel_rfl) (fun _ _ _ h => h) HS0.out rfl ?_ ?_
                rotate_left
                focus (intro w' hSw; have hs := HSI.out w' hSw; go_split_ands; go_simp; try (first | exact rfl | omega | go_num | (intro hbd; exfalso; omega)))
                simp only [Act.put, List.setIfInBounds_toArray, List.set_cons_zero, List.set_cons_succ]
                refine AnyT.ld 37 182 (.bool true) _ rfl rfl (by kernel_rfl) (fun _ _ _ h => h) HS0.out rfl ?_ ?_
                focus (intro w' hSw; have hs := HSI.out w' hSw; go_split_ands; go_simp; try (first | exact rfl | omega | go_num | (intro hbd; exfalso; omega)))
                simp only [Act.put, List.setIfInBounds_toArray, List.set_cons_zero, List.set_cons_succ]
                refine AnyT.ld 38 183 ?_ _ rfl rfl (by kernel_rfl) (fun _ _ _ h => h) HS0.out rfl ?_ ?_
                rotate_left
                focus (intro w' hSw; have hs := HSI.out w' hSw; go_split_ands; go_simp; try (first | exact rfl | omega | go_num | (intro hbd; exfalso; omega)))
                simp only [Act.put, List.setIfInBounds_toArray, List.set_cons_zero, List.set_cons_succ]
                refine AnyT.loadU 39 184 rfl (by kernel_rfl) (by kernel_rfl) (by kernel_rfl) (by kernel_rfl) (by kernel_rfl) (fun _ _ _ h => h) HS0.out ?_ ?_
                · intro o ho
                  simp only [List.getElem?_toArray, List.getElem?_cons_succ, List.getElem?_cons_zero, Option.some.injEq] at ho
                  subst ho
                  exact ⟨rfl, rfl⟩
                simp only [Act.put, List.setIfInBounds_toArray, List.set_cons_zero, List.set_cons_succ]
                refine AnyT.loadU 40 185 rfl (by kernel_rfl) (by kernel_rfl) (by kernel_rfl) (by kernel_rfl) (by kernel_rfl) (fun _ _ _ h => h) HS0.out ?_ ?_
                · intro o ho
                  simp only [List.getElem?_toArray, List.getElem?_cons_succ, List.getElem?_cons_zero, Option.some.injEq] at ho
                  subst ho
                  exact ⟨rfl, rfl⟩
                simp only [Act.put, List.setIfInBounds_toArray, List.set_cons_zero, List.set_cons_succ]
                refine AnyT.ld 41 186 ?_ _ rfl rfl (by kernel_rfl) (fun _ _ _ h => h) HS0.out rfl ?_ ?_
                rotate_left
                focus (intro w' hSw; have hs := HSI.out w' hSw; go_split_ands; go_simp; try (first | exact rfl | omega | go_num | (intro hbd; exfalso; omega)))
                simp only [Act.put, List.setIfInBounds_toArray, List.set_cons_zero, List.set_cons_succ]
                refine AnyT.ld 42 187 ?_ _ rfl rfl (by kernel_rfl) (fun _ _ _ h => h) HS0.out rfl ?_ ?_
                rotate_left
                focus (intro w' hSw; have hs := HSI.out w' hSw; go_split_ands; go_simp; try (first | exact rfl | omega | go_num | (intro hbd; exfalso; omega)))
                simp only [Act.put, List.setIfInBounds_toArray, List.set_cons_zero, List.set_cons_succ]
                refine AnyT.ld 43 188 ?_ _ rfl rfl (by kernel_rfl) (fun _ _ _ h => h) HS0.out rfl ?_ ?_
                rotate_left
                focus (intro w' hSw; have hs := HSI.out w' hSw; go_split_ands; go_simp; try (first | exact rfl | omega | go_num | (intro hbd; exfalso; omega)))
                simp only [Act.put, List.setIfInBounds_toArray, List.set_cons_zero, List.set_cons_succ]
                refine AnyT.step 44 (by kernel_rfl) ?_
                intro o ho K hK
                simp only [List.getElem?_toArray, List.getElem?_cons_succ, List.getElem?_cons_zero, Option.some.injEq] at ho
                subst ho
                go_simp
                refine (lsane_any _ (HTr.out.ext HS0.out)).mono ?_
                rintro e wn ⟨rfl, hxn⟩
                have hyn := HS0.out.trans hxn
                refine hK.out _ _ (fun _ => hyn) ?_
                clear HS0 hK
                have HS0 := Lib.hid hyn
                clear hyn hxn
                refine AnyT.ld 45 190 ?_ _ rfl rfl (by kernel_rfl) (fun _ _ _ h => h) HS0.out rfl ?_ ?_
                rotate_left
                focus (intro w' hSw; have hs := HSI.out w' hSw; go_split_ands; go_simp; try (first | exact rfl | omega | go_num | (intro hbd; exfalso; omega)))
                simp only [Act.put, List.setIfInBounds_toArray, List.set_cons_zero, List.set_cons_succ]
                refine AnyT.ld 46 2 ?_ _ rfl rfl (by kernel_rfl) (fun _ _ _ h => h) HS0.out rfl ?_ ?_
                rotate_left
                focus (intro w' hSw; have hs := HSI.out w' hSw; go_split_ands; go_simp; try (first | exact rfl | omega | go_num | (intro hbd; exfalso; omega)))
                simp only [Act.put, List.setIfInBounds_toArray, List.set_cons_zero, List.set_cons_succ]
                refine AnyT.done (by kernel_rfl) ?_
                have HXn := Lib.hid (HXr.out.trans HS0.out)
                clear HSI HS0
                go_wp2
                go_ret
                exact ⟨rfl, HXn.out⟩
              · have hz0 : tc = [48] := by rw [← HTC.out]; exact ratText_zero.2 (GF.out (by omega))
                subst hz0
                refine AnyT.ld 0 145 ?_ _ rfl rfl (by kernel_rfl) (fun _ _ _ h => h) HS0.out rfl ?_ ?_
                rotate_left
                focus (intro w' hSw; have hs := HSI.out w' hSw; go_split_ands; go_simp; try (first | exact rfl | omega | go_num | (intro hbd; exfalso; omega)))
                simp only [Act.put, List.setIfInBounds_toArray, List.set_cons_zero, List.set_cons_succ]
                refine AnyT.ld 1 146 ?_ _ rfl rfl (by kernel_rfl) (fun _ _ _ h => h) HS0.out rfl ?_ ?_
                rotate_left
                focus (intro w' hSw; have hs := HSI.out w' hSw; go_split_ands; go_simp; try (first | exact rfl | omega | go_num | (intro hbd; exfalso; omega)))
                simp only [Act.put, List.setIfInBounds_toArray, List.set_cons_zero, List.set_cons_succ]
                refine AnyT.ld 2 147 ?_ _ rfl rfl (by kernel_rfl) (fun _ _ _ h => h) HS0.out rfl ?_ ?_
                rotate_left
                focus (intro w' hSw; have hs := HSI.out w' hSw; go_split_ands; go_simp; try (first | exact rfl | omega | go_num | (intro hbd; exfalso; omega)))
                simp only [Act.put, List.setIfInBounds_toArray, List.set_cons_zero, List.set_cons_succ]
                refine AnyT.ld 3 148 ?_ _ rfl rfl (by kernel_rfl) (fun _ _ _ h => h) HS0.out rfl ?_ ?_
                rotate_left
                focus (intro w' hSw; have hs := HSI.out w' hSw; go_split_ands; go_simp; try (first | exact rfl | omega | go_num | (intro hbd; exfalso; omega)))
                simp only [Act.put, List.setIfInBounds_toArray, List.set_cons_zero, List.set_cons_succ]
                refine AnyT.ld 4 149 ?_ _ rfl rfl (by kernel_rfl) (fun _ _ _ h => h) HS0.out rfl ?_ ?_
                rotate_left
                focus (intro w' hSw; have hs := HSI.out w' hSw; go_split_ands; go_simp; try (first | exact rfl | omega | go_num | (intro hbd; exfalso; omega)))
                simp only [Act.put, List.setIfInBounds_toArray, List.set_cons_zero, List.set_cons_succ]
                refine AnyT.ld 5 150 ?_ _ rfl rfl (by kernel_rfl) (fun _ _ _ h => h) HS0.out rfl ?_ ?_
                rotate_left
                focus (intro w' hSw; have hs := HSI.out w' hSw; go_split_ands; go_simp; try (first | exact rfl | omega | go_num | (intro hbd; exfalso; omega)))
                simp only [Act.put, List.setIfInBounds_toArray, List.set_cons_zero, List.set_cons_succ]
                refine AnyT.ld 6 151 ?_ _ rfl rfl (by kernel_rfl) (fun _ _ _ h => h) HS0.out rfl ?_ ?_
                rotate_left
                focus (intro w' hSw; have hs := HSI.out w' hSw; go_split_ands; go_simp; try (first | exact rfl | omega | go_num | (intro hbd; exfalso; omega)))
                simp only [Act.put, List.setIfInBounds_toArray, List.set_cons_zero, List.set_cons_succ]
                refine AnyT.ld 7 152 ?_ _ rfl rfl (by kernel_rfl) (fun _ _ _ h => h) HS0.out rfl ?_ ?_
                rotate_left
                focus (intro w' hSw; have hs := HSI.out w' hSw; go_split_ands; go_simp; try (first | exact rfl | omega | go_num | (intro hbd; exfalso; omega)))
                simp only [Act.put, List.setIfInBounds_toArray, List.set_cons_zero, List.set_cons_succ]
                refine AnyT.ld 8 153 ?_ _ rfl rfl (by kernel_rfl) (fun _ _ _ h => h) HS0.out rfl ?_ ?_
                rotate_left
                focus (intro w' hSw; have hs := HSI.out w' hSw; go_split_ands; go_simp; try (first | exact rfl | omega | go_num | (intro hbd; exfalso; omega)))
                simp only [Act.put, List.setIfInBounds_toArray, List.set_cons_zero, List.set_cons_succ]
                refine AnyT.ld 9 154 ?_ _ rfl rfl (by kernel_rfl) (fun _ _ _ h => h) HS0.out rfl ?_ ?_
                rotate_left
                focus (intro w' hSw; have hs := HSI.out w' hSw; go_split_ands; go_simp; try (first | exact rfl | omega | go_num | (intro hbd; exfalso; omega)))
                simp only [Act.put, List.setIfInBounds_toArray, List.set_cons_zero, List.set_cons_succ]
                refine AnyT.ld 10 155 (.bool true) _ rfl rfl (by kernel_rfl) (fun _ _ _ h => h) HS0.out rfl ?_ ?_
                focus (intro w' hSw; have hs := HSI.out w' hSw; go_split_ands; go_simp; try (first | exact rfl | omega | go_num | (intro hbd; exfalso; omega)))
                simp only [Act.put, List.setIfInBounds_toArray, List.set_cons_zero, List.set_cons_succ]
                refine AnyT.ld 11 156 ?_ _ rfl rfl (by kernel_rfl) (fun _ _ _ h => h) HS0.out rfl ?_ ?_
                rotate_left
                focus (intro w' hSw; have hs := HSI.out w' hSw; go_split_ands; go_simp; try (first | exact rfl | omega | go_num | (intro hbd; exfalso; omega)))
                simp only [Act.put, List.setIfInBounds_toArray, List.set_cons_zero, List.set_cons_succ]
                refine AnyT.ld 12 157 ?_ _ rfl rfl (by kernel_rfl) (fun _ _ _ h => h) HS0.out rfl ?_ ?_
                rotate_left
                focus (intro w' hSw; have hs := HSI.out w' hSw; go_split_ands; go_simp; try (first | exact rfl | omega | go_num | (intro hbd; exfalso; omega)))
                simp only [Act.put, List.setIfInBounds_toArray, List.set_cons_zero, List.set_cons_succ]
                refine AnyT.ld 13 158 ?_ _ rfl rfl (by kernel_rfl) (fun _ _ _ h => h) HS0.out rfl ?_ ?_
                rotate_left
                focus (intro w' hSw; have hs := HSI.out w' hSw; go_split_ands; go_simp; try (first | exact rfl | omega | go_num | (intro hbd; exfalso; omega)))
                simp only [Act.put, List.setIfInBounds_toArray, List.set_cons_zero, List.set_cons_succ]
                refine AnyT.ld 14 159 ?_ _ rfl rfl (by kernel_rfl) (fun _ _ _ h => h) HS0.out rfl ?_ ?_
                rotate_left
                focus (intro w' hSw; have hs := HSI.out w' hSw; go_split_ands; go_simp; try (first | exact rfl | omega | go_num | (intro hbd; exfalso; omega)))
                simp only [Act.put, List.setIfInBounds_toArray, List.set_cons_zero, List.set_cons_succ]
                refine AnyT.step 15 (by kernel_rfl) ?_
                intro o ho K hK
                simp only [List.getElem?_toArray, List.getElem?_cons_succ, List.getElem?_cons_zero, Option.some.injEq] at ho
                subst ho
                go_simp
                refine (RC.out _).mono ?_
                rintro e wn ⟨v1, rfl, h1, hxn⟩
                have hyn := HS0.out.trans hxn
                refine hK.out _ _ (fun _ => hyn) ?_
                clear HS0 hK
                have HS0 := Lib.hid hyn
                clear hyn hxn
                refine AnyT.step 16 (by kernel_rfl) ?_
                intro o ho K hK
                simp only [List.getElem?_toArray, List.getElem?_cons_succ, List.getElem?_cons_zero, Option.some.injEq] at ho
                subst ho
                go_simp
                refine (rfsub_any _ _ _ _ _ (VS1.out.ext HS0.out) h1 FC.out FC.out (by decide)).mono ?_
                rintro e wn ⟨v2, rfl, h2, hxn⟩
                have hyn := HS0.out.trans hxn
                refine hK.out _ _ (fun _ => hyn) ?_
                clear HS0 hK
                have HS0 := Lib.hid hyn
                clear hyn hxn
                rw [Rat.sub_self] at h2
                refine AnyT.step 17 (by kernel_rfl) ?_
                intro o ho K hK
                simp only [List.getElem?_toArray, List.getElem?_cons_succ, List.getElem?_cons_zero, Option.some.injEq] at ho
                subst ho
                go_simp
                refine (rfsign_any _ _ _ h2).mono ?_
                rintro e wn ⟨rfl, hxn⟩
                have hyn := HS0.out.trans hxn
                refine hK.out _ _ (fun _ => hyn) ?_
                clear HS0 hK
                have HS0 := Lib.hid hyn
                clear hyn hxn
                clear h1 h2
                rw [show (0 : Rat).num.sign = 0 from rfl]
                refine AnyT.ld 18 163 ?_ _ rfl rfl (by kernel_rfl) (fun _ _ _ h => h) HS0.out rfl ?_ ?_
                rotate_left
                focus (intro w' hSw; have hs := HSI.out w' hSw; go_split_ands; go_simp; try (first | exact rfl | omega | go_num | (intro hbd; exfalso; omega)))
                simp only [Act.put, List.setIfInBounds_toArray, List.set_cons_zero, List.set_cons_succ]
                refine AnyT.ld 19 164 ?_ _ rfl rfl (by kernel_rfl) (fun _ _ _ h => h) HS0.out rfl ?_ ?_
                rotate_left
                focus (intro w' hSw; have hs := HSI.out w' hSw; go_split_ands; go_simp; try (first | exact rfl | omega | go_num | (intro hbd; exfalso; omega)))
                simp only [Act.put, List.setIfInBounds_toArray, List.set_cons_zero, List.set_cons_succ]
                refine AnyT.ld 20 165 ?_ _ rfl rfl (by kernel_rfl) (fun _ _ _ h => h) HS0.out rfl ?_ ?_
                rotate_left
                focus (intro w' hSw; have hs := HSI.out w' hSw; go_split_ands; go_simp; try (first | exact rfl | omega | go_num | (intro hbd; exfalso; omega)))
                simp only [Act.put, List.setIfInBounds_toArray, List.set_cons_zero, List.set_cons_succ]
                refine AnyT.ld 21 166 ?_ _ rfl rfl (by kernel_rfl) (fun _ _ _ h => h) HS0.out rfl ?_ ?_
                rotate_left
                focus (intro w' hSw; have hs := HSI.out w' hSw; go_split_ands; go_simp; try (first | exact rfl | omega | go_num | (intro hbd; exfalso; omega)))
                simp only [Act.put, List.setIfInBounds_toArray, List.set_cons_zero, List.set_cons_succ]
                refine AnyT.ld 22 167 ?_ _ rfl rfl (by kernel_rfl) (fun _ _ _ h => h) HS0.out rfl ?_ ?_
                rotate_left
                focus (intro w' hSw; have hs := HSI.out w' hSw; go_split_ands; go_simp; try (first | exact rfl | omega | go_num | (intro hbd; exfalso; omega)))
                simp only [Act.put, List.setIfInBounds_toArray, List.set_cons_zero, List.set_cons_succ]
                refine AnyT.step 23 (by kernel_rfl) ?_
                intro o ho K hK
                simp only [List.getElem?_toArray, List.getElem?_cons_succ, List.getElem?_cons_zero, Option.some.injEq] at ho
                subst ho
                go_simp
                refine (rfsub_any _ _ _ _ _ (VS2.out.ext HS0.out) (VS1.out.ext HS0.out) GFC'.out FC.out (by omega)).mono ?_
                rintro e wn ⟨v1, rfl, h1, hxn⟩
                have hyn := HS0.out.trans hxn
                refine hK.out _ _ (fun _ => hyn) ?_
                clear HS0 hK
                have HS0 := Lib.hid hyn
                clear hyn hxn
                refine AnyT.step 24 (by kernel_rfl) ?_
                intro o ho K hK
                simp only [List.getElem?_toArray, List.getElem?_cons_succ, List.getElem?_cons_zero, Option.some.injEq] at ho
                subst ho
                go_simp
                refine (rfsign_any _ _ _ h1).mono ?_
                rintro e wn ⟨rfl, hxn⟩
                have hyn := HS0.out.trans hxn
                refine hK.out _ _ (fun _ => hyn) ?_
                clear HS0 hK
                have HS0 := Lib.hid hyn
                clear hyn hxn
                clear h1
                generalize (s2 - lc).num.sign = sg at *
                refine AnyT.ld 25 170 (.bool true) _ rfl rfl (by kernel_rfl) (fun _ _ _ h => h) HS0.out rfl ?_ ?_
                focus (intro w' hSw; have hs := HSI.out w' hSw; go_split_ands; go_simp; try (first | exact rfl | omega | go_num | (intro hbd; exfalso; omega)))
                simp only [Act.put, List.setIfInBounds_toArray, List.set_cons_zero, List.set_cons_succ]
                refine AnyT.ld 26 171 ?_ _ rfl rfl (by kernel_rfl) (fun _ _ _ h => h) HS0.out rfl ?_ ?_
                rotate_left
                focus (intro w' hSw; have hs := HSI.out w' hSw; go_split_ands; go_simp; try (first | exact rfl | omega | go_num | (intro hbd; exfalso; omega)))
                simp only [Act.put, List.setIfInBounds_toArray, List.set_cons_zero, List.set_cons_succ]
                refine AnyT.ld 27 172 ?_ _ rfl rfl (by kernel_rfl) (fun _ _ _ h => h) HS0.out rfl ?_ ?_
                rotate_left
                focus (intro w' hSw; have hs := HSI.out w' hSw; go_split_ands; go_simp; try (first | exact rfl | omega | go_num | (intro hbd; exfalso; omega)))
                simp only [Act.put, List.setIfInBounds_toArray, List.set_cons_zero, List.set_cons_succ]
                refine AnyT.ld 28 173 ?_ _ rfl rfl (by kernel_rfl) (fun _ _ _ h => h) HS0.out rfl ?_ ?_
                rotate_left
                focus (intro w' hSw; have hs := HSI.out w' hSw; go_split_ands; go_simp; try (first | exact rfl | omega | go_num | (intro hbd; exfalso; omega)))
                simp only [Act.put, List.setIfInBounds_toArray, List.set_cons_zero, List.set_cons_succ]
                refine AnyT.ld 29 174 ?_ _ rfl rfl (by kernel_rfl) (fun _ _ _ h => h) HS0.out rfl ?_ ?_
                rotate_left
                focus (intro w' hSw; have hs := HSI.out w' hSw; go_split_ands; go_simp; try (first | exact rfl | omega | go_num | (intro hbd; exfalso; omega)))
                simp only [Act.put, List.setIfInBounds_toArray, List.set_cons_zero, List.set_cons_succ]
                refine AnyT.step 30 (by kernel_rfl) ?_
                intro o ho K hK
                simp only [List.getElem?_toArray, List.getElem?_cons_succ, List.getElem?_cons_zero, Option.some.injEq] at ho
                subst ho
                go_simp
                refine (RCMP.out _).mono ?_
                rintro e wn ⟨sc, hsc, rfl, hxn⟩
                have hyn := HS0.out.trans hxn
                refine hK.out _ _ (fun _ => hyn) ?_
                clear HS0 hK
                have HS0 := Lib.hid hyn
                clear hyn hxn
                refine AnyT.ld 31 176 (.bool true) _ rfl rfl (by kernel_rfl) (fun _ _ _ h => h) HS0.out rfl ?_ ?_
                focus (intro w' hSw; have hs := HSI.out w' hSw; go_split_ands; go_simp; try (first | exact rfl | omega | go_num | (intro hbd; exfalso; omega)))
                simp only [Act.put, List.setIfInBounds_toArray, List.set_cons_zero, List.set_cons_succ]
                refine AnyT.ld 32 177 ?_ _ rfl rfl (by kernel_rfl) (fun _ _ _ h => h) HS0.out rfl ?_ ?_
                rotate_left
                focus (intro w' hSw; have hs := HSI.out w' hSw; go_split_ands; go_simp; try (first | exact rfl | omega | go_num | (intro hbd; exfalso; omega)))
                simp only [Act.put, List.setIfInBounds_toArray, List.set_cons_zero, List.set_cons_succ]
                refine AnyT.ld 33 178 ?_ _ rfl rfl (by kernel_rfl) (fun _ _ _ h => h) HS0.out rfl ?_ ?_
                rotate_left
                focus (intro w' hSw; have hs := HSI.out w' hSw; go_split_ands; go_simp; try (first | exact rfl | omega | go_num | (intro hbd; exfalso; omega)))
                simp only [Act.put, List.setIfInBounds_toArray, List.set_cons_zero, List.set_cons_succ]
                refine AnyT.ld 34 179 ?_ _ rfl rfl (by kernel_rfl) (fun _ _ _ h => h) HS0.out rfl ?_ ?_
                rotate_left
                focus (intro w' hSw; have hs := HSI.out w' hSw; go_split_ands; go_simp; try (first | exact rfl | omega | go_num | (intro hbd; exfalso; omega)))
                simp only [Act.put, List.setIfInBounds_toArray, List.set_cons_zero, List.set_cons_succ]
                refine AnyT.ld 35 180 ?_ _ rfl rfl (by kernel_rfl) (fun _ _ _ h => h) HS0.out rfl ?_ ?_
                rotate_left
                focus (intro w' hSw; have hs := HSI.out w' hSw; go_split_ands; go_simp; try (first | exact rfl | omega | go_num | (intro hbd; exfalso; omega)))
                simp only [Act.put, List.setIfInBounds_toArray, List.set_cons_zero, List.set_cons_succ]
                refine AnyT.ld 36 181 ?_ _ rfl rfl (by kernel_rfl) (fun _ _ _ h => h) HS0.out rfl ?_ ?_
                rotate_left
                focus (intro w' hSw; have hs := HSI.out w' hSw; go_split_ands; go_simp; try (first | exact rfl | omega | go_num | (intro hbd; exfalso; omega)))
                simp only [Act.put, List.setIfInBounds_toArray, List.set_cons_zero, List.set_cons_succ]
                refine AnyT.ld 37 182 (.bool false) _ rfl rfl (by kernel_rfl) (fun _ _ _ h => h) HS0.out rfl ?_ ?_
                focus (intro w' hSw; have hs := HSI.out w' hSw; go_split_ands; go_simp; try (first | exact rfl | omega | go_num | (intro hbd; exfalso; omega)))
                simp only [Act.put, List.setIfInBounds_toArray, List.set_cons_zero, List.set_cons_succ]
                refine AnyT.ld 38 183 ?_ _ rfl rfl (by kernel_rfl) (fun _ _ _ h => h) HS0.out rfl ?_ ?_
                rotate_left
                focus (intro w' hSw; have hs := HSI.out w' hSw; go_split_ands; go_simp; try (first | exact rfl | omega | go_num | (intro hbd; exfalso; omega)))
                simp only [Act.put, List.setIfInBounds_toArray, List.set_cons_zero, List.set_cons_succ]
                refine AnyT.ld 39 184 ?_ _ rfl rfl (by kernel_rfl) (fun _ _ _ h => h) HS0.out rfl ?_ ?_
                rotate_left
                focus (intro w' hSw; have hs := HSI.out w' hSw; go_split_ands; go_simp; try (first | exact rfl | omega | go_num | (intro hbd; exfalso; omega)))
                simp only [Act.put, List.setIfInBounds_toArray, List.set_cons_zero, List.set_cons_succ]
                refine AnyT.ld 40 185 ?_ _ rfl rfl (by kernel_rfl) (fun _ _ _ h => h) HS0.out rfl ?_ ?_
                rotate_left
                focus (intro w' hSw; have hs := HSI.out w' hSw; go_split_ands; go_simp; try (first | exact rfl | omega | go_num | (intro hbd; exfalso; omega)))
                simp only [Act.put, List.setIfInBounds_toArray, List.set_cons_zero, List.set_cons_succ]
                refine AnyT.ld 41 186 ?_ _ rfl rfl (by kernel_rfl) (fun _ _ _ h => h) HS0.out rfl ?_ ?_
                rotate_left
                focus (intro w' hSw; have hs := HSI.out w' hSw; go_split_ands; go_simp; try (first | exact rfl | omega | go_num | (intro hbd; exfalso; omega)))
                simp only [Act.put, List.setIfInBounds_toArray, List.set_cons_zero, List.set_cons_succ]
                refine AnyT.ld 42 187 ?_ _ rfl rfl (by kernel_rfl) (fun _ _ _ h => h) HS0.out rfl ?_ ?_
                rotate_left
                focus (intro w' hSw; have hs := HSI.out w' hSw; go_split_ands; go_simp; try (first | exact rfl | omega | go_num | (intro hbd; exfalso; omega)))
                simp only [Act.put, List.setIfInBounds_toArray, List.set_cons_zero, List.set_cons_succ]
                refine AnyT.ld 43 188 ?_ _ rfl rfl (by kernel_rfl) (fun _ _ _ h => h) HS0.out rfl ?_ ?_
                rotate_left
                focus (intro w' hSw; have hs := HSI.out w' hSw; go_split_ands; go_simp; try (first | exact rfl | omega | go_num | (intro hbd; exfalso; omega)))
                simp only [Act.put, List.setIfInBounds_toArray, List.set_cons_zero, List.set_cons_succ]
                refine AnyT.step 44 (by kernel_rfl) ?_
                intro o ho K hK
                simp only [List.getElem?_toArray, List.getElem?_cons_succ, List.getElem?_cons_zero, Option.some.injEq] at ho
                subst ho
                go_simp
                refine (lsane_any _ (HTr.out.ext HS0.out)).mono ?_
                rintro e wn ⟨rfl, hxn⟩
                have hyn := HS0.out.trans hxn
                refine hK.out _ _ (fun _ => hyn) ?_
                clear HS0 hK
                have HS0 := Lib.hid hyn
                clear hyn hxn
                refine AnyT.ld 45 190 ?_ _ rfl rfl (by kernel_rfl) (fun _ _ _ h => h) HS0.out rfl ?_ ?_
                rotate_left
                focus (intro w' hSw; have hs := HSI.out w' hSw; go_split_ands; go_simp; try (first | exact rfl | omega | go_num | (intro hbd; exfalso; omega)))
                simp only [Act.put, List.setIfInBounds_toArray, List.set_cons_zero, List.set_cons_succ]
                refine AnyT.ld 46 2 ?_ _ rfl rfl (by kernel_rfl) (fun _ _ _ h => h) HS0.out rfl ?_ ?_
                rotate_left
                focus (intro w' hSw; have hs := HSI.out w' hSw; go_split_ands; go_simp; try (first | exact rfl | omega | go_num | (intro hbd; exfalso; omega)))
                simp only [Act.put, List.setIfInBounds_toArray, List.set_cons_zero, List.set_cons_succ]
                refine AnyT.done (by kernel_rfl) ?_
                have HXn := Lib.hid (HXr.out.trans HS0.out)
                clear HSI HS0
                go_wp2
                go_ret
                exact ⟨rfl, HXn.out⟩
  · have hd : decide (zs.length ≤ 600) = false := decide_eq_false hl
    rw [hd]
    go_wp2_with fail
    refine (lsane_any w HT.out).mono ?_
    rintro e w1 ⟨rfl, hx1⟩
    go_wp2
    go_ret
    exact ⟨rfl, hx1⟩
end Go.Proofs.YtkhmfgkbobblmaaGreatDoor
