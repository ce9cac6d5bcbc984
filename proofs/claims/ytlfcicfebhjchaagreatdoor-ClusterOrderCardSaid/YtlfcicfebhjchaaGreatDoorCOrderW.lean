/- joinlearnlaw28.ClusterOrder, walked: it returns true. -/
import Derived.Test.YtlfcicfebhjchaaGreatDoorCSane
import Derived.Test.YtlfcicfebhjchaaGreatDoorCPlain
import Derived.Test.YtlfcicfebhjchaaGreatDoorShuf
namespace Go.Proofs.YtlfcicfebhjchaaGreatDoor
open Go.RowKit Go.Lib

/-- points in another order -/
def turn (l : List Pt) (ks : List Int) : List Pt := ks.map fun z => l.getD z.toNat ([], 0)
theorem turn_next {l : List Pt} {ks : List Int} {t : Nat} (h : t < ks.length) : turn l (ks.take (t + 1)) = turn l (ks.take t) ++ [l.getD ks[t].toNat ([], 0)] := by
  unfold turn
  rw [List.take_succ_eq_append_getElem h, List.map_append]
  rfl
theorem turn_upto (l : List Pt) : turn l (upto l.length) = l := by
  unfold turn upto
  rw [List.map_map]
  refine List.ext_getElem (by simp) fun i h1 h2 => ?_
  simp [h2]
theorem turn_perm {l : List Pt} {ks : List Int} (h : ks.Perm (upto l.length)) : (turn l ks).Perm l := by
  have h1 : (turn l ks).Perm (turn l (upto l.length)) := h.map _
  rwa [turn_upto] at h1
theorem upto_mem {n : Nat} {ks : List Int} (h : ks.Perm (upto n)) {z : Int} (hz : z ∈ ks) : ∃ k : Nat, k < n ∧ z = (k : Int) := by
  have := h.mem_iff.1 hz
  unfold upto at this
  obtain ⟨k, hk, rfl⟩ := List.mem_map.1 this
  exact ⟨k, by simpa using hk, rfl⟩
theorem made_perm {n : Nat} {l m : List Pt} (h : m.Perm l) (hl : MadeL n l) : MadeL n m := fun x hx => hl x (h.mem_iff.1 hx)
set_option maxRecDepth 100000 in
set_option maxHeartbeats 4000000 in
theorem corder_walk (t : TypeId) (A : Option Addr) (zs : List Int) (c : Nat) (w : World) (hc : zs.length ≤ c) (hm : c ≤ 9223372036854775807) (hs : Sl w t A (zcells zs)) (hz : ∀ z ∈ zs, -9223372036854775808 ≤ z ∧ z ≤ 9223372036854775807) (ht : Tab w) :
    Calls Tryz.prog 4 #[.slice A zs.length c] w fun e w' => e = .returned (.bool true) ∧ Ext w w' := by
  have HS := Lib.hid hs
  have HZ := Lib.hid hz
  have HT := Lib.hid ht
  clear hs hz ht
  go_enter Tryz.func4, Tryz.ntmps4
  go_wp2_with fail
  refine (light_any A zs.length c w (by omega)).mono ?_
  rintro e w0 ⟨rfl, rfl⟩
  by_cases hl : zs.length ≤ 600
  · have hd : decide (zs.length ≤ 600) = true := decide_eq_true hl
    rw [hd]
    go_wp2_with fail
    refine (mnew_any t A zs c w hc hm hl HS.out HZ.out).mono ?_
    rintro e w1 ⟨rfl, hsrc1, hx1⟩
    clear hd
    go_wp2_with fail
    refine (range_any w.heap.size 1 2 w1 hsrc1 (by decide) (by decide)).mono ?_
    rintro e w2 ⟨n, hn1, hn2, rfl, hsrc2, ho2⟩
    have hn3 : n ≤ 3 := by omega
    have HX2 := Lib.hid (hx1.only ho2 (Nat.le_refl _))
    clear hx1 ho2 hsrc1 hl
    go_wp2_with fail
    refine (cores_any w.heap.size n 7 w2 hsrc2 hn3 (by decide)).mono ?_
    rintro e w3 ⟨Al, cl, l, hll, hml, rfl, hcl, hs3, ho3⟩
    have HX3 := Lib.hid (HX2.out.only ho3 (Nat.le_refl _))
    have HML : Hid (MadeL n l) := hml
    clear ho3 hsrc2 hml
    go_wp2_with fail
    refine (places_any w.heap.size n 3 w3 hs3 hn3 (by decide)).mono ?_
    rintro e w4 ⟨Ac, cc, cs, hcn, hmc, rfl, hpl, hs4, ho4⟩
    have HX4 := Lib.hid (HX3.out.only ho4 (Nat.le_refl _))
    have HMC : Hid (MadeC n cs) := hmc
    have hk4 := Src.kept (t := tRat) hs3 ho4 (by decide)
    have hk4' := Src.kept (t := tCore) hs3 ho4 (by decide)
    have hcl4 : CL w4 (.slice Al l.length cl) l := hcl.keep CoR.stab (fun u hu => by
      simp only [List.mem_cons, List.not_mem_nil, or_false] at hu
      rcases hu with rfl | rfl
      · exact hk4'
      · exact hk4)
    have HCL4 := Lib.hid hcl4
    have HPL4 := Lib.hid hpl
    have hcl' : cl ≤ 9223372036854775807 := by
      obtain ⟨_, _, e, _, h, _⟩ := hcl4.parts
      injection e with _ _ e
      subst e
      unfold maxLen at h; omega
    clear ho4 hs3 hmc hk4 hk4' hcl hcl4 hpl
    go_wp2_with fail
    refine (shuffle_any w.heap.size l.length w4 hs4 (by omega)).mono ?_
    rintro e w5 ⟨Ak, ck, ks, hkl, hkp, rfl, hik, hs5, ho5⟩
    have HX5 := Lib.hid (HX4.out.only ho5 (Nat.le_refl _))
    have hk5 := Src.kept (t := tRat) hs4 ho5 (by decide)
    have hk5' := Src.kept (t := tCore) hs4 ho5 (by decide)
    have hk5'' := Src.kept (t := tRats) hs4 ho5 (by decide)
    have HCL : Hid (CL w5 (.slice Al l.length cl) l) := HCL4.out.keep CoR.stab (fun u hu => by
      simp only [List.mem_cons, List.not_mem_nil, or_false] at hu
      rcases hu with rfl | rfl
      · exact hk5'
      · exact hk5)
    have HPL : Hid (PL w5 (.slice Ac cs.length cc) cs) := HPL4.out.keep PR.stab (fun u hu => by
      simp only [List.mem_cons, List.not_mem_nil, or_false] at hu
      rcases hu with rfl | rfl
      · exact hk5''
      · exact hk5)
    have HIK := Lib.hid hik
    have HKP := Lib.hid hkp
    have HKL := Lib.hid hkl
    have hck : ck ≤ 9223372036854775807 := by
      rw [← hkl] at hik
      obtain ⟨_, _, e, _, h, _⟩ := hik.parts
      injection e with _ _ e
      subst e
      unfold maxLen at h; omega
    clear ho5 hs4 hk5 hk5' hk5'' HCL4 HPL4 hs5 HX2 HX3 HX4 hik hkp hkl
    go_wp2_with fail
    go_loopw [7, 9, 31] (fun v7 _ v31 wr => ∃ t : Nat, t ≤ l.length ∧ v31 = .int .i64 t ∧ Hid (OwnL tCore 2 CoR w5.heap.size wr v7 (turn l (ks.take t))) ∧ Hid (Ext w5 wr)) (fun _ _ v31 _ => l.length - (RowKit.intOf v31).toNat)
    case atStart => exact ⟨0, Nat.zero_le _, rfl, OwnL.nil, Ext.refl _⟩
    case round =>
      obtain ⟨t, htl, rfl, HO, HXr⟩ := hrel
      have HLK : Hid ((turn l (ks.take t)).length = t) := by rw [Hid, turn, List.length_map, List.length_take, HKL.out, Nat.min_eq_left htl]
      by_cases hkl : t < l.length
      · have hkt : t < ks.length := by rw [HKL.out]; exact hkl
        obtain ⟨gk, ok, rfl, _, hkc⟩ := IL.get (IL.ext HIK.out HXr.out) hkt
        obtain ⟨k, hkk, hke⟩ := upto_mem HKP.out (List.getElem_mem hkt)
        have HNX := Lib.hid (turn_next (l := l) hkt)
        rw [hke] at hkc HNX
        rw [Int.toNat_natCast, show l.getD k ([], 0) = l[k] by rw [List.getD_eq_getElem?_getD, List.getElem?_eq_getElem hkk]; rfl] at HNX
        obtain ⟨g1, o1, A1, c1, rfl, _, HL1, hp1, hp2⟩ := CL.get (CL.ext HCL.out HXr.out) hkk
        obtain ⟨A8, c8, xs8, rfl, _, _, HR8, HC8⟩ := HO.out.parts
        rw [HLK.out] at HR8 ⊢
        clear hke
        generalize l[k] = x at *
        obtain ⟨p, q⟩ := x
        simp only at HNX HL1 hp1 hp2
        obtain ⟨th, hth⟩ : ∃ th, ratText q = th := ⟨_, rfl⟩
        have HTH := Lib.hid hth
        rw [hth] at hp2
        clear hth
        have hw3 := HXr.out.size
        have hbt : (t + 1) * 40 ≤ 140737488355328 := by omega
        go_wp2_with (at_builtin; refine wpList_app1 rfl _ _ 28 rfl w5.heap.size core_slice _ _ _ rfl HR8.out #[.slice A1 p.length c1, .string ⟨th.toArray⟩] 1 1 rfl rfl rfl hbt hw3 ?_)
        intro v' w6 ho6 hg6 _
        have O6 : Hid (OwnL tCore 2 CoR w5.heap.size w6 v' (turn l (ks.take t) ++ [(p, q)])) := OwnL.snoc (R := CoR) (w := wr) (x := (p, q)) CoR.stab (by decide) (by rw [HLK.out]; exact HR8.out) HC8.out ⟨A1, c1, by rw [HTH.out], HL1.out⟩ (by rw [HLK.out]; exact ho6) hg6
        have HX6 := Lib.hid (HXr.out.grownO HR8.out hg6)
        clear ho6 hg6 hp1 hp2 hkc
        go_wp2
        go_roundw
        case rel => exact ⟨t + 1, by omega, by go_num, by rw [HNX.out]; exact O6, HX6⟩
        case measure => simp [RowKit.intOf]; omega
      · obtain rfl : t = l.length := by omega
        rw [List.take_of_length_le (by rw [HKL.out]; exact Nat.le_refl _)] at HO HLK
        have HPT := Lib.hid (turn_perm HKP.out)
        generalize turn l ks = T at *
        have HMT := made_perm HPT.out HML.out
        have HG := good_made hn1 hn3 (by omega) (by omega) HML.out HMC.out
        have HGT : Good n T cs := good_made hn1 hn3 (by rw [HLK.out]; omega) (by omega) HMT HMC.out
        have HN := near_made hn3 HML.out HMC.out
        have F1 : FitQ 400 (cost l cs) := cost_fitE (fun x hx => (wt_fit (HML.out x hx).2.2).1) HN (by omega)
        have F3 : ∀ p ∈ stepF n l cs, ∀ q ∈ p, FitQ 400 q := stepF_fitE HG (e := 1) (d := 1) (f := 1) (by decide) (fun x hx => (wt_fit (HML.out x hx).2.2).1) (fun x hx q hq => intp_fit ((HML.out x hx).2.1 q hq)) (fun c hc q hq => intp_fit ((HMC.out c hc).2 q hq)) (by omega) (by decide)
        have HOL := HO.out.ls
        have EC := cost_perm HPT.out cs
        have ES := stepF_perm HPT.out n cs
        have C1 := Lib.hid (fun w' (hx : Ext wr w') => cost_any _ _ n l cs w' (CL.ext HCL.out (HXr.out.trans hx)) (PL.ext HPL.out (HXr.out.trans hx)) HG (by omega) F1 (HT.out.ext (HX5.out.trans (HXr.out.trans hx))))
        have C2 := Lib.hid (fun w' (hx : Ext wr w') => cost_any _ _ n T cs w' (CL.ext HOL hx) (PL.ext HPL.out (HXr.out.trans hx)) HGT (by rw [HLK.out]; omega) (by rw [EC]; exact F1) (HT.out.ext (HX5.out.trans (HXr.out.trans hx))))
        have A1 := Lib.hid (fun w' (hx : Ext wr w') => assign_any _ _ n l cs w' (CL.ext HCL.out (HXr.out.trans hx)) (PL.ext HPL.out (HXr.out.trans hx)) HG)
        have A2 := Lib.hid (fun w' (hx : Ext wr w') => assign_any _ _ n T cs w' (CL.ext HOL hx) (PL.ext HPL.out (HXr.out.trans hx)) HGT)
        have S1 := Lib.hid (fun w' (hx : Ext wr w') => kstep_any _ _ n l cs w' (CL.ext HCL.out (HXr.out.trans hx)) (PL.ext HPL.out (HXr.out.trans hx)) HG (by omega) F3 (HT.out.ext (HX5.out.trans (HXr.out.trans hx))))
        have S2 := Lib.hid (fun w' (hx : Ext wr w') => kstep_any _ _ n T cs w' (CL.ext HOL hx) (PL.ext HPL.out (HXr.out.trans hx)) HGT (by rw [HLK.out]; omega) (by rw [ES]; exact F3) (HT.out.ext (HX5.out.trans (HXr.out.trans hx))))
        rw [EC] at C2
        rw [ES] at S2
        have L1 : Hid ((assign l cs).length = l.length) := by rw [Hid, assign, List.length_map]
        have L2 : Hid ((assign T cs).length = l.length) := by rw [Hid, assign, List.length_map, HLK.out]
        generalize assign l cs = al at *
        generalize assign T cs = at' at *
        generalize stepF n l cs = sl at *
        generalize ratText (cost l cs) = t1 at *
        clear HG HGT HN F1 F3 HOL HCL HPL EC ES HMT
        obtain ⟨A8, c8, xs8, rfl, _, _, _, _⟩ := HO.out.parts
        clear HO
        rw [HLK.out] at *
        go_wp2_with fail
        refine (A1.out wr (Ext.refl wr)).mono ?_
        rintro e wa ⟨va, rfl, hva, hxa⟩
        obtain ⟨Aa, ca, rfl, _, hca, _⟩ := hva.parts
        go_wp2_with fail
        refine (A2.out wa hxa).mono ?_
        rintro e wb ⟨vb, rfl, hvb, hxb⟩
        obtain ⟨Ab, cb, rfl, _, hcb, _⟩ := hvb.parts
        rw [L1.out, L2.out]
        have hyb := hxa.trans hxb
        clear hva hvb
        go_wp2_with fail
        refine (C1.out wb hyb).mono ?_
        rintro e w7 ⟨rfl, hx7⟩
        have hy7 := hyb.trans hx7
        go_wp2_with fail
        refine (C2.out w7 hy7).mono ?_
        rintro e w9 ⟨rfl, hx9⟩
        have hy9 := hy7.trans hx9
        go_wp2_with fail
        refine (S1.out w9 hy9).mono ?_
        rintro e wd ⟨Ad, cd, rfl, hpd, hxd⟩
        have hyd := hy9.trans hxd
        go_wp2_with fail
        refine (S2.out wd hyd).mono ?_
        rintro e we ⟨Ae, ce, rfl, hpe, hxe⟩
        have hye := hyd.trans hxe
        go_wp2_with fail
        refine (lists_any _ _ sl sl we (PL.ext hpd hxe) hpe).mono ?_
        rintro e wf ⟨rfl, m', rfl⟩
        have hd : decide (sl = sl) = true := decide_eq_true rfl
        rw [hd]
        have hyf := HX5.out.trans (HXr.out.trans (hye.drewN m'))
        generalize we.drewN m' = wf at *
        clear hd hpd hpe
        go_wp2_with fail
        refine (csane_any wf (HT.out.ext hyf)).mono ?_
        rintro e wg ⟨rfl, hxg⟩
        go_wp2
        go_ret
        exact ⟨rfl, hyf.trans hxg⟩
  · have hd : decide (zs.length ≤ 600) = false := decide_eq_false hl
    rw [hd]
    go_wp2_with fail
    refine (csane_any w HT.out).mono ?_
    rintro e w1 ⟨rfl, hx1⟩
    go_wp2
    go_ret
    exact ⟨rfl, hx1⟩
end Go.Proofs.YtlfcicfebhjchaaGreatDoor
