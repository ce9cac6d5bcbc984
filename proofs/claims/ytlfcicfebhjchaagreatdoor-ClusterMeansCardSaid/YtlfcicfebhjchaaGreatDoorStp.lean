/- cluster.Step; joinlearnmake: Places, Cores. -/
import Derived.Test.YtlfcicfebhjchaaGreatDoorStep
namespace Go.Proofs.YtlfcicfebhjchaaGreatDoor
open Go.RowKit Go.Lib

theorem stepF_length (n : Nat) (l : List Pt) (cs : List (List Rat)) : (stepF n l cs).length = cs.length := by simp [stepF]
theorem stepF_row {n : Nat} {l : List Pt} {cs : List (List Rat)} (h : Good n l cs) : ∀ p ∈ stepF n l cs, p.length = n := by
  intro p hp
  rw [stepF_eq] at hp
  obtain ⟨a, ha, rfl⟩ := List.mem_map.1 hp
  have ha : a < cs.length := by simpa using ha
  unfold stepR
  split
  · rw [List.getD_eq_getElem?_getD, List.getElem?_eq_getElem ha]
    exact h.cn _ (List.getElem_mem ha)
  · simp
set_option maxRecDepth 100000 in
set_option maxHeartbeats 4000000 in
theorem kstep_any (vl vc : Value) (n : Nat) (l : List Pt) (cs : List (List Rat)) (w : World) (hl : CL w vl l) (hc : PL w vc cs) (hg : Good n l cs) (h100 : l.length ≤ 100) (hf : ∀ p ∈ stepF n l cs, ∀ q ∈ p, FitQ 400 q) (ht : Tab w) :
    Calls Tryz.prog 20 #[vl, vc] w fun e w' => ∃ A c, e = .returned (.slice A cs.length c) ∧ PL w' (.slice A cs.length c) (stepF n l cs) ∧ Ext w w' := by
  have RD := Lib.hid (cread_any vl vc n l cs w hl hc hg)
  have ST := Lib.hid (fun vp vc w' h1 h2 => cstep_any vp vc n l cs w' h1 h2 hg h100)
  have TX := Lib.hid (fun v w' h1 hx => ctexts_any v (stepF n l cs) w' h1 (fun p hp => ⟨by rw [stepF_row hg p hp]; have := hg.n3; omega, hf p hp⟩) (by rw [stepF_length]; have := hg.cts; omega) (ht.ext hx))
  rw [stepF_length] at TX
  clear hl hc hg hf ht
  go_enter Tryz.func20, Tryz.ntmps20
  go_wp2_with fail
  refine RD.out.mono ?_
  rintro e w1 ⟨Ap, cp, Ac, cc, rfl, hql, hgl, hx1⟩
  go_wp2_with fail
  refine (ST.out _ _ w1 hql hgl).mono ?_
  rintro e w2 ⟨A2, c2, rfl, hgl2, hx2⟩
  have hy2 := hx1.trans hx2
  go_wp2_with fail
  refine (TX.out _ w2 hgl2 hy2).mono ?_
  rintro e w3 ⟨A3, c3, rfl, hpl, hx3⟩
  have HPL := Lib.hid hpl
  have HX := Lib.hid (hy2.trans hx3)
  clear hpl hx3 hy2 hx2 hx1 hgl2 hql hgl
  go_wp2
  go_ret
  exact ⟨A3, c3, rfl, HPL.out, HX.out⟩
set_option maxRecDepth 100000 in
set_option maxHeartbeats 4000000 in
theorem places_any (g n most : Nat) (w : World) (h : SrcAt w g) (hn : n ≤ 3) (hm : most ≤ 100) :
    Calls Tryz.prog 13 #[.pointer (some ⟨g, 0, none⟩), .int .i64 n, .int .i64 most] w fun e w' => ∃ A c l, l.length ≤ most ∧ (∀ p ∈ l, p.length = n ∧ ∀ q ∈ p, IntP q) ∧ e = .returned (.slice A l.length c) ∧ PL w' (.slice A l.length c) l ∧ SrcAt w' g ∧ Only g w w' := by
  have H0 := Lib.hid (n_any g (most + 1) w h (by omega) (by omega))
  have hg := h.lt
  clear h
  rw [show ((most + 1 : Nat) : Int) = (most : Int) + 1 by omega] at H0
  go_enter Tryz.func13, Tryz.ntmps13
  go_wp2_with fail
  refine H0.out.mono ?_
  rintro e w1 ⟨r, hr, rfl, hs1, ho1⟩
  have HS := Lib.hid hs1
  have HO := Lib.hid ho1
  clear hs1 ho1 H0
  go_wp2_with fail
  go_loopw [7, 8] (fun v7 v8 wr => ∃ (k : Nat) (l : List (List Rat)), k ≤ r ∧ v8 = .int .i64 k ∧ l.length + k = r ∧ Hid (∀ p ∈ l, p.length = n ∧ ∀ q ∈ p, IntP q) ∧ Hid (OwnL tRats 1 PR w.heap.size wr v7 l) ∧ Hid (SrcAt wr g) ∧ Hid (Only g w wr)) (fun _ v8 _ => (RowKit.intOf v8).toNat)
  case atStart => exact ⟨r, [], Nat.le_refl _, rfl, by simp, (fun q hq => by cases hq), OwnL.nil, HS, HO⟩
  case round =>
    obtain ⟨k, l, hk, rfl, hpk, HP, HOw, HSr, HOn⟩ := hrel
    obtain ⟨A, c, xs, rfl, _, hcm, HR, HC⟩ := HOw.out.parts
    by_cases hk0 : k = 0
    · subst hk0
      go_wp2
      go_ret
      exact ⟨A, c, l, by omega, HP.out, rfl, HOw.out.ls, HSr.out, HOn.out⟩
    · have hd : decide ((k : Int) > 0) = true := by rw [decide_eq_true_iff]; omega
      go_wp2_with fail
      refine (place_any g n wr HSr.out hn).mono ?_
      rintro e w2 ⟨A1, c1, p, hpn, hpi, rfl, hrl, hs2, ho2⟩
      have O2 := Lib.hid (HOw.out.only PR.stab ho2 hg (fun u hu => by simp only [List.mem_singleton] at hu; subst hu; exact Src.kept HSr.out ho2 (by decide)))
      have S2 := Lib.hid hs2
      have N2 := Lib.hid (HOn.out.trans ho2)
      have HRL := Lib.hid hrl
      have HPN := Lib.hid hpn
      have HPI := Lib.hid hpi
      obtain ⟨A', c', xs', e, _, _, HR2, HC2⟩ := O2.out.parts
      injection e with e1 _ e2
      subst e1 e2
      have hw2 : w.heap.size ≤ w2.heap.size := N2.out.size
      have hbt : (l.length + 1) * 24 ≤ 140737488355328 := by omega
      clear hd hpi ho2 hs2 O2 hrl hpn
      go_wp2_with (at_builtin; refine wpList_app1 rfl _ _ 30 rfl w.heap.size rats_slice _ _ _ rfl HR2.out #[.slice A1 n c1] 1 1 rfl rfl rfl hbt hw2 ?_)
      intro v' w3 ho3 hg3 _
      have O3 := Lib.hid (OwnL.snoc (R := PR) (x := p) PR.stab (by decide) HR2.out HC2.out ⟨A1, c1, by rw [HPN.out], by rw [HPN.out]; exact HRL.out⟩ ho3 hg3)
      have S3 := Lib.hid (S2.out.grown hg3 (fun k hk => by have := (HR2.out.lt k hk).1; omega))
      have N3 := Lib.hid (N2.out.grown HR2.out hg3)
      clear ho3 hg3
      go_wp2
      go_roundw
      case rel => exact ⟨k - 1, l ++ [p], by omega, by rw [Int.natCast_sub (by omega)]; rfl, by simp; omega, (fun q hq => by
          rcases List.mem_append.1 hq with h | h
          · exact HP.out q h
          · rw [List.mem_singleton.1 h]; exact ⟨HPN.out, HPI.out⟩), O3, S3, N3⟩
      case measure => simp [RowKit.intOf]; omega
/-- a made weight -/
def Wt (q : Rat) : Prop := q = 1 ∨ q = 2 ∨ q = 3 ∨ q = 1 / 2
def wts : List Value := [.string ⟨#[49]⟩, .string ⟨#[49]⟩, .string ⟨#[50]⟩, .string ⟨#[51]⟩, .string ⟨#[49, 47, 50]⟩]
theorem ratText_dig {n : Nat} (h : n < 10) : ratText ((n : Int) : Rat) = [UInt8.ofNat (48 + n)] := by
  rw [ratText_z, decZ_nat, dec_small h]
theorem ratText_half : ratText (1 / 2 : Rat) = [49, 47, 50] := by
  have hn : ((1 : Rat) / 2).num = ((1 : Nat) : Int) := by kernel_rfl
  have hd : ((1 : Rat) / 2).den = 2 := by kernel_rfl
  rw [ratText_frac (by rw [hd]; decide), hn, hd, decZ_nat, dec_small (by decide), dec_small (by decide)]
  rfl
theorem wts_text {u : Value} (h : u ∈ wts) : ∃ q, Wt q ∧ u = .string ⟨(ratText q).toArray⟩ := by
  have h1 : ratText (1 : Rat) = [49] := ratText_dig (n := 1) (by decide)
  have h2 : ratText (2 : Rat) = [50] := ratText_dig (n := 2) (by decide)
  have h3 : ratText (3 : Rat) = [51] := ratText_dig (n := 3) (by decide)
  simp only [wts, List.mem_cons, List.not_mem_nil, or_false] at h
  rcases h with rfl | rfl | rfl | rfl | rfl
  · exact ⟨1, .inl rfl, by rw [h1]⟩
  · exact ⟨1, .inl rfl, by rw [h1]⟩
  · exact ⟨2, .inr (.inl rfl), by rw [h2]⟩
  · exact ⟨3, .inr (.inr (.inl rfl)), by rw [h3]⟩
  · exact ⟨1 / 2, .inr (.inr (.inr rfl)), by rw [ratText_half]⟩
set_option maxRecDepth 100000 in
set_option maxHeartbeats 4000000 in
theorem cores_any (g n most : Nat) (w : World) (h : SrcAt w g) (hn : n ≤ 3) (hm : most ≤ 100) :
    Calls Tryz.prog 12 #[.pointer (some ⟨g, 0, none⟩), .int .i64 n, .int .i64 most] w fun e w' => ∃ A c l, l.length ≤ most ∧ (∀ x ∈ l, x.1.length = n ∧ (∀ q ∈ x.1, IntP q) ∧ Wt x.2) ∧ e = .returned (.slice A l.length c) ∧ CL w' (.slice A l.length c) l ∧ SrcAt w' g ∧ Only g w w' := by
  have H0 := Lib.hid (n_any g (most + 1) w h (by omega) (by omega))
  have hg := h.lt
  clear h
  rw [show ((most + 1 : Nat) : Int) = (most : Int) + 1 by omega] at H0
  go_enter Tryz.func12, Tryz.ntmps12
  go_wp2_with fail
  refine H0.out.mono ?_
  rintro e w1 ⟨r, hr, rfl, hs1, ho1⟩
  have HS := Lib.hid hs1
  have HO := Lib.hid ho1
  clear hs1 ho1 H0
  go_wp2_with fail
  go_loopw [7, 8] (fun v7 v8 wr => ∃ (k : Nat) (l : List Pt), k ≤ r ∧ v8 = .int .i64 k ∧ l.length + k = r ∧ Hid (∀ x ∈ l, x.1.length = n ∧ (∀ q ∈ x.1, IntP q) ∧ Wt x.2) ∧ Hid (OwnL tCore 2 CoR w.heap.size wr v7 l) ∧ Hid (SrcAt wr g) ∧ Hid (Only g w wr)) (fun _ v8 _ => (RowKit.intOf v8).toNat)
  case atStart => exact ⟨r, [], Nat.le_refl _, rfl, by simp, (fun q hq => by cases hq), OwnL.nil, HS, HO⟩
  case round =>
    obtain ⟨k, l, hk, rfl, hpk, HP, HOw, HSr, HOn⟩ := hrel
    obtain ⟨A, c, xs, rfl, _, hcm, HR, HC⟩ := HOw.out.parts
    by_cases hk0 : k = 0
    · subst hk0
      go_wp2
      go_ret
      exact ⟨A, c, l, by omega, HP.out, rfl, HOw.out.ls, HSr.out, HOn.out⟩
    · have hd : decide ((k : Int) > 0) = true := by rw [decide_eq_true_iff]; omega
      go_wp2_with fail
      refine (place_any g n wr HSr.out hn).mono ?_
      rintro e w2 ⟨A1, c1, p, hpn, hpi, rfl, hrl, hs2, ho2⟩
      have HPN := Lib.hid hpn
      have HPI := Lib.hid hpi
      have hg2 : g < w2.heap.size := hs2.lt
      clear hpn hpi
      go_wp2_with fail
      have BL := Blk.new w2 tStr wts
      have hxl : Ext w2 (w2.alloc (.cells wts.toArray tStr)) := (Ext.refl w2).alloc _
      refine (mtext_any g w2.heap.size wts _ (hs2.ext hxl) BL (by omega) (by decide) (by decide)).mono ?_
      rintro e w3 ⟨u, hu, rfl, hs3, ho3⟩
      obtain ⟨q, hq, rfl⟩ := wts_text hu
      have hoA : Only g w2 w3 := (Only.of_ext hxl).trans ho3
      have hoB := ho2.trans hoA
      have hkA : Kept tRat w2 w3 := (Kept.of_below hxl).trans (Src.kept (hs2.ext hxl) ho3 (by decide))
      have O2 := Lib.hid (HOw.out.only CoR.stab hoB hg (fun u hu => by simp only [List.mem_singleton] at hu; subst hu; exact (Src.kept HSr.out ho2 (by decide)).trans hkA))
      have S2 := Lib.hid hs3
      have N2 := Lib.hid (HOn.out.trans hoB)
      have HRL := Lib.hid (hrl.keep RatR.stab (fun u hu => by simp only [List.mem_singleton] at hu; subst hu; exact hkA))
      have HWT := Lib.hid hq
      obtain ⟨A', c', xs', e, _, _, HR2, HC2⟩ := O2.out.parts
      injection e with e1 _ e2
      subst e1 e2
      have hw2 : w.heap.size ≤ w3.heap.size := N2.out.size
      have hbt : (l.length + 1) * 40 ≤ 140737488355328 := by omega
      clear hd ho2 hs2 O2 hrl ho3 hs3 hxl BL hoA hoB hkA hq hu hg2
      generalize htq : ratText q = tq at *
      have HTQ := Lib.hid htq
      clear htq
      go_wp2_with (at_builtin; refine wpList_app1 rfl _ _ 28 rfl w.heap.size core_slice _ _ _ rfl HR2.out #[.slice A1 n c1, .string ⟨tq.toArray⟩] 1 1 rfl rfl rfl hbt hw2 ?_)
      intro v' w4 ho4 hg4 _
      have O3 := Lib.hid (OwnL.snoc (R := CoR) (x := (p, q)) CoR.stab (by decide) HR2.out HC2.out ⟨A1, c1, by rw [HPN.out, HTQ.out], by rw [HPN.out]; exact HRL.out⟩ ho4 hg4)
      have S3 := Lib.hid (S2.out.grown hg4 (fun k hk => by have := (HR2.out.lt k hk).1; omega))
      have N3 := Lib.hid (N2.out.grown HR2.out hg4)
      clear ho4 hg4
      go_wp2
      go_roundw
      case rel => exact ⟨k - 1, l ++ [(p, q)], by omega, by rw [Int.natCast_sub (by omega)]; rfl, by simp; omega, (fun x hx => by
          rcases List.mem_append.1 hx with h | h
          · exact HP.out x h
          · rw [List.mem_singleton.1 h]; exact ⟨HPN.out, HPI.out, HWT.out⟩), O3, S3, N3⟩
      case measure => simp [RowKit.intOf]; omega
end Go.Proofs.YtlfcicfebhjchaaGreatDoor
