/- joinlearnmake: Pick, Rat, Rats. -/
import Derived.Test.YtkhmfgkbobblmaaGreatDoorMk
namespace Go.Proofs.YtkhmfgkbobblmaaGreatDoor
open Go.RowKit Go.Lib

set_option maxRecDepth 100000 in
set_option maxHeartbeats 4000000 in
theorem mpick_any (g gl : Nat) (ts : List Int) (w : World) (h : SrcAt w g) (hB : Blk w gl tInt (zcells ts)) (hne : gl ≠ g) (h0 : 0 < ts.length) (h1 : ts.length ≤ 1000) :
    Calls Tryz.prog 33 #[.pointer (some ⟨g, 0, none⟩), .slice (some ⟨gl, 0, none⟩) ts.length ts.length] w fun e w' => ∃ u ∈ ts, e = .returned (.int .i64 u) ∧ SrcAt w' g ∧ Only g w w' := by
  have H := Lib.hid (n_any g ts.length w h h0 (by omega))
  have HB := Lib.hid hB
  have HNE := Lib.hid hne
  clear h hB hne
  go_enter Tryz.func33, Tryz.ntmps33
  go_wp2_with fail
  refine H.out.mono ?_
  rintro e w1 ⟨r, hr, rfl, hs, ho⟩
  have hc := (HB.out.only ho HNE.out).cell (i := r) (u := .int .i64 ts[r]) (zcells_get hr)
  have HM : Hid (ts[r] ∈ ts) := List.getElem_mem hr
  generalize ts[r] = u at *
  go_wp2
  go_ret
  exact ⟨u, HM.out, rfl, hs, ho⟩
theorem divInt_fitR {x y : Int} {d e : Nat} (fx : FitQ d (x : Rat)) (fy : FitQ e (y : Rat)) (hy : 0 < y) : FitQ (d + e) (Rat.divInt x y) := by
  have h := fx.div fy (by rw [int_rat_num]; exact hy)
  rwa [← Rat.divInt_eq_div] at h
theorem int_fitR {z : Int} {e : Nat} (h : z.natAbs < 10 ^ e) (he : 1 ≤ e) : FitQ e (z : Rat) := ⟨by rw [int_rat_num]; exact h, by rw [int_rat_den]; exact Nat.one_lt_pow (by omega) (by decide)⟩
theorem small_fitZ {z : Int} (h : z.natAbs < 10) : FitZ z := ⟨1, by decide, by omega⟩
set_option maxRecDepth 100000 in
set_option maxHeartbeats 4000000 in
theorem mrat_any (g : Nat) (w : World) (h : SrcAt w g) :
    Calls Tryz.prog 12 #[.pointer (some ⟨g, 0, none⟩)] w fun e w' => ∃ q, FitQ 2 q ∧ e = .returned (.string ⟨(ratText q).toArray⟩) ∧ SrcAt w' g ∧ Only g w w' := by
  have HS := Lib.hid h
  clear h
  go_enter Tryz.func12, Tryz.ntmps12
  go_wp2_with fail
  refine (rangez_any g (-9) 9 w HS.out (by decide) (by decide) (by decide)).mono ?_
  rintro e w1 ⟨a, ha1, ha2, rfl, hs1, ho1⟩
  go_wp2_with fail
  refine (rof_any a w1 (by omega) (by omega)).mono ?_
  rintro e w2 ⟨v2, rfl, hv2, hx2⟩
  have hs2 := hs1.ext hx2
  have hg2 := hs2.lt
  go_wp2_with fail
  have BL := Blk.new w2 tInt (zcells [1, 1, 1, 2, 3, 4])
  have hxl : Ext w2 (w2.alloc (.cells (zcells [1, 1, 1, 2, 3, 4]).toArray tInt)) := (Ext.refl w2).alloc _
  refine (mpick_any g w2.heap.size [1, 1, 1, 2, 3, 4] _ (hs2.ext hxl) BL (by omega) (by decide) (by decide)).mono ?_
  rintro e w3 ⟨b, hb, rfl, hs3, ho3⟩
  have hb' : 0 < b ∧ b < 10 := by
    simp only [List.mem_cons, List.not_mem_nil, or_false] at hb
    omega
  have HV3 : Hid (BigV w3 v2 a) := (hv2.ext hxl).keep (Src.kept (hs2.ext hxl) ho3 (by decide))
  have HS3 := Lib.hid hs3
  have HO3 : Hid (Only g w w3) := ((ho1.trans (Only.of_ext hx2)).trans (Only.of_ext hxl)).trans ho3
  clear hs1 ho1 hv2 hx2 hs2 hg2 BL hxl hs3 ho3 hb
  go_wp2_with fail
  refine (rof_any b w3 (by omega) (by omega)).mono ?_
  rintro e w4 ⟨v4, rfl, hv4, hx4⟩
  go_wp2_with fail
  refine (rnew_any v2 v4 a b w4 (HV3.out.ext hx4) hv4 (small_fitZ (by omega)) (small_fitZ (by omega)) hb'.1).mono ?_
  rintro e w5 ⟨v5, rfl, hv5, hx5⟩
  have FQ : Hid (FitQ 2 (Rat.divInt a b)) := divInt_fitR (d := 1) (e := 1) (int_fitR (by omega) (by decide)) (int_fitR (by omega) (by decide)) hb'.1
  generalize Rat.divInt a b = q at *
  have HX5 := Lib.hid (hx4.trans hx5)
  clear hx4 hv4 hx5
  go_wp2_with fail
  refine (rfgive_any v5 q w5 hv5 (FQ.out.mono (by decide))).mono ?_
  rintro e w6 ⟨rfl, hx6⟩
  have HX6 := Lib.hid (HX5.out.trans hx6)
  clear hx6 hv5
  generalize htq : ratText q = tq
  have HTQ := Lib.hid htq
  clear htq
  go_wp2
  go_ret
  exact ⟨q, FQ.out, by rw [HTQ.out]; rfl, HS3.out.ext HX6.out, HO3.out.trans (Only.of_ext HX6.out)⟩
set_option maxRecDepth 100000 in
set_option maxHeartbeats 4000000 in
theorem mrats_any (g n : Nat) (w : World) (h : SrcAt w g) (hn : n ≤ 100) :
    Calls Tryz.prog 28 #[.pointer (some ⟨g, 0, none⟩), .int .i64 n] w fun e w' => ∃ A c l, l.length = n ∧ (∀ q ∈ l, FitQ 2 q) ∧ e = .returned (.slice A n c) ∧ RL w' (.slice A n c) l ∧ SrcAt w' g ∧ Only g w w' := by
  have HS := Lib.hid h
  have hg := h.lt
  clear h
  go_enter Tryz.func28, Tryz.ntmps28
  go_wp2_with fail
  go_loopw [5, 6] (fun v5 v6 wr => ∃ (k : Nat) (p : List Rat), k ≤ n ∧ v6 = .int .i64 k ∧ Hid (p.length = k) ∧ Hid (∀ q ∈ p, FitQ 2 q) ∧ Hid (OwnL tRat 1 RatR w.heap.size wr v5 p) ∧ Hid (SrcAt wr g) ∧ Hid (Only g w wr)) (fun _ v6 _ => n - (RowKit.intOf v6).toNat)
  case atStart => exact ⟨0, [], Nat.zero_le _, rfl, rfl, (fun q hq => by cases hq), OwnL.nil, HS, Only.refl _ _⟩
  case round =>
    obtain ⟨k, p, hk, rfl, HPK, HP, HO, HSr, HOn⟩ := hrel
    obtain ⟨A, c, xs, rfl, _, hcm, HR, HC⟩ := HO.out.parts
    rw [HPK.out] at HR ⊢
    by_cases hkn : k < n
    · go_wp2_with fail
      refine (mrat_any g wr HSr.out).mono ?_
      rintro e w2 ⟨q, hq, rfl, hs2, ho2⟩
      have O2 := Lib.hid (HO.out.only RatR.stab ho2 hg (fun u hu => by cases hu))
      have S2 := Lib.hid hs2
      have N2 := Lib.hid (HOn.out.trans ho2)
      have HQ := Lib.hid hq
      obtain ⟨A', c', xs', e, _, _, HR2, HC2⟩ := O2.out.parts
      injection e with e1 _ e2
      subst e1 e2
      rw [HPK.out] at HR2
      have hw2 : w.heap.size ≤ w2.heap.size := N2.out.size
      have hbt : (k + 1) * 16 ≤ 140737488355328 := by omega
      clear ho2 hs2 O2 hq
      obtain ⟨tq, htq⟩ : ∃ tq, ratText q = tq := ⟨_, rfl⟩
      have HTQ := Lib.hid htq
      rw [htq]
      clear htq
      go_wp2_with (at_builtin; refine wpList_app1 rfl _ _ tRats rfl w.heap.size rat_slice _ _ _ rfl HR2.out #[.string ⟨tq.toArray⟩] 1 1 rfl rfl rfl hbt hw2 ?_)
      intro v' w3 ho3 hg3 _
      have O3 := Lib.hid (OwnL.snoc (R := RatR) (x := q) RatR.stab (fun u hu => by cases hu) (by rw [HPK.out]; exact HR2.out) HC2.out (by rw [RatR, HTQ.out]) (by rw [HPK.out]; exact ho3) hg3)
      have S3 := Lib.hid (S2.out.grown hg3 (fun k hk => by have := (HR2.out.lt k hk).1; omega))
      have N3 := Lib.hid (N2.out.grown HR2.out hg3)
      clear ho3 hg3
      go_wp2
      go_roundw
      case rel => exact ⟨k + 1, p ++ [q], by omega, by go_num, by rw [Hid, List.length_append, HPK.out]; rfl, (fun x hx => by
          rcases List.mem_append.1 hx with h | h
          · exact HP.out x h
          · rw [List.mem_singleton.1 h]; exact HQ.out), O3, S3, N3⟩
      case measure => simp [RowKit.intOf]; omega
    · obtain rfl : k = n := by omega
      go_wp2
      go_ret
      exact ⟨A, c, p, HPK.out, HP.out, rfl, by have h := (OwnL.of (by rw [HPK.out]; exact HR.out) HC.out).ls; rw [HPK.out] at h; exact h, HSr.out, HOn.out⟩
end Go.Proofs.YtkhmfgkbobblmaaGreatDoor
