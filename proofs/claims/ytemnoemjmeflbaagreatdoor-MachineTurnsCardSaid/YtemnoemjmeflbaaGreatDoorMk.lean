/- joinlearnmake: Range with any bounds, Text, Place, Places, Cores, Shuffle. -/
import Derived.Test.YtemnoemjmeflbaaGreatDoorSame
namespace Go.Proofs.YtemnoemjmeflbaaGreatDoor
open Go.RowKit Go.Lib

set_option maxRecDepth 100000 in
set_option maxHeartbeats 4000000 in
theorem rangez_any (g : Nat) (lo hi : Int) (w : World) (h : SrcAt w g) (hl : lo ≤ hi) (h1 : -100000 ≤ lo) (h2 : hi ≤ 100000) :
    Calls Tryz.prog 9 #[.pointer (some ⟨g, 0, none⟩), .int .i64 lo, .int .i64 hi] w fun e w' => ∃ r : Int, lo ≤ r ∧ r ≤ hi ∧ e = .returned (.int .i64 r) ∧ SrcAt w' g ∧ Only g w w' := by
  have H := Lib.hid (n_any g (hi - lo + 1).toNat w h (by omega) (by omega))
  clear h
  have e : ((((hi - lo + 1).toNat : Nat)) : Int) = hi - lo + 1 := by omega
  rw [e] at H
  clear e
  go_enter Tryz.func9, Tryz.ntmps9
  go_wp2_with fail
  refine H.out.mono ?_
  rintro e w1 ⟨r, hr, rfl, hs, ho⟩
  go_wp2
  go_ret
  exact ⟨lo + r, by omega, by omega, rfl, hs, ho⟩
abbrev tStr : TypeId := 9
/-- a number of a made place -/
def IntP (q : Rat) : Prop := ∃ r : Int, -3 ≤ r ∧ r ≤ 6 ∧ q = (r : Rat)
set_option maxRecDepth 100000 in
set_option maxHeartbeats 4000000 in
theorem place_any (g n : Nat) (w : World) (h : SrcAt w g) (hn : n ≤ 3) :
    Calls Tryz.prog 12 #[.pointer (some ⟨g, 0, none⟩), .int .i64 n] w fun e w' => ∃ A c p, p.length = n ∧ (∀ q ∈ p, IntP q) ∧ e = .returned (.slice A n c) ∧ RL w' (.slice A n c) p ∧ SrcAt w' g ∧ Only g w w' := by
  have HS := Lib.hid h
  have hg := h.lt
  clear h
  go_enter Tryz.func12, Tryz.ntmps12
  go_wp2_with fail
  go_loopw [1, 5] (fun v1 v5 wr => ∃ (k : Nat) (p : List Rat), k ≤ n ∧ v1 = .int .i64 k ∧ p.length + k = n ∧ Hid (∀ q ∈ p, IntP q) ∧ Hid (OwnL tRat 1 RatR w.heap.size wr v5 p) ∧ Hid (SrcAt wr g) ∧ Hid (Only g w wr)) (fun v1 _ _ => (RowKit.intOf v1).toNat)
  case atStart => exact ⟨n, [], Nat.le_refl _, rfl, by simp, (fun q hq => by cases hq), OwnL.nil, HS, Only.refl _ _⟩
  case round =>
    obtain ⟨k, p, hk, rfl, hpk, HP, HO, HSr, HOn⟩ := hrel
    obtain ⟨A, c, xs, rfl, _, hcm, HR, HC⟩ := HO.out.parts
    by_cases hk0 : k = 0
    · subst hk0
      obtain rfl : p.length = n := by omega
      go_wp2
      go_ret
      exact ⟨A, c, p, rfl, HP.out, rfl, (OwnL.of HR.out HC.out).ls, HSr.out, HOn.out⟩
    · have hd : decide ((k : Int) > 0) = true := by rw [decide_eq_true_iff]; omega
      go_wp2_with fail
      refine (rangez_any g (-3) 6 wr HSr.out (by decide) (by decide) (by decide)).mono ?_
      rintro e w1 ⟨r, hr1, hr2, rfl, hs1, ho1⟩
      go_wp2_with fail
      refine (rwhole_any r w1 (by omega) (by omega)).mono ?_
      rintro e w2 ⟨rfl, hx2⟩
      have O2 := Lib.hid ((HO.out.only RatR.stab ho1 hg (fun u hu => by cases hu)).ext RatR.stab hx2)
      have S2 := Lib.hid (hs1.ext hx2)
      have N2 := Lib.hid ((HOn.out.trans ho1).trans (Only.of_ext hx2))
      obtain ⟨A', c', xs', e, _, _, HR2, HC2⟩ := O2.out.parts
      injection e with e1 _ e2
      subst e1 e2
      have hw2 : w.heap.size ≤ w2.heap.size := N2.out.size
      have hbt : (p.length + 1) * 16 ≤ 140737488355328 := by omega
      clear hd hx2 ho1 hs1 O2
      go_wp2_with (at_builtin; refine wpList_app1 rfl _ _ tRats rfl w.heap.size rat_slice _ _ _ rfl HR2.out #[.string ⟨(ratText (r : Rat)).toArray⟩] 1 1 rfl rfl rfl hbt hw2 ?_)
      intro v' w3 ho3 hg3 _
      have O3 := Lib.hid (OwnL.snoc (R := RatR) (x := (r : Rat)) RatR.stab (fun u hu => by cases hu) HR2.out HC2.out rfl ho3 hg3)
      have S3 := Lib.hid (S2.out.grown hg3 (fun k hk => by have := (HR2.out.lt k hk).1; omega))
      have N3 := Lib.hid (N2.out.grown HR2.out hg3)
      clear ho3 hg3
      go_wp2
      go_roundw
      case rel => exact ⟨k - 1, p ++ [(r : Rat)], by omega, by rw [Int.natCast_sub (by omega)]; rfl, by simp; omega, (fun q hq => by
          rcases List.mem_append.1 hq with h | h
          · exact HP.out q h
          · rw [List.mem_singleton.1 h]; exact ⟨r, hr1, hr2, rfl⟩), O3, S3, N3⟩
      case measure => simp [RowKit.intOf]; omega
end Go.Proofs.YtemnoemjmeflbaaGreatDoor
