/- joinlearnmake: Light, New, Mod, N, Range. -/
import Derived.Test.YthalpbjkkfkheaaGreatDoorRatX
namespace Go.Proofs.YthalpbjkkfkheaaGreatDoor
open Go.RowKit Go.Lib

abbrev tSrc : TypeId := 51
def zcells (l : List Int) : List Value := l.map (Value.int .i64)
theorem zcells_get {l : List Int} {k : Nat} (h : k < l.length) : (zcells l)[k]? = some (.int .i64 l[k]) := by simp [zcells, h]
/-- block g is a source: its list, and its place -/
def SrcAt (w : World) (g : Nat) : Prop := ∃ (t : TypeId) (A : Option Addr) (zs : List Int) (c k : Nat), zs.length ≤ 600 ∧ k ≤ zs.length ∧ Blk w g tSrc [.slice A zs.length c, .int .i64 (k : Int)] ∧ Sl w t A (zcells zs) ∧ (0 < zs.length → ∀ ad, A = some ad → ad.block < g) ∧ ∀ z ∈ zs, -9223372036854775808 ≤ z ∧ z ≤ 9223372036854775807
theorem SrcAt.ext {w w' : World} {g : Nat} (h : SrcAt w g) (hx : Ext w w') : SrcAt w' g := by
  obtain ⟨t, A, zs, c, k, h1, h2, h3, h4, h5⟩ := h
  exact ⟨t, A, zs, c, k, h1, h2, h3.ext hx, h4.ext hx, h5⟩
theorem SrcAt.lt {w : World} {g : Nat} (h : SrcAt w g) : g < w.heap.size := by
  obtain ⟨t, A, zs, c, k, h1, h2, h3, h4, h5⟩ := h
  exact h3.lt
/-- a source reads in what lies up to its own block -/
theorem SrcAt.below {w w' : World} {g : Nat} (h : SrcAt w g) (hb : ∀ i, i ≤ g → w'.heap[i]? = w.heap[i]?) : SrcAt w' g := by
  obtain ⟨t, A, zs, c, k, h1, h2, h3, h4, h5, h6⟩ := h
  refine ⟨t, A, zs, c, k, h1, h2, (hb g (Nat.le_refl _)).trans h3, ?_, h5, h6⟩
  intro j u hu
  obtain ⟨gz, o, cur, fr, hA, hc, hcu⟩ := h4 j u hu
  have hpos : 0 < zs.length := by
    rcases Nat.lt_or_ge j zs.length with hj | hj
    · omega
    · rw [List.getElem?_eq_none (by simpa [zcells] using hj)] at hu; cases hu
  have hlt : gz < g := h5 hpos _ hA
  exact ⟨gz, o, cur, fr, hA, (hb gz (by omega)).trans hc, hcu⟩
theorem SrcAt.grown {w w' : World} {g : Nat} {row : Option Nat} (h : SrcAt w g) (hg : w.grownBy w' row) (hr : ∀ k, row = some k → g < k) : SrcAt w' g :=
  h.below fun i hi => hg.block i (by have := h.lt; omega) (fun e => by have := hr i e.symm; omega)

set_option maxRecDepth 100000 in
theorem light_any (A : Option Addr) (n c : Nat) (w : World) (hn : n ≤ 9223372036854775807) :
    Calls Tryz.prog 4 #[.slice A n c] w fun e w' => e = .returned (.bool (decide (n ≤ 600))) ∧ w = w' := by
  go_enter Tryz.func4, Tryz.ntmps4
  go_wp2
  go_ret
  exact ⟨ret_bool (by rw [decide_eq_decide]; omega), rfl⟩
set_option maxRecDepth 100000 in
theorem mnew_any (t : TypeId) (A : Option Addr) (zs : List Int) (c : Nat) (w : World) (hc : zs.length ≤ c) (_hm : c ≤ 9223372036854775807) (hl : zs.length ≤ 600) (hs : Sl w t A (zcells zs)) (hz : ∀ z ∈ zs, -9223372036854775808 ≤ z ∧ z ≤ 9223372036854775807) :
    Calls Tryz.prog 6 #[.slice A zs.length c] w fun e w' => e = .returned (.pointer (some ⟨w.heap.size, 0, none⟩)) ∧ SrcAt w' w.heap.size ∧ Ext w w' := by
  have HS := Lib.hid hs
  have HZ := Lib.hid hz
  have hmin : min (zs.length : Int) 600 = (zs.length : Int) := by omega
  clear hs hz
  go_enter Tryz.func6, Tryz.ntmps6
  go_wp2
  go_ret
  refine ⟨rfl, ⟨t, A, zs, _, 0, hl, Nat.zero_le _, Blk.new w tSrc [_, _], HS.out.ext ((Ext.refl w).alloc _), ?_, HZ.out⟩, (Ext.refl w).alloc _⟩
  intro h0 ad hA
  rcases zs with _ | ⟨z, r⟩
  · simp at h0
  · obtain ⟨g, o, hA', hg, _⟩ := HS.out.at_ (zcells_get (l := z :: r) (k := 0) (by simp))
    rw [hA] at hA'
    injection hA' with hA'
    subst hA'
    exact hg
/-- Go's remainder, made positive -/
theorem mod_pos (x : Int) (n : Nat) (hn : 0 < n) : ∃ r : Nat, r < n ∧ (x.tmod n + n) % n = (r : Int) := by
  refine ⟨((x.tmod n + n) % n).toNat, ?_, ?_⟩
  · have h2 := Int.emod_lt_of_pos (x.tmod n + n) (show (0 : Int) < n by omega)
    have h3 := Int.emod_nonneg (x.tmod n + n) (show (n : Int) ≠ 0 by omega)
    omega
  · have h3 := Int.emod_nonneg (x.tmod n + n) (show (n : Int) ≠ 0 by omega)
    omega
def modV (x : Int) (n : Nat) : Int := (x.tmod n + n) % n
set_option maxRecDepth 100000 in
set_option maxHeartbeats 4000000 in
theorem mod_any (x : Int) (n : Nat) (w : World) (hn : 0 < n) (hn2 : n ≤ 1000000000) :
    Calls Tryz.prog 21 #[.int .i64 x, .int .i64 n] w fun e w' => e = .returned (.int .i64 (modV x n)) ∧ w = w' := by
  have hn0 : (n : Int) ≠ 0 := by omega
  have hb1 := Int.lt_tmod_of_pos x (show (0 : Int) < n by omega)
  have hb2 := Int.tmod_lt_of_pos x (show (0 : Int) < n by omega)
  have HE : Hid (modV x n = (x.tmod n + n) % n) := rfl
  generalize modV x n = r at *
  generalize hxm : x.tmod n = xm at *
  go_enter Tryz.func21, Tryz.ntmps21
  go_wp2
  go_ret
  exact ⟨ret_int HE.out.symm, rfl⟩

set_option maxRecDepth 100000 in
set_option maxHeartbeats 4000000 in
theorem n_any (g m : Nat) (w : World) (h : SrcAt w g) (hm : 0 < m) (hm2 : m ≤ 1000000) :
    Calls Tryz.prog 9 #[.pointer (some ⟨g, 0, none⟩), .int .i64 m] w fun e w' => ∃ r : Nat, r < m ∧ e = .returned (.int .i64 (r : Int)) ∧ SrcAt w' g ∧ Only g w w' := by
  obtain ⟨t, A, zs, c, k, h1, h2, h3, h4, h5, h6⟩ := h
  have HS := Lib.hid h4
  have HB := Lib.hid h3
  have HN := Lib.hid h5
  have HZ := Lib.hid h6
  obtain ⟨c0, c1⟩ := HB.out.two
  have f1 := HB.out.frozen 1
  clear h3 h4 h5 h6
  by_cases hk : k < zs.length
  · obtain ⟨gz, oz, rfl, _, _⟩ := HS.out.at_ (zcells_get hk)
    have hgz : gz ≠ g := Nat.ne_of_lt (HN.out (by omega) _ rfl)
    have hkd : decide (zs.length ≤ k) = false := decide_eq_false (by omega)
    obtain ⟨r, hr, hrv⟩ := mod_pos zs[k] m hm
    have HRV : Hid (modV zs[k] m = (r : Int)) := hrv
    have HGET := Lib.hid (zcells_get hk)
    generalize zs[k] = z at *
    clear hrv
    go_enter Tryz.func9, Tryz.ntmps9
    go_wp2
    go_quiet (fail)
    have HB1 : Hid (Blk (w.drewN nq) g tSrc [.slice (some ⟨gz, oz, none⟩) zs.length c, .int .i64 (k : Int)]) := HB.out.drewN nq
    have HO1 : Hid (Only g w (w.drewN nq)) := (Only.refl g w).drewN nq
    clear c0 c1 f1 hkd
    generalize w.drewN nq = w1 at *
    obtain ⟨c0, c1⟩ := HB1.out.two
    have f1 := HB1.out.frozen 1
    go_wp2
    have HB2 := Lib.hid (HB1.out.set_ 1 (.int .i64 ((k : Int) + 1)))
    have HO2 := Lib.hid (HO1.out.set_ 1 (.int .i64 ((k : Int) + 1)))
    clear c0 c1 f1
    generalize w1.setCell ⟨g, 1, none⟩ (.int .i64 ((k : Int) + 1)) = w2 at *
    have HS2 := Lib.hid (HS.out.only HO2.out hgz)
    obtain ⟨g', o', e, _, hcell⟩ := HS2.out.at_ HGET.out
    injection e with e
    injection e with e1 e2
    subst e1 e2
    obtain ⟨c0, c1⟩ := HB2.out.two
    go_quiet ((go_at_call 21; exact quiet0 (mod_any z m _ hm (by omega))))
    rw [HRV.out]
    go_wp2
    go_ret
    exact ⟨r, hr, rfl, ⟨t, _, zs, c, k + 1, h1, hk, HB2.out.drewN _, HS2.out.ext ((Ext.refl _).drewN _), HN.out, HZ.out⟩, HO2.out.drewN _⟩
  · have hkd : decide (zs.length ≤ k) = true := decide_eq_true (by omega)
    go_enter Tryz.func9, Tryz.ntmps9
    go_wp2
    go_quiet (fail)
    go_wp2
    go_ret
    exact ⟨0, hm, rfl, ⟨t, A, zs, c, k, h1, h2, HB.out.drewN _, HS.out.ext ((Ext.refl _).drewN _), HN.out, HZ.out⟩, (Only.refl _ _).drewN _⟩
set_option maxRecDepth 100000 in
set_option maxHeartbeats 4000000 in
theorem range_any (g lo hi : Nat) (w : World) (h : SrcAt w g) (hl : lo ≤ hi) (hh : hi ≤ 100000) :
    Calls Tryz.prog 15 #[.pointer (some ⟨g, 0, none⟩), .int .i64 lo, .int .i64 hi] w fun e w' => ∃ r : Nat, lo ≤ r ∧ r ≤ hi ∧ e = .returned (.int .i64 (r : Int)) ∧ SrcAt w' g ∧ Only g w w' := by
  have H := Lib.hid (n_any g (hi - lo + 1) w h (by omega) (by omega))
  clear h
  have e : (((hi - lo + 1 : Nat)) : Int) = (hi : Int) - lo + 1 := by omega
  rw [e] at H
  clear e
  go_enter Tryz.func15, Tryz.ntmps15
  go_wp2_with fail
  refine H.out.mono ?_
  rintro e w1 ⟨r, hr, rfl, hs, ho⟩
  go_wp2
  go_ret
  exact ⟨lo + r, by omega, by omega, ret_int (by omega), hs, ho⟩
end Go.Proofs.YthalpbjkkfkheaaGreatDoor
