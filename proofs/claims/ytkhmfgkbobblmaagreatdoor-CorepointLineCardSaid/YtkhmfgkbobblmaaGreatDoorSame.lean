/- joinlearnref02.Same, joinlearnref27.Lists, joinlearnref05.Ints. -/
import Derived.Test.YtkhmfgkbobblmaaGreatDoorOwn
import Derived.BigQuiet
namespace Go.Proofs.YtkhmfgkbobblmaaGreatDoor
open Go.RowKit Go.Lib

theorem take_next {α : Type} {l m : List α} {k : Nat} (hl : l.length = m.length) (hk : k < l.length) (h : l.take k = m.take k) (e : l[k] = m[k]'(by omega)) : l.take (k + 1) = m.take (k + 1) := by
  rw [List.take_succ_eq_append_getElem hk, List.take_succ_eq_append_getElem (by omega), h, e]
theorem ne_next {α : Type} {l m : List α} {k : Nat} (hl : l.length = m.length) (hk : k < l.length) (e : ¬ l[k] = m[k]'(by omega)) : ¬ l = m := by
  rintro rfl
  exact e rfl
set_option maxRecDepth 100000 in
set_option maxHeartbeats 4000000 in
theorem same_any (va vb : Value) (l m : List Rat) (w : World) (ha : RL w va l) (hb : RL w vb m) :
    Calls Tryz.prog 17 #[va, vb] w fun e w' => e = .returned (.bool (decide (l = m))) ∧ ∃ n, w' = w.drewN n := by
  obtain ⟨A, ca, rfl, _, hca, HA⟩ := ha.parts
  obtain ⟨B, cb, rfl, _, hcb, HB⟩ := hb.parts
  have hca : ca ≤ 9223372036854775807 := by unfold maxLen at hca; omega
  have hcb : cb ≤ 9223372036854775807 := by unfold maxLen at hcb; omega
  clear ha hb
  go_enter Tryz.func17, Tryz.ntmps17
  by_cases hlen : l.length = m.length
  · have HLN := Lib.hid hlen
    have hne : ((l.length : Int) != (m.length : Int)) = false := by simp [hlen]
    clear hlen
    go_wp2_with fail
    go_loopw [5, 13] (fun _ v13 wr => ∃ k : Nat, k ≤ l.length ∧ v13 = .int .i64 k ∧ Hid (l.take k = m.take k) ∧ Hid (∃ n, wr = w.drewN n)) (fun _ v13 _ => l.length - (RowKit.intOf v13).toNat)
    case atStart => exact ⟨0, Nat.zero_le _, rfl, rfl, ⟨0, rfl⟩⟩
    case round =>
      obtain ⟨k, hk, rfl, HT, HW⟩ := hrel
      by_cases hkl : k < l.length
      · have hkm : k < m.length := by have := HLN.out; omega
        have hx : Ext w wr := by obtain ⟨n, rfl⟩ := HW.out; exact (Ext.refl w).drewN n
        obtain ⟨g, o, rfl, _, hc⟩ := RL.get (RL.ext HA.out hx) hkl
        obtain ⟨g', o', rfl, _, hd⟩ := RL.get (RL.ext HB.out hx) hkm
        clear hx
        have HE : Hid (ratText l[k] = ratText m[k] → l[k] = m[k]) := fun h => ratText_inj h
        have HN : Hid (¬ l[k] = m[k] → ¬ l = m) := ne_next HLN.out hkl
        have HS : Hid (l[k] = m[k] → l.take (k + 1) = m.take (k + 1)) := take_next HLN.out hkl HT.out
        generalize l[k] = x at *
        generalize m[k] = y at *
        by_cases hxy : x = y
        · subst hxy
          have HS1 := Lib.hid (HS.out rfl)
          generalize ratText x = t at *
          go_wp2_with fail
          go_quiet (fail)
          go_wp2
          go_roundw
          case rel => exact ⟨k + 1, by omega, by go_num, HS1, by obtain ⟨n, rfl⟩ := HW.out; exact ⟨_, drewN_add _ _ _⟩⟩
          case measure => simp [RowKit.intOf]; omega
        · have hne2 : (ratText x == ratText y) = false := by
            rw [beq_eq_false_iff_ne]
            exact fun h => hxy (HE.out h)
          have hfin : decide (l = m) = false := decide_eq_false (HN.out hxy)
          generalize ratText x = t at *
          generalize ratText y = u at *
          go_wp2_with fail
          go_quiet (fail)
          go_wp2
          go_ret
          exact ⟨ret_bool hfin.symm, by obtain ⟨n, rfl⟩ := HW.out; exact ⟨_, drewN_add _ _ _⟩⟩
      · obtain rfl : k = l.length := by omega
        have h1 := HT.out
        rw [List.take_of_length_le (Nat.le_refl _), List.take_of_length_le (by have := HLN.out; omega)] at h1
        have hfin : decide (l = m) = true := decide_eq_true h1
        clear h1
        go_wp2
        go_ret
        exact ⟨ret_bool hfin.symm, HW.out⟩
  · have hne : ((l.length : Int) != (m.length : Int)) = true := by
      rw [bne_iff_ne]
      omega
    have hfin : decide (l = m) = false := decide_eq_false (fun h => hlen (by rw [h]))
    go_wp2
    go_ret
    exact ⟨ret_bool hfin.symm, 0, rfl⟩
abbrev tInt : TypeId := 3
/-- a number as a cell -/
def IntR (_ : World) (c : List Value) (z : Int) : Prop := c = [.int .i64 z]
theorem IntR.stab : Stab [] IntR := fun _ _ _ _ _ h => h
theorem IntR.one (w : World) (c : List Value) (z : Int) (h : IntR w c z) : c.length = 1 := by rw [h]; rfl
abbrev IL := Ls tInt IntR
theorem IL.ext {w w' : World} {v : Value} {l : List Int} (h : IL w v l) (hx : Ext w w') : IL w' v l := Ls.ext IntR.stab h hx
theorem IL.get {w : World} {A : Option Addr} {n c : Nat} {l : List Int} (h : IL w (.slice A n c) l) {i : Nat} (hi : i < l.length) : ∃ g o, A = some ⟨g, o, none⟩ ∧ g < w.heap.size ∧ w.cell? ⟨g, o + i, none⟩ = some (.int .i64 l[i]) := by
  obtain ⟨g, o, d, h1, h2, h3, h4⟩ := Ls.get IntR.one (by decide) h hi
  have h5 := h4 0 _ (by rw [show d = _ from h3]; rfl)
  rw [Nat.mul_one, Nat.add_zero] at h5
  exact ⟨g, o, h1, h2, h5⟩
end Go.Proofs.YtkhmfgkbobblmaaGreatDoor
