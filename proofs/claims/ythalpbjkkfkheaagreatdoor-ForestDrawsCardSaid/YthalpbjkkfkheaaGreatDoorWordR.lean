/- joinlearnref05.Word at words. -/
import Derived.Test.YthalpbjkkfkheaaGreatDoorKeep
namespace Go.Proofs.YthalpbjkkfkheaaGreatDoor
open Go.RowKit Go.Lib

set_option maxRecDepth 100000 in
set_option maxHeartbeats 1000000 in
theorem rword_any (s : List UInt8) (w : World) (h : WordT s) :
    Calls Tryz.prog 31 #[.string ⟨s.toArray⟩] w fun e w' => e = .returned (.bool true) ∧ Ext w w' := by
  obtain ⟨h1, h12, hf, ha⟩ := h
  have HF := Lib.hid hf
  have HA := Lib.hid ha
  clear hf ha
  have hbyte : ∀ (i : Nat) (h : i < s.length), (⟨s.toArray⟩ : ByteArray)[i]'h = s[i] := fun i h => rfl
  have HB := Lib.hid hbyte
  have hb0 := hbyte 0 (by omega)
  have hw := HF.out _ (List.getElem?_eq_getElem (show 0 < s.length by omega))
  clear hbyte
  generalize s[0] = c0 at hb0 hw
  have hn : 97 ≤ c0.toNat ∧ c0.toNat ≤ 122 := ⟨UInt8.le_iff_toNat_le.1 hw.1, UInt8.le_iff_toNat_le.1 hw.2⟩
  obtain ⟨n0, hn0⟩ : ∃ n, c0.toNat = n := ⟨_, rfl⟩
  rw [hn0] at hn
  clear hw
  have hz : ((s.length : Int) == 0) = false := by rw [beq_eq_false_iff_ne]; omega
  have z12 : decide ((s.length : Int) > 12) = false := decide_eq_false (by omega)
  have d97 : decide ((n0 : Int) < 97) = false := decide_eq_false (by omega)
  have d122 : decide ((n0 : Int) > 122) = false := decide_eq_false (by omega)
  go_enter Tryz.func31, Tryz.ntmps31
  go_upto_region 3 with fail
  go_wp2_with fail
  clear hb0 hn0 hz z12 d97 d122
  go_loopw [3] (fun v3 wr => ∃ i : Nat, i ≤ s.length ∧ v3 = .int .i64 i ∧ Hid (Ext w wr)) (fun v3 _ => s.length - (RowKit.intOf v3).toNat)
  case atStart => exact ⟨0, Nat.zero_le _, rfl, Ext.refl _⟩
  case round =>
    obtain ⟨i, hi, rfl, HXr⟩ := hrel
    by_cases hil : i < s.length
    · have hb := HB.out i hil
      have hw := HA.out _ (List.getElem_mem hil)
      generalize s[i] = c at hb hw
      obtain ⟨m, hm⟩ : ∃ m, c.toNat = m := ⟨_, rfl⟩
      have hn : (97 ≤ m ∧ m ≤ 122) ∨ (m < 97 ∧ (m = 45 ∨ (48 ≤ m ∧ m ≤ 57))) := by
        rcases hw with hw | hw | hw
        · have h1 := UInt8.le_iff_toNat_le.1 hw.1
          have h2 := UInt8.le_iff_toNat_le.1 hw.2
          rw [hm] at h1 h2
          exact .inl ⟨h1, h2⟩
        · have h1 := UInt8.le_iff_toNat_le.1 hw.1
          have h2 := UInt8.le_iff_toNat_le.1 hw.2
          rw [hm] at h1 h2
          have h3 : m ≤ 57 := h2
          have h4 : 48 ≤ m := h1
          exact .inr ⟨by omega, .inr ⟨h4, h3⟩⟩
        · have h1 : m = 45 := by rw [← hm, hw]; rfl
          exact .inr ⟨by omega, .inl h1⟩
      clear hw
      rcases hn with ⟨h2, h3⟩ | ⟨h2, rfl | ⟨h4, h5⟩⟩
      · have d1 : decide ((m : Int) ≥ 97) = true := decide_eq_true (by omega)
        have d2 : decide ((m : Int) ≤ 122) = true := decide_eq_true (by omega)
        go_wp2
        go_roundw
        case rel => exact ⟨i + 1, by omega, by go_num, HXr⟩
        case measure => simp [RowKit.intOf]; omega
      · go_wp2
        go_roundw
        case rel => exact ⟨i + 1, by omega, by go_num, HXr⟩
        case measure => simp [RowKit.intOf]; omega
      · have d1 : decide ((m : Int) ≥ 97) = false := decide_eq_false (by omega)
        have d2 : decide ((m : Int) ≥ 48) = true := decide_eq_true (by omega)
        have d3 : decide ((m : Int) ≤ 57) = true := decide_eq_true (by omega)
        go_wp2
        go_roundw
        case rel => exact ⟨i + 1, by omega, by go_num, HXr⟩
        case measure => simp [RowKit.intOf]; omega
    · obtain rfl : i = s.length := by omega
      go_wp2
      go_ret
      exact ⟨rfl, HXr.out⟩
end Go.Proofs.YthalpbjkkfkheaaGreatDoor
