/- joinlearnmake: Big, Long. -/
import Derived.Test.YtemnoemjmeflbaaGreatDoorMkR
namespace Go.Proofs.YtemnoemjmeflbaaGreatDoor
open Go.RowKit Go.Lib

theorem dec_snoc {m d : Nat} (h0 : 0 < m) (hd : d < 10) : decDigits (m * 10 + d) = decDigits m ++ [UInt8.ofNat (48 + d)] := by
  rw [dec_big (by omega), show (m * 10 + d) / 10 = m by omega, show (m * 10 + d) % 10 = d by omega]
/-- the digits so far -/
def Tx (k : Nat) (l : List UInt8) : Prop := (k = 0 ∧ l = []) ∨ ∃ m, 0 < m ∧ m < 10 ^ k ∧ l = decDigits m
theorem Tx.next {k : Nat} {l : List UInt8} (h : Tx k l) {d : Nat} (hd : d < 10) (h0 : k = 0 → 0 < d) : Tx (k + 1) (l ++ [UInt8.ofNat (48 + d)]) := by
  rcases h with ⟨rfl, rfl⟩ | ⟨m, h1, h2, rfl⟩
  · exact .inr ⟨d, h0 rfl, by omega, by rw [dec_small hd]; rfl⟩
  · refine .inr ⟨m * 10 + d, by omega, by rw [Nat.pow_succ]; omega, (dec_snoc h1 hd).symm⟩
theorem Tx.num {k : Nat} {l : List UInt8} (h : Tx k l) (hk : 0 < k) : ∃ m, 0 < m ∧ m < 10 ^ k ∧ l = decDigits m := by
  rcases h with ⟨rfl, _⟩ | h
  · omega
  · exact h
theorem str_snoc (l : List UInt8) (c : UInt8) : (⟨l.toArray⟩ : ByteArray) ++ ⟨#[c]⟩ = ⟨(l ++ [c]).toArray⟩ := by
  apply ByteArray.ext
  rw [ByteArray.data_append]
  simp
theorem conv_digit {d : Nat} (hd : d < 10) (w : World) : (convert tInt t8 (.int .i64 (48 + (d : Nat)))).run Tryz.prog w = .ok (.int .u8 ((UInt8.ofNat (48 + d)).toNat : Int)) w := by
  rcases d with _ | _ | _ | _ | _ | _ | _ | _ | _ | _ | d
  all_goals first | omega | kernel_rfl
theorem conv_digit' {c : Nat} (hd : 1 + c < 10) (w : World) : (convert tInt t8 (.int .i64 (48 + (1 + (c : Int))))).run Tryz.prog w = .ok (.int .u8 ((UInt8.ofNat (48 + (1 + c))).toNat : Int)) w := by
  have h := conv_digit hd w
  exact h
theorem byte_str (w : World) (c : UInt8) : (convert t8s tStr (.slice (some ⟨w.heap.size, 0, none⟩) 1 1)).run Tryz.prog (w.alloc (.cells #[.int .u8 (c.toNat : Int)] t8)) = .ok (.string ⟨#[c]⟩) (w.alloc (.cells #[.int .u8 (c.toNat : Int)] t8)) := by
  refine run_convert_bytes_back (P := Tryz.prog) _ t8s tStr t8 ⟨w.heap.size, 0, none⟩ 1 [c] Tryz.underlying95 Tryz.underlying5 Tryz.underlying9 (fun j hj => ?_)
  obtain rfl : j = 0 := by simpa using hj
  exact (Blk.new w t8 [.int .u8 (c.toNat : Int)]).cell (i := 0) rfl
set_option maxRecDepth 100000 in
set_option maxHeartbeats 1000000 in
theorem mbig_any (g dg : Nat) (w : World) (h : SrcAt w g) (hd : dg ≤ 100) :
    Calls Tryz.prog 39 #[.pointer (some ⟨g, 0, none⟩), .int .i64 dg] w fun e w' => ∃ z : Int, z.natAbs < 10 ^ dg ∧ e = .returned (.string ⟨(decZ z).toArray⟩) ∧ SrcAt w' g ∧ Only g w w' := by
  have H := Lib.hid (n_any g (dg + 1) w h (by omega) (by omega))
  rw [show ((dg + 1 : Nat) : Int) = (dg : Int) + 1 from rfl] at H
  clear h
  go_enter Tryz.func39, Tryz.ntmps39
  go_wp2_with fail
  refine H.out.mono ?_
  rintro e w1 ⟨n, hn, rfl, hs1, ho1⟩
  have HS1 := Lib.hid hs1
  have HO1 := Lib.hid ho1
  clear hs1 ho1 H
  go_wp2_with fail
  go_loopw [6, 7, 8] (fun v6 v7 _ wr => ∃ (k : Nat) (l : List UInt8), k ≤ n ∧ v7 = .int .i64 k ∧ v6 = .string ⟨l.toArray⟩ ∧ Hid (Tx k l) ∧ Hid (l.length = k) ∧ Hid (SrcAt wr g) ∧ Hid (Only g w wr)) (fun _ v7 _ _ => n - (RowKit.intOf v7).toNat)
  case atStart => exact ⟨0, [], Nat.zero_le _, rfl, rfl, .inl ⟨rfl, rfl⟩, rfl, HS1, HO1⟩
  case round =>
    obtain ⟨k, l, hk, rfl, rfl, HTX, HLL, HSr, HOr⟩ := hrel
    have hll : l.length ≤ 1000 := by have := HLL.out; omega
    by_cases hkn : k < n
    · go_wp2_with fail
      refine (n_any g 10 wr HSr.out (by decide) (by decide)).mono ?_
      rintro e wx ⟨d, hd10, rfl, hs2, ho2⟩
      have HS2 := Lib.hid hs2
      have HO2 := Lib.hid (HOr.out.trans ho2)
      clear hs2 ho2
      by_cases hk0 : k = 0
      · have hk1 : ((k : Int) == 0) = true := by rw [beq_iff_eq]; omega
        have HK0 : Hid (k = 0) := hk0
        clear hk0
        go_wp2_with fail
        refine (n_any g 9 wx HS2.out (by decide) (by decide)).mono ?_
        rintro e wy ⟨c, hc9, rfl, hs3, ho3⟩
        have HS3 := Lib.hid hs3
        have HO3 := Lib.hid (HO2.out.trans ho3)
        clear hs3 ho3
        have HCV : Hid (∀ w', (convert tInt t8 (.int .i64 (48 + (1 + (c : Int))))).run Tryz.prog w' = .ok (.int .u8 ((UInt8.ofNat (48 + (1 + c))).toNat : Int)) w') := conv_digit' (by omega)
        have hcv := HCV.out
        have hbs := fun w' => byte_str w' (UInt8.ofNat (48 + (1 + c)))
        have HNT := Lib.hid (Tx.next HTX.out (d := 1 + c) (by omega) (by have := HK0.out; omega))
        generalize UInt8.ofNat (48 + (1 + c)) = ch at *
        clear HCV
        have HSA := Lib.hid (str_snoc l ch)
        go_wp2
        rw [HSA.out]
        go_roundw
        case rel => exact ⟨k + 1, l ++ [ch], by omega, by go_num, rfl, HNT, by rw [Hid, List.length_append, HLL.out]; rfl, HS3.out.ext ((Ext.refl wy).alloc _), HO3.out.trans (Only.of_ext ((Ext.refl wy).alloc _))⟩
        case measure => simp [RowKit.intOf]; omega
      · have hk1 : ((k : Int) == 0) = false := by rw [beq_eq_false_iff_ne]; omega
        have HK0 : Hid (¬ k = 0) := hk0
        clear hk0
        have HCV : Hid (∀ w', (convert tInt t8 (.int .i64 (48 + (d : Int)))).run Tryz.prog w' = .ok (.int .u8 ((UInt8.ofNat (48 + (d))).toNat : Int)) w') := conv_digit (by omega)
        have hcv := HCV.out
        have hbs := fun w' => byte_str w' (UInt8.ofNat (48 + (d)))
        have HNT := Lib.hid (Tx.next HTX.out (d := d) (by omega) (by have := HK0.out; omega))
        generalize UInt8.ofNat (48 + (d)) = ch at *
        clear HCV
        have HSA := Lib.hid (str_snoc l ch)
        go_wp2
        rw [HSA.out]
        go_roundw
        case rel => exact ⟨k + 1, l ++ [ch], by omega, by go_num, rfl, HNT, by rw [Hid, List.length_append, HLL.out]; rfl, HS2.out.ext ((Ext.refl wx).alloc _), HO2.out.trans (Only.of_ext ((Ext.refl wx).alloc _))⟩
        case measure => simp [RowKit.intOf]; omega
    · obtain rfl : k = n := by omega
      rcases Nat.eq_zero_or_pos k with h0 | h0
      · obtain rfl : l = [] := List.eq_nil_of_length_eq_zero (HLL.out.trans h0)
        clear h0
        go_wp2
        go_ret
        exact ⟨0, by have := Nat.pow_pos (a := 10) (n := dg) (by decide); simpa using this, by rw [show decZ 0 = [48] from dec_zero]; rfl, HSr.out, HOr.out⟩
      · obtain ⟨m, hm0, hm, hl⟩ := HTX.out.num h0
        have hm2 : m < 10 ^ dg := Nat.lt_of_lt_of_le hm (Nat.pow_le_pow_right (by decide) (by omega))
        have HM0 := Lib.hid hm0
        have HM2 := Lib.hid hm2
        obtain ⟨ch, r, hcr, _, _⟩ := dec_head hm0
        rw [hcr] at hl
        subst hl
        have HCR := Lib.hid hcr
        clear hcr hm hm0 hm2
        go_wp2_with fail
        refine (n_any g 2 wr HSr.out (by decide) (by decide)).mono ?_
        rintro e w4 ⟨d, hd2, rfl, hs4, ho4⟩
        have HO4 := Lib.hid (HOr.out.trans ho4)
        by_cases hd1 : d = 1
        · have hdd : ((d : Int) == 1) = true := by rw [beq_iff_eq]; omega
          have HSA := Lib.hid (cat_text [45] (ch :: r))
          have hrl : r.length + 1 ≤ 1000 := hll
          clear hd1
          go_wp2
          go_ret
          refine ⟨-(m : Int), by rw [Int.natAbs_neg, Int.natAbs_natCast]; exact HM2.out, ?_, hs4, HO4.out⟩
          rw [decZ_neg (by have := HM0.out; omega), Int.natAbs_neg, Int.natAbs_natCast, HCR.out]
          first | rfl | exact congrArg _ (congrArg _ HSA.out)
        · have hdd : ((d : Int) == 1) = false := by rw [beq_eq_false_iff_ne]; omega
          clear hd1
          go_wp2
          go_ret
          refine ⟨(m : Int), by rw [Int.natAbs_natCast]; exact HM2.out, ?_, hs4, HO4.out⟩
          rw [decZ_nat, HCR.out]
          rfl
theorem long_fitR {x y : Int} {d : Nat} (hx : x.natAbs < 10 ^ d) (hy : y.natAbs < 10 ^ d) (h0 : 0 < y) (hd : 1 ≤ d) : FitQ (d + d) (Rat.divInt x y) := divInt_fitR (int_fitR hx hd) (int_fitR hy hd) h0
end Go.Proofs.YtemnoemjmeflbaaGreatDoor
