/- joinlearnmake: Big, Long. -/
import Derived.Test.YthalpbjkkfkheaaGreatDoorMkR
namespace Go.Proofs.YthalpbjkkfkheaaGreatDoor
open Go.RowKit Go.Lib

theorem dec_snoc {m d : Nat} (h0 : 0 < m) (hd : d < 10) : decDigits (m * 10 + d) = decDigits m ++ [UInt8.ofNat (48 + d)] := by
  rw [dec_big (by omega), show (m * 10 + d) / 10 = m by omega, show (m * 10 + d) % 10 = d by omega]
/-- the digits so far -/
def Tx (k : Nat) (l : List UInt8) : Prop := (k = 0 ∧ l = []) ∨ ∃ m, 0 < m ∧ m < 10 ^ k ∧ l = decDigits m
theorem Tx.next {k : Nat} {l : List UInt8} (h : Tx k l) {d : Nat} (hd : d < 10) (h0 : k = 0 → 0 < d) : Tx (k + 1) (l ++ [UInt8.ofNat (48 + d)]) := by
  rcases h with ⟨rfl, rfl⟩ | ⟨m, h1, h2, rfl⟩
  · exact .inr ⟨d, h0 rfl, by omega, by rw [dec_small hd]; rfl⟩
  · refine .inr ⟨m * 10 + d, by omega, by rw [Nat.pow_succ]; omega, (dec_snoc h1 hd).symm⟩
theorem Tx.num {k : Nat} {l : List UInt8} (h : Tx k l) (hk : 0 < k) : ∃ m, 0 < m ∧ m < 10 ^ k ∧ l = decDigits m := by
  rcases h with ⟨rfl, _⟩ | h
  · omega
  · exact h
theorem str_snoc (l : List UInt8) (c : UInt8) : (⟨l.toArray⟩ : ByteArray) ++ ⟨#[c]⟩ = ⟨(l ++ [c]).toArray⟩ := by
  apply ByteArray.ext
  rw [ByteArray.data_append]
  simp
theorem conv_digit {d : Nat} (hd : d < 10) (w : World) : (convert tInt t8 (.int .i64 (48 + (d : Nat)))).run Tryz.prog w = .ok (.int .u8 ((UInt8.ofNat (48 + d)).toNat : Int)) w := by
  rcases d with _ | _ | _ | _ | _ | _ | _ | _ | _ | _ | d
  all_goals first | omega | kernel_rfl
theorem conv_digit' {c : Nat} (hd : 1 + c < 10) (w : World) : (convert tInt t8 (.int .i64 (48 + (1 + (c : Int))))).run Tryz.prog w = .ok (.int .u8 ((UInt8.ofNat (48 + (1 + c))).toNat : Int)) w := by
  have h := conv_digit hd w
  exact h
theorem byte_str (w : World) (c : UInt8) : (convert t8s tStr (.slice (some ⟨w.heap.size, 0, none⟩) 1 1)).run Tryz.prog (w.alloc (.cells #[.int .u8 (c.toNat : Int)] t8)) = .ok (.string ⟨#[c]⟩) (w.alloc (.cells #[.int .u8 (c.toNat : Int)] t8)) := by
  refine run_convert_bytes_back (P := Tryz.prog) _ t8s tStr t8 ⟨w.heap.size, 0, none⟩ 1 [c] Tryz.underlying49 Tryz.underlying5 Tryz.underlying9 (fun j hj => ?_)
  obtain rfl : j = 0 := by simpa using hj
  exact (Blk.new w t8 [.int .u8 (c.toNat : Int)]).cell (i := 0) rfl
theorem long_fitR {x y : Int} {d : Nat} (hx : x.natAbs < 10 ^ d) (hy : y.natAbs < 10 ^ d) (h0 : 0 < y) (hd : 1 ≤ d) : FitQ (d + d) (Rat.divInt x y) := divInt_fitR (int_fitR hx hd) (int_fitR hy hd) h0
end Go.Proofs.YthalpbjkkfkheaaGreatDoor
