/- forest.Hash, forest.text and forest.Draw: what each returns, for every input that is short enough. -/
import Derived.Test.YthalpbjkkfkheaaGreatDoorGen
import Derived.Test.YthalpbjkkfkheaaGreatDoorShelf
import Derived.Lib.ItoaLen
namespace Go.Proofs.YthalpbjkkfkheaaGreatDoor
open Go.RowKit

def hstep (h : Int) (x : UInt8) : Int := IntKind.u64.wrap (bits .xor .u64 h (IntKind.u64.wrap (x.toNat : Int)) * 1099511628211)
def hashL (l : List UInt8) : Int := l.foldl hstep 14695981039346656037
theorem hashL_snoc (l : List UInt8) (x : UInt8) : hashL (l ++ [x]) = hstep (hashL l) x := by simp [hashL, List.foldl_append]
theorem hashL_take (l : List UInt8) (k : Nat) (h : k < l.length) : hashL (l.take (k+1)) = hstep (hashL (l.take k)) l[k] := by
  rw [List.take_succ_eq_append_getElem h, hashL_snoc]
theorem hstep_bd (h : Int) (x : UInt8) : 0 ≤ hstep h x ∧ hstep h x < 18446744073709551616 := by
  unfold hstep; rw [IntKind.wrap_u64]; omega
theorem hashL_bd (l : List UInt8) : 0 ≤ hashL l ∧ hashL l < 18446744073709551616 := by
  rcases List.eq_nil_or_concat l with rfl | ⟨l', x, rfl⟩
  · simp [hashL]
  · rw [List.concat_eq_append, hashL_snoc]; exact hstep_bd _ _

set_option maxHeartbeats 400000 in
theorem hash_any (A : Option Addr) (c : Nat) (l : List UInt8) (w : World) (hl : l.length ≤ 1000000) {t : TypeId} (hc : Sl w t A (Lib.byteCells l)) :
    Calls Tryz.prog 14 #[.slice A l.length c] w fun e w' => e = .returned (.int .u64 (hashL l)) ∧ w = w' := by
  have Hc := Lib.hid hc
  clear hc
  go_enter Tryz.func14, Tryz.ntmps14
  go_wp2
  go_loop [3, 5, 8] (fun h _ i => ∃ k : Nat, k ≤ l.length ∧ i = .int .i64 k ∧ h = .int .u64 (hashL (l.take k))) (fun _ _ i => l.length - (intOf i).toNat)
  case atStart => exact ⟨0, Nat.zero_le _, rfl, rfl⟩
  case round =>
    obtain ⟨k, hk, rfl, rfl⟩ := hrel
    by_cases hlt : k < l.length
    · obtain ⟨g, o, rfl, _, hcell⟩ := Hc.out.at_ (k := k) (u := .int .u8 l[k].toNat) (by simp [Lib.byteCells, hlt])
      have HT := Lib.hid (hashL_take l k hlt)
      generalize hashL (l.take k) = h0 at *
      go_wp2
      go_round
      case rel => exact ⟨k + 1, by omega, by go_num, by rw [HT.out, hstep]⟩
      case measure => simp [intOf]; omega
    · go_wp2
      go_ret
      exact ⟨ret_int (by rw [List.take_of_length_le (by omega)]), rfl⟩

/-- the text of numbers, then of strings, a line each -/
def numsL (l : List Int) : List UInt8 := l.flatMap fun n => Lib.itoa n ++ [10]
def strsL (l : List ByteArray) : List UInt8 := l.flatMap fun s => s.data.toList ++ [10]
def textL (a : List Int) (b : List ByteArray) : List UInt8 := numsL a ++ strsL b
theorem numsL_take (l : List Int) (k : Nat) (h : k < l.length) : numsL (l.take (k+1)) = numsL (l.take k) ++ (Lib.itoa l[k] ++ [10]) := by
  rw [List.take_succ_eq_append_getElem h]; simp only [numsL, List.flatMap_append, List.flatMap_cons, List.flatMap_nil, List.append_nil]
theorem strsL_take (l : List ByteArray) (k : Nat) (h : k < l.length) : strsL (l.take (k+1)) = strsL (l.take k) ++ (l[k].data.toList ++ [10]) := by
  rw [List.take_succ_eq_append_getElem h]; simp only [strsL, List.flatMap_append, List.flatMap_cons, List.flatMap_nil, List.append_nil]
def I64 (n : Int) : Prop := -9223372036854775808 ≤ n ∧ n ≤ 9223372036854775807
theorem numsL_len (l : List Int) (h : ∀ n ∈ l, I64 n) : (numsL l).length ≤ 22 * l.length := by
  induction l with
  | nil => simp [numsL]
  | cons x l ih =>
    have h1 := ih (fun n hn => h n (List.mem_cons_of_mem _ hn))
    have h2 := Lib.itoa_length_le x (h x (by simp)).1 (h x (by simp)).2
    simp only [numsL, List.flatMap_cons, List.length_append, List.length_cons, List.length_nil] at *
    omega

theorem ty_bytes : SliceTy Tryz.prog 49 5 1 1 := .mk' Tryz.underlying49 u8_info rfl (by decide) (by decide)

set_option maxHeartbeats 1000000 in
theorem text_any (A1 A2 : Option Addr) (c1 c2 : Nat) (l1 : List Int) (l2 : List ByteArray) (w : World) (hl1 : l1.length ≤ 1000) (hI : ∀ n ∈ l1, I64 n) (hl2 : l2.length ≤ 1000) (M : Nat) (hM : M ≤ 100000000) (hlen : (strsL l2).length ≤ M)
    {t1 t2 : TypeId} (h1 : Sl w t1 A1 (l1.map (Value.int .i64))) (h2 : Sl w t2 A2 (l2.map Value.string)) (htab : Tab w) :
    Calls Tryz.prog 26 #[.slice A1 l1.length c1, .slice A2 l2.length c2] w fun e w' => ∃ v, e = .returned v ∧ w'.ownsRow w.heap.size 5 1 v (textL l1 l2).length (Lib.byteCells (textL l1 l2)) ∧ Ext w w' := by
  have H1 := Lib.hid h1
  have H2 := Lib.hid h2
  have HI := Lib.hid hI
  have HL := Lib.hid hlen
  have HT := Lib.hid (Lib.tabBelow_of_tabIs htab)
  clear h1 h2 hI hlen htab
  obtain ⟨i0, hi, hz0, hz1, hz2⟩ := info_parts u8_info
  go_enter Tryz.func26, Tryz.ntmps26
  go_wp2
  go_loopw [5, 7, 12] (fun v _ i wr => ∃ k : Nat, k ≤ l1.length ∧ i = .int .i64 k ∧ wr.ownsRow w.heap.size 5 1 v (numsL (l1.take k)).length (Lib.byteCells (numsL (l1.take k))) ∧ Ext w wr) (fun _ _ i _ => l1.length - (intOf i).toNat)
  case atStart => exact ⟨0, Nat.zero_le _, rfl, by simpa [numsL, Lib.byteCells] using World.ownsRow_nil _ _ _ _, Ext.refl _⟩
  case round =>
    obtain ⟨k, hk, rfl, hown, hx⟩ := hrel
    by_cases hlt : k < l1.length
    · obtain ⟨g, o, rfl, _, hcell⟩ := (H1.out.ext hx).at_ (k := k) (u := .int .i64 l1[k]) (by simp [hlt])
      have hin := HI.out l1[k] (by simp)
      have hlen1 := numsL_len (l1.take k) (fun n hn => HI.out n (List.mem_of_mem_take hn))
      have hlen2 : (l1.take k).length ≤ k := List.length_take_le _ _
      have hil := Lib.itoa_length_le _ hin.1 hin.2
      have HN := Lib.hid (numsL_take l1 k hlt)
      generalize numsL (l1.take k) = t0 at *
      generalize l1[k] = z at *
      have hsz := hx.size
      go_wp2_with (first | (go_at_call 33; refine (Tryz.strconv_AppendInt_10 w.heap.size _ z hin.1 hin.2 _ _ _ hown hx.size (by omega) (HT.out.on hx)).mono ?_; rintro e w1 ⟨v1, rfl, hown1, hb1, _⟩) | (at_builtin; refine wpList_append_own _ rfl _ _ 49 rfl w.heap.size 5 i0 (.int .u8 0) 1 1 Tryz.underlying49 hi hz0 hz1 hz2 rfl (by decide) _ _ _ rfl (hown1.alloc _) ⟨w1.heap.size, 0, none⟩ 1 1 [.int .u8 10] rfl rfl (cell_one_new _ _ _) (by intro u hu; simp at hu; subst hu; rfl) (by unfold maxLen; omega) (by omega) (by have := hb1.size; simp; omega) ?_; intro v2 w2 hown2 hg2 _))
      have hx1 : Ext w w1 := Below.trans hx hb1
      have hx2 : Ext w w2 := Ext.grown (hx1.alloc _) (hown1.alloc _) hg2
      go_wp2
      go_roundw
      case rel => exact ⟨k + 1, by omega, by go_num, by rw [HN.out]; simpa [byteCells_append, Lib.byteCells, Nat.add_assoc] using hown2, hx2⟩
      case measure => simp [intOf]; omega
    · have hk' : k = l1.length := by omega
      have HK := Lib.hid (show numsL (l1.take k) = numsL l1 by rw [List.take_of_length_le (by omega)])
      have hlen1 := numsL_len l1 HI.out
      rw [HK.out] at hown
      clear hk' HK
      go_wp2
      go_loopw [5, 9, 24] (fun v _ i wr => ∃ k : Nat, k ≤ l2.length ∧ i = .int .i64 k ∧ wr.ownsRow w.heap.size 5 1 v (textL l1 (l2.take k)).length (Lib.byteCells (textL l1 (l2.take k))) ∧ Ext w wr) (fun _ _ i _ => l2.length - (intOf i).toNat)
      case atStart => exact ⟨0, Nat.zero_le _, rfl, by simpa [textL, strsL] using hown, hx⟩
      case round =>
        clear hown hx
        obtain ⟨k, hk, rfl, hown, hx⟩ := hrel
        by_cases hlt : k < l2.length
        · obtain ⟨g, o, rfl, _, hcell⟩ := (H2.out.ext hx).at_ (k := k) (u := .string l2[k]) (by simp [hlt])
          have HN := Lib.hid (strsL_take l2 k hlt)
          have hle : (strsL (l2.take k)).length + (l2[k].size + 1) ≤ M := by
            have e1 : strsL l2 = strsL (l2.take (k+1)) ++ strsL (l2.drop (k+1)) := by simp only [strsL, ← List.flatMap_append, List.take_append_drop]
            have := HL.out
            rw [e1, HN.out] at this
            simp only [List.length_append, List.length_cons, List.length_nil, Array.length_toList] at this
            have e2 : l2[k].data.size = l2[k].size := rfl
            omega
          have HX : Hid (textL l1 (l2.take (k+1)) = textL l1 (l2.take k) ++ (l2[k].data.toList ++ [10])) := by rw [Hid, textL, HN.out, textL]; simp
          have hlt0 : (textL l1 (l2.take k)).length ≤ 22 * 1000 + (strsL (l2.take k)).length := by simp only [textL, List.length_append]; omega
          generalize textL l1 (l2.take k) = t0 at *
          generalize (strsL (l2.take k)).length = q at *
          generalize l2[k] = z at *
          clear HN
          have hsz := hx.size
          go_wp2_with (first | (at_builtin; refine Lib.wpList_append_own_string _ rfl _ _ 49 9 rfl w.heap.size 5 i0 Tryz.underlying49 Tryz.underlying9 hi hz0 hz1 hz2 _ _ _ rfl hown z rfl (by unfold maxLen; omega) (by omega) hx.size ?_; intro v1 w1 hown1 hg1 _) | (at_builtin; refine wpList_append_own _ rfl _ _ 49 rfl w.heap.size 5 i0 (.int .u8 0) 1 1 Tryz.underlying49 hi hz0 hz1 hz2 rfl (by decide) _ _ _ rfl (hown1.alloc _) ⟨w1.heap.size, 0, none⟩ 1 1 [.int .u8 10] rfl rfl (cell_one_new _ _ _) (by intro u hu; simp at hu; subst hu; rfl) (by unfold maxLen; omega) (by omega) (by have := (Ext.grown hx hown hg1).size; simp; omega) ?_; intro v2 w2 hown2 hg2 _))
          have hx1 : Ext w w1 := Ext.grown hx hown hg1
          have hx2 : Ext w w2 := Ext.grown (hx1.alloc _) (hown1.alloc _) hg2
          go_wp2
          go_roundw
          case rel => exact ⟨k + 1, by omega, by go_num, by rw [HX.out]; simpa [byteCells_append, Lib.byteCells, Lib.strCells, Nat.add_assoc, show z.data.size = z.size from rfl] using hown2, hx2⟩
          case measure => simp [intOf]; omega
        · have HK := Lib.hid (show textL l1 (l2.take k) = textL l1 l2 by rw [List.take_of_length_le (by omega)])
          rw [HK.out] at hown
          clear HK
          go_wp2
          go_ret
          exact ⟨_, rfl, hown, hx⟩
end Go.Proofs.YthalpbjkkfkheaaGreatDoor
