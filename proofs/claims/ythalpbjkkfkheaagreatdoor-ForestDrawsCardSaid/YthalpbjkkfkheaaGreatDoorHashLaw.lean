/- forest.Draw, the sane example and the law ForestHashes as a walk. -/
import Derived.Test.YthalpbjkkfkheaaGreatDoorHash
import Derived.Lib.SlBytesConst
namespace Go.Proofs.YthalpbjkkfkheaaGreatDoor
open Go.RowKit

def drawN (a : List Int) (b : List ByteArray) : Int := hashL (textL a b) / 8589934592 % 3
theorem drawN_bd (a : List Int) (b : List ByteArray) : 0 ≤ drawN a b ∧ drawN a b ≤ 2 := by unfold drawN; omega

set_option maxHeartbeats 1000000 in
theorem draw_any (x y z : Int) (A2 : Option Addr) (c2 : Nat) (l2 : List ByteArray) (w : World) (hx : I64 x) (hy : I64 y) (hz : I64 z) (hl2 : l2.length ≤ 1000) (hlen : (strsL l2).length ≤ 900000)
    {t2 : TypeId} (h2 : Sl w t2 A2 (l2.map Value.string)) (htab : Tab w) :
    Calls Tryz.prog 12 #[.int .i64 x, .int .i64 y, .int .i64 z, .slice A2 l2.length c2] w fun e w' => e = .returned (.int .i64 (drawN [x, y, z] l2)) ∧ Ext w w' := by
  have hI : ∀ n ∈ [x, y, z], I64 n := by simp [hx, hy, hz]
  have hnl := numsL_len [x, y, z] hI
  have H2 := Lib.hid h2
  have HT := Lib.hid htab
  have HI := Lib.hid hI
  clear h2 htab hI hx hy hz
  go_enter Tryz.func12, Tryz.ntmps12
  go_wp2_with fail
  have hx0 : Ext w (w.alloc (Obj.cells #[Value.int IntKind.i64 x, Value.int IntKind.i64 y, Value.int IntKind.i64 z] 3)) := (Ext.refl w).alloc _
  refine (text_any (some ⟨w.heap.size, 0, none⟩) A2 3 c2 [x, y, z] l2 _ (by simp) HI.out hl2 900000 (by omega) hlen (Sl.new w 3 #[.int .i64 x, .int .i64 y, .int .i64 z]) (H2.out.ext hx0) (HT.out.ext hx0)).mono ?_
  rintro e w1 ⟨v, rfl, hown, hx1⟩
  obtain ⟨A, c, rfl, _, _, hsl⟩ := own_parts hown
  have hx2 : Ext w w1 := hx0.trans hx1
  have hlt : (textL [x, y, z] l2).length ≤ 1000000 := by simp only [textL, List.length_append] at *; simp only [List.length_cons, List.length_nil] at hnl; omega
  have HD : Hid (drawN [x, y, z] l2 = hashL (textL [x, y, z] l2) / 8589934592 % 3) := rfl
  clear hown
  generalize textL [x, y, z] l2 = t0 at *
  go_wp2_with fail
  refine (hash_any A c t0 w1 hlt hsl).mono ?_
  rintro e w' ⟨rfl, rfl⟩
  have hbd := hashL_bd t0
  generalize hashL t0 = h0 at *
  go_wp2_with fail
  go_ret
  exact ⟨ret_int HD.out.symm, hx2⟩

theorem lightH_any (A : Option Addr) (n c : Nat) (w : World) :
    Calls Tryz.prog 4 #[.slice A n c] w fun e w' => e = .returned (.bool (decide (n ≤ 600))) ∧ w = w' := by
  go_enter Tryz.func4, Tryz.ntmps4
  go_wp2
  go_ret
  exact ⟨ret_bool (by simp; omega), rfl⟩

set_option maxRecDepth 100000 in
theorem hash_a : hashL [97] = 12638187200555641996 := by decide +kernel
theorem hash_0 : hashL [] = 14695981039346656037 := rfl

set_option maxRecDepth 100000 in
set_option maxHeartbeats 1000000 in
theorem sane_any (w : World) (htab : Tab w) :
    Calls Tryz.prog 5 #[] w fun e w' => e = .returned (.bool true) ∧ Ext w w' := by
  have HT := Lib.hid htab
  clear htab
  have kc := fun (w : World) (C : Array Value) (n c : Nat) => Lib.run_convert_bytes_const (P := Tryz.prog) w 49 5 C n c Tryz.underlying49 Tryz.underlying5
  go_enter Tryz.func5, Tryz.ntmps5
  go_wp2_with fail
  have hx0 : Ext w (w.alloc (Obj.cells #[Value.string ⟨#[97]⟩] 9)) := (Ext.refl w).alloc _
  refine (draw_any 0 0 0 _ 1 [⟨#[97]⟩] _ (by simp [I64]) (by simp [I64]) (by simp [I64]) (by simp) (by simp [strsL]) (Sl.new w 9 #[.string ⟨#[97]⟩]) (HT.out.ext hx0)).mono ?_
  rintro e w1 ⟨rfl, hx1⟩
  have hbd := drawN_bd [0, 0, 0] [⟨#[97]⟩]
  generalize drawN [0, 0, 0] [⟨#[97]⟩] = d at *
  go_wp2_with fail
  refine (hash_any none 0 [] w1 (by simp) (Sl.nil (t := 0))).mono ?_
  rintro e w' ⟨rfl, rfl⟩
  have hb0 : (hashL [] == 14695981039346656037) = true := beq_iff_eq.2 hash_0
  generalize hashL [] = h0 at *
  go_wp2_with fail
  have hx2 : Ext w (w1.alloc (Obj.cells #[Value.int .u8 97] 5 (1, 2))) := (hx0.trans hx1).alloc _
  refine (hash_any (some ⟨w1.heap.size, 0, none⟩) 1 [97] _ (by simp) (Sl.newF w1 5 #[.int .u8 97] (1, 2))).mono ?_
  rintro e w' ⟨rfl, rfl⟩
  have hb1 : (hashL [97] == 12638187200555641996) = true := beq_iff_eq.2 hash_a
  generalize hashL [97] = h1 at *
  go_wp2_with fail
  all_goals go_ret
  all_goals exact ⟨ret_bool (by simp), hx2⟩

theorem sl_append {w w' : World} {t : TypeId} {v : Value} {n : Nat} {xs : List Value} {B : Nat} (h : w.ownsRow B t 1 v n xs) (hx : Ext w w') : ∃ A c, v = .slice A n c ∧ Sl w' t A xs := by
  obtain ⟨A, c, rfl, _, _, hs⟩ := own_parts h
  exact ⟨A, c, rfl, hs.ext hx⟩

end Go.Proofs.YthalpbjkkfkheaaGreatDoor
