/- joinlearnmake: Value. -/
import Derived.Test.YthalpbjkkfkheaaGreatDoorValR
import Derived.Test.YthalpbjkkfkheaaGreatDoorMkSch
namespace Go.Proofs.YthalpbjkkfkheaaGreatDoor
open Go.RowKit Go.Lib

theorem valt_int (d : Nat) (t : List UInt8) (hd : d ≤ 1000 := by decide) (ht : decZ (d : Int) = t := by rfl) : ValT 1 t := .inr (.inr (.inl ⟨rfl, (d : Int), ht.symm, by unfold SmZ; omega⟩))
theorem word_red : WordT [114, 101, 100] := ⟨by decide, by decide, by decide, by decide⟩
theorem word_green : WordT [103, 114, 101, 101, 110] := ⟨by decide, by decide, by decide, by decide⟩
theorem word_blue : WordT [98, 108, 117, 101] := ⟨by decide, by decide, by decide, by decide⟩
theorem dz2 : decZ 2 = [50] := dec_small (by decide)
theorem dz10 : decZ 10 = [49, 48] := by
  have h := dec_snoc (m := 1) (d := 0) (by decide) (by decide)
  have e1 : decDigits 1 = [49] := dec_small (by decide)
  rw [e1] at h
  have e2 : decZ 10 = decDigits 10 := decZ_nat 10
  rw [e2]
  exact h
theorem smq (q : Rat) (h : decide (q.num.natAbs ≤ 1000 ∧ q.den ≤ 12) = true) : SmQ q := by
  have h := of_decide_eq_true h
  exact ⟨by unfold SmZ; omega, h.2⟩
theorem txm2 : ratText (-2 : Rat) = [45, 50] := by
  have hn : (-2 : Rat).num = -2 := by kernel_rfl
  have hd : (-2 : Rat).den = 1 := by kernel_rfl
  rw [ratText_int hd, hn, decZ_neg (by decide), show (-2 : Int).natAbs = 2 from rfl, dec_small (by decide)]
  rfl
theorem tx53 : ratText (5 / 3 : Rat) = [53, 47, 51] := by
  have hn : (5 / 3 : Rat).num = ((5 : Nat) : Int) := by kernel_rfl
  have hd : (5 / 3 : Rat).den = 3 := by kernel_rfl
  rw [ratText_frac (by rw [hd]; decide), hn, hd, decZ_nat, dec_small (by decide), dec_small (by decide)]
  rfl
theorem valt_q (q : Rat) (t : List UInt8) (ht : ratText q = t) (h : decide (q.num.natAbs ≤ 1000 ∧ q.den ≤ 12) = true) : ValT 2 t := .inr (.inr (.inr ⟨rfl, q, ht.symm, smq q h⟩))
theorem valt_dig (d : Nat) (h : d < 10) : ValT 2 [UInt8.ofNat (48 + d)] := .inr (.inr (.inr ⟨rfl, ((d : Int) : Rat), (ratText_dig h).symm, ⟨by show SmZ (d : Int); unfold SmZ; omega, by show 1 ≤ 12; decide⟩⟩))
set_option maxRecDepth 100000 in
set_option maxHeartbeats 4000000 in
theorem mval_any (g : Nat) (nm : List UInt8) (kind : Int) (w : World) (h : SrcAt w g) (hk : 1 ≤ kind ∧ kind ≤ 3) :
    Calls Tryz.prog 18 #[.pointer (some ⟨g, 0, none⟩), .agg #[.string ⟨nm.toArray⟩, .int .i64 kind]] w fun e w' => ∃ v, ValT kind v ∧ e = .returned (.string ⟨v.toArray⟩) ∧ SrcAt w' g ∧ Only g w w' := by
  have HS := Lib.hid h
  have hg := h.lt
  clear h
  go_enter Tryz.func18, Tryz.ntmps18
  go_upto_region 1 with fail
  refine box1 (P := fun W => Code.wp _ _ _ _ W) fun W HX BX => ?_
  have HN := Lib.hid (n_any g 9 W (HS.out.ext HX.out) (by decide) (by decide))
  have hne : w.heap.size ≠ g := by omega
  go_wp2_with fail
  refine HN.out.mono ?_
  rintro e w1 ⟨r, hr, rfl, hs, ho⟩
  have BX1 := Lib.hid (BX.out.only ho hne)
  have HO1 := Lib.hid ((Only.of_ext (g := g) HX.out).trans ho)
  have HS1 := Lib.hid hs
  generalize w.heap.size = gx at *
  obtain ⟨s0, s1⟩ := BX1.out.two
  clear HX HN BX HS ho hs hne BX1
  have hk3 : kind = 3 ∨ kind = 1 ∨ kind = 2 := by omega
  clear hk
  have hr9 : r = 0 ∨ r = 1 ∨ r = 2 ∨ r = 3 ∨ r = 4 ∨ r = 5 ∨ r = 6 ∨ r = 7 ∨ r = 8 := by omega
  clear hr
  have dn : ∀ t, t = ([] : List UInt8) → ValT kind t := fun t h => .inl h
  rcases hk3 with rfl | rfl | rfl
  · have VR : Hid (ValT 3 [114, 101, 100]) := .inr (.inl ⟨rfl, word_red⟩)
    have VG : Hid (ValT 3 [103, 114, 101, 101, 110]) := .inr (.inl ⟨rfl, word_green⟩)
    have VB : Hid (ValT 3 [98, 108, 117, 101]) := .inr (.inl ⟨rfl, word_blue⟩)
    have VN : Hid (ValT 3 []) := .inl rfl
    clear dn
    rcases hr9 with rfl | rfl | rfl | rfl | rfl | rfl | rfl | rfl | rfl
    all_goals go_wp2
    all_goals go_ret
    all_goals (first | exact ⟨_, VN.out, rfl, HS1.out, HO1.out⟩ | exact ⟨_, VR.out, rfl, HS1.out.ext ((Ext.refl _).alloc _), HO1.out.trans (Only.of_ext ((Ext.refl _).alloc _))⟩ | exact ⟨_, VG.out, rfl, HS1.out.ext ((Ext.refl _).alloc _), HO1.out.trans (Only.of_ext ((Ext.refl _).alloc _))⟩ | exact ⟨_, VB.out, rfl, HS1.out.ext ((Ext.refl _).alloc _), HO1.out.trans (Only.of_ext ((Ext.refl _).alloc _))⟩)
  · have VR : Hid (ValT 1 [49]) := valt_int 1 _ (by decide) one_text
    have VG : Hid (ValT 1 [50]) := valt_int 2 _ (by decide) dz2
    have VB : Hid (ValT 1 [49, 48]) := valt_int 10 _ (by decide) dz10
    have VN : Hid (ValT 1 []) := .inl rfl
    clear dn
    rcases hr9 with rfl | rfl | rfl | rfl | rfl | rfl | rfl | rfl | rfl
    all_goals go_wp2
    all_goals go_ret
    all_goals (first | exact ⟨_, VN.out, rfl, HS1.out, HO1.out⟩ | exact ⟨_, VR.out, rfl, HS1.out.ext ((Ext.refl _).alloc _), HO1.out.trans (Only.of_ext ((Ext.refl _).alloc _))⟩ | exact ⟨_, VG.out, rfl, HS1.out.ext ((Ext.refl _).alloc _), HO1.out.trans (Only.of_ext ((Ext.refl _).alloc _))⟩ | exact ⟨_, VB.out, rfl, HS1.out.ext ((Ext.refl _).alloc _), HO1.out.trans (Only.of_ext ((Ext.refl _).alloc _))⟩)
  · have V0 : Hid (ValT 2 [48]) := valt_dig 0 (by decide)
    have V1 : Hid (ValT 2 [49]) := valt_dig 1 (by decide)
    have V2 : Hid (ValT 2 [50]) := valt_dig 2 (by decide)
    have V3 : Hid (ValT 2 [51]) := valt_dig 3 (by decide)
    have V4 : Hid (ValT 2 [45, 50]) := valt_q (-2) _ txm2 (by kernel_rfl)
    have V5 : Hid (ValT 2 [49, 47, 50]) := valt_q (1 / 2) _ ratText_half (by kernel_rfl)
    have V6 : Hid (ValT 2 [53, 47, 51]) := valt_q (5 / 3) _ tx53 (by kernel_rfl)
    have VN : Hid (ValT 2 []) := .inl rfl
    clear dn
    rcases hr9 with rfl | rfl | rfl | rfl | rfl | rfl | rfl | rfl | rfl
    all_goals go_wp2
    all_goals go_ret
    all_goals (first | exact ⟨_, VN.out, rfl, HS1.out, HO1.out⟩ | exact ⟨_, V0.out, rfl, HS1.out.ext ((Ext.refl _).alloc _), HO1.out.trans (Only.of_ext ((Ext.refl _).alloc _))⟩ | exact ⟨_, V1.out, rfl, HS1.out.ext ((Ext.refl _).alloc _), HO1.out.trans (Only.of_ext ((Ext.refl _).alloc _))⟩ | exact ⟨_, V2.out, rfl, HS1.out.ext ((Ext.refl _).alloc _), HO1.out.trans (Only.of_ext ((Ext.refl _).alloc _))⟩ | exact ⟨_, V3.out, rfl, HS1.out.ext ((Ext.refl _).alloc _), HO1.out.trans (Only.of_ext ((Ext.refl _).alloc _))⟩ | exact ⟨_, V4.out, rfl, HS1.out.ext ((Ext.refl _).alloc _), HO1.out.trans (Only.of_ext ((Ext.refl _).alloc _))⟩ | exact ⟨_, V5.out, rfl, HS1.out.ext ((Ext.refl _).alloc _), HO1.out.trans (Only.of_ext ((Ext.refl _).alloc _))⟩ | exact ⟨_, V6.out, rfl, HS1.out.ext ((Ext.refl _).alloc _), HO1.out.trans (Only.of_ext ((Ext.refl _).alloc _))⟩)
end Go.Proofs.YthalpbjkkfkheaaGreatDoor
