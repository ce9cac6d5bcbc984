/- joinlearnmake.Rat, with its twelfths; masses moved and multiplied. -/
import Derived.Test.YtkhmfgkbobblmaaGreatDoorMasses
namespace Go.Proofs.YtkhmfgkbobblmaaGreatDoor
open Go.RowKit Go.Lib

/-- a made number -/
def Q12 (q : Rat) : Prop := ∃ z : Int, q * 12 = (z : Rat) ∧ z.natAbs ≤ 108
theorem q12_of {a b : Int} (h1 : -9 ≤ a) (h2 : a ≤ 9) (hb : b ∈ [1, 1, 1, 2, 3, 4]) : Q12 (Rat.divInt a b) := by
  simp only [List.mem_cons, List.not_mem_nil, or_false] at hb
  rw [Rat.divInt_eq_div]
  rcases hb with rfl | rfl | rfl | rfl | rfl | rfl
  · exact ⟨a * 12, by rw [Rat.intCast_mul, show ((1 : Int) : Rat) = 1 from rfl, show ((12 : Int) : Rat) = 12 from rfl]; grind, by omega⟩
  · exact ⟨a * 12, by rw [Rat.intCast_mul, show ((1 : Int) : Rat) = 1 from rfl, show ((12 : Int) : Rat) = 12 from rfl]; grind, by omega⟩
  · exact ⟨a * 12, by rw [Rat.intCast_mul, show ((1 : Int) : Rat) = 1 from rfl, show ((12 : Int) : Rat) = 12 from rfl]; grind, by omega⟩
  · exact ⟨a * 6, by rw [Rat.intCast_mul, show ((2 : Int) : Rat) = 2 from rfl, show ((6 : Int) : Rat) = 6 from rfl]; grind, by omega⟩
  · exact ⟨a * 4, by rw [Rat.intCast_mul, show ((3 : Int) : Rat) = 3 from rfl, show ((4 : Int) : Rat) = 4 from rfl]; grind, by omega⟩
  · exact ⟨a * 3, by rw [Rat.intCast_mul, show ((4 : Int) : Rat) = 4 from rfl, show ((3 : Int) : Rat) = 3 from rfl]; grind, by omega⟩
set_option maxRecDepth 100000 in
set_option maxHeartbeats 4000000 in
theorem mratT_any (g : Nat) (w : World) (h : SrcAt w g) :
    Calls Tryz.prog 12 #[.pointer (some ⟨g, 0, none⟩)] w fun e w' => ∃ q, FitQ 2 q ∧ Q12 q ∧ e = .returned (.string ⟨(ratText q).toArray⟩) ∧ SrcAt w' g ∧ Only g w w' := by
  have HS := Lib.hid h
  clear h
  go_enter Tryz.func12, Tryz.ntmps12
  go_wp2_with fail
  refine (rangez_any g (-9) 9 w HS.out (by decide) (by decide) (by decide)).mono ?_
  rintro e w1 ⟨a, ha1, ha2, rfl, hs1, ho1⟩
  go_wp2_with fail
  refine (rof_any a w1 (by omega) (by omega)).mono ?_
  rintro e w2 ⟨v2, rfl, hv2, hx2⟩
  have hs2 := hs1.ext hx2
  have hg2 := hs2.lt
  go_wp2_with fail
  have BL := Blk.new w2 tInt (zcells [1, 1, 1, 2, 3, 4])
  have hxl : Ext w2 (w2.alloc (.cells (zcells [1, 1, 1, 2, 3, 4]).toArray tInt)) := (Ext.refl w2).alloc _
  refine (mpick_any g w2.heap.size [1, 1, 1, 2, 3, 4] _ (hs2.ext hxl) BL (by omega) (by decide) (by decide)).mono ?_
  rintro e w3 ⟨b, hb, rfl, hs3, ho3⟩
  have hb' : 0 < b ∧ b < 10 := by
    simp only [List.mem_cons, List.not_mem_nil, or_false] at hb
    omega
  have H12 := Lib.hid (q12_of ha1 ha2 hb)
  have HV3 : Hid (BigV w3 v2 a) := (hv2.ext hxl).keep (Src.kept (hs2.ext hxl) ho3 (by decide))
  have HS3 := Lib.hid hs3
  have HO3 : Hid (Only g w w3) := ((ho1.trans (Only.of_ext hx2)).trans (Only.of_ext hxl)).trans ho3
  clear hs1 ho1 hv2 hx2 hs2 hg2 BL hxl hs3 ho3 hb
  go_wp2_with fail
  refine (rof_any b w3 (by omega) (by omega)).mono ?_
  rintro e w4 ⟨v4, rfl, hv4, hx4⟩
  go_wp2_with fail
  refine (rnew_any v2 v4 a b w4 (HV3.out.ext hx4) hv4 (small_fitZ (by omega)) (small_fitZ (by omega)) hb'.1).mono ?_
  rintro e w5 ⟨v5, rfl, hv5, hx5⟩
  have FQ : Hid (FitQ 2 (Rat.divInt a b)) := divInt_fitR (d := 1) (e := 1) (int_fitR (by omega) (by decide)) (int_fitR (by omega) (by decide)) hb'.1
  generalize Rat.divInt a b = q at *
  have HX5 := Lib.hid (hx4.trans hx5)
  clear hx4 hv4 hx5
  go_wp2_with fail
  refine (rfgive_any v5 q w5 hv5 (FQ.out.mono (by decide))).mono ?_
  rintro e w6 ⟨rfl, hx6⟩
  have HX6 := Lib.hid (HX5.out.trans hx6)
  clear hx6 hv5
  generalize htq : ratText q = tq
  have HTQ := Lib.hid htq
  clear htq
  go_wp2
  go_ret
  exact ⟨q, FQ.out, H12.out, by rw [HTQ.out]; rfl, HS3.out.ext HX6.out, HO3.out.trans (Only.of_ext HX6.out)⟩
theorem shf_ok {l : List Ms} {q : Rat} (h : l.length ≤ 8) (hT : ∀ x ∈ l, MsT x) (hq : Q12 q) : MsOk (shf q l) := by
  refine ⟨by rw [shf_length]; exact h, fun x hx => ?_⟩
  obtain ⟨y, hy, rfl⟩ := List.mem_map.1 hx
  obtain ⟨z, u, h1, h2, h3, h4, h5⟩ := hT y hy
  obtain ⟨v, k1, k2⟩ := hq
  exact ⟨z + v, u, by rw [Rat.intCast_add, ← h1, ← k1]; grind, h2, by omega, h4, by omega⟩
theorem hvy_ok {l : List Ms} {k : Int} (h : l.length ≤ 8) (hT : ∀ x ∈ l, MsT x) (h1 : 1 ≤ k) (h7 : k ≤ 7) : MsOk (hvy (k : Rat) l) := by
  refine ⟨by rw [hvy_length]; exact h, fun x hx => ?_⟩
  obtain ⟨y, hy, rfl⟩ := List.mem_map.1 hx
  obtain ⟨z, u, m1, m2, m3, m4, m5⟩ := hT y hy
  have h8 : u * k ≤ 14 * 7 := Int.mul_le_mul m5 h7 (by omega) (by omega)
  have h9 : 1 * 1 ≤ u * k := Int.mul_le_mul m4 h1 (by omega) (by omega)
  exact ⟨z, u * k, m1, by rw [Rat.intCast_mul, ← m2]; grind, by omega, by omega, by omega⟩
theorem shf_asc {l : List Ms} (q : Rat) (h : Asc l) : Asc (shf q l) := by
  unfold Asc shf
  rw [List.pairwise_map]
  exact List.Pairwise.imp (fun h => by grind) h
theorem hvy_asc {l : List Ms} (q : Rat) (h : Asc l) : Asc (hvy q l) := by
  unfold Asc hvy
  rw [List.pairwise_map]
  exact h
end Go.Proofs.YtkhmfgkbobblmaaGreatDoor
