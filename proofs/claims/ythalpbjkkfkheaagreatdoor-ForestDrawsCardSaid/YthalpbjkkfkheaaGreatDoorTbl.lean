/- Rows of tables and databases; the reference's Less. -/
import Derived.Test.YthalpbjkkfkheaaGreatDoorMkV
import Derived.Test.YthalpbjkkfkheaaGreatDoorKeep
import Derived.Test.YthalpbjkkfkheaaGreatDoorLex
namespace Go.Proofs.YthalpbjkkfkheaaGreatDoor
open Go.RowKit Go.Lib

abbrev Txt := List UInt8
abbrev tStrs : TypeId := 42
abbrev tRow : TypeId := 44
abbrev tRows : TypeId := 41
abbrev tDb : TypeId := 34
/-- a row: its values, its weight -/
abbrev Rw := List Txt × Int
abbrev TL := Ls tStr TxR
def RwR (w : World) (c : List Value) (x : Rw) : Prop := ∃ A d, c = [.slice A x.1.length d, .int .i64 x.2] ∧ TL w (.slice A x.1.length d) x.1
theorem RwR.stab : Stab [tStr] RwR := fun _ _ _ _ hk ⟨A, d, e, h⟩ => ⟨A, d, e, Ls.keep TxR.stab h hk⟩
theorem RwR.two (w : World) (c : List Value) (x : Rw) (h : RwR w c x) : c.length = 2 := by obtain ⟨_, _, rfl, _⟩ := h; rfl
abbrev RwL := Ls tRow RwR
def TbR := OneR tRow RwR
theorem TbR.stab : Stab [tRow, tStr] TbR := OneR.stab RwR.stab
abbrev DbL := Ls tRows TbR
theorem TL.ext {w w' : World} {v : Value} {l : List Txt} (h : TL w v l) (hx : Ext w w') : TL w' v l := Ls.ext TxR.stab h hx
theorem RwL.ext {w w' : World} {v : Value} {l : List Rw} (h : RwL w v l) (hx : Ext w w') : RwL w' v l := Ls.ext RwR.stab h hx
theorem DbL.ext {w w' : World} {v : Value} {l : List (List Rw)} (h : DbL w v l) (hx : Ext w w') : DbL w' v l := Ls.ext TbR.stab h hx
theorem TL.get {w : World} {A : Option Addr} {n c : Nat} {l : List Txt} (h : TL w (.slice A n c) l) {i : Nat} (hi : i < l.length) :
    ∃ g o, A = some ⟨g, o, none⟩ ∧ g < w.heap.size ∧ w.cell? ⟨g, o + i, none⟩ = some (.string ⟨l[i].toArray⟩) := by
  obtain ⟨g, o, d, h1, h2, h3, h4⟩ := Ls.get TxR.one (by decide) h hi
  rw [show d = _ from h3] at h4
  have h5 := h4 0 _ rfl
  rw [Nat.mul_one, Nat.add_zero] at h5
  exact ⟨g, o, h1, h2, h5⟩
theorem RwL.get {w : World} {A : Option Addr} {n c : Nat} {l : List Rw} (h : RwL w (.slice A n c) l) {i : Nat} (hi : i < l.length) :
    ∃ g o B d, A = some ⟨g, o, none⟩ ∧ g < w.heap.size ∧ w.cell? ⟨g, o + i * 2, none⟩ = some (.slice B l[i].1.length d) ∧ w.cell? ⟨g, o + i * 2 + 1, none⟩ = some (.int .i64 l[i].2) ∧ Hid (TL w (.slice B l[i].1.length d) l[i].1) := by
  obtain ⟨g, o, d, h1, h2, ⟨B, d', rfl, h3⟩, h4⟩ := Ls.get RwR.two (by decide) h hi
  exact ⟨g, o, B, d', h1, h2, h4 0 _ rfl, h4 1 _ rfl, h3⟩
theorem DbL.get {w : World} {A : Option Addr} {n c : Nat} {l : List (List Rw)} (h : DbL w (.slice A n c) l) {i : Nat} (hi : i < l.length) :
    ∃ g o A1 c1, A = some ⟨g, o, none⟩ ∧ g < w.heap.size ∧ Hid (RwL w (.slice A1 l[i].length c1) l[i]) ∧ w.cell? ⟨g, o + i, none⟩ = some (.slice A1 l[i].length c1) := OneR.get h hi
theorem row_slice : SliceTy Tryz.prog tRows tRow 2 32 := .mk' (z := .agg #[.slice none 0 0, .int .i64 0]) (by kernel_rfl) (by kernel_rfl) rfl (by decide) (by decide)
theorem rows_slice : SliceTy Tryz.prog tDb tRows 1 24 := .mk' (z := .slice none 0 0) (by kernel_rfl) (by kernel_rfl) rfl (by decide) (by decide)
set_option maxRecDepth 100000 in
set_option maxHeartbeats 1000000 in
theorem rless_any (A1 A2 : Option Addr) (n1 c1 n2 c2 : Nat) (a b : List Txt) (w : World) (h1 : TL w (.slice A1 n1 c1) a) (h2 : TL w (.slice A2 n2 c2) b) :
    Calls Tryz.prog 28 #[.slice A1 n1 c1, .slice A2 n2 c2] w fun e w' => e = .returned (.bool (ltT a b)) ∧ ∃ n, w' = w.drewN n := by
  obtain ⟨e1, hc1, hm1⟩ := cap_le h1
  obtain ⟨e2, hc2, hm2⟩ := cap_le h2
  subst e1 e2
  have HA := Lib.hid h1
  have HB := Lib.hid h2
  clear h1 h2
  go_enter Tryz.func28, Tryz.ntmps28
  go_wp2
  go_loopw [5] (fun v wr => ∃ i : Nat, i ≤ a.length ∧ i ≤ b.length ∧ v = .int .i64 i ∧ Hid (a.take i = b.take i) ∧ ∃ q, wr = w.drewN q) (fun v _ => a.length - (RowKit.intOf v).toNat)
  case atStart => exact ⟨0, Nat.zero_le _, Nat.zero_le _, rfl, rfl, 0, rfl⟩
  case round =>
    obtain ⟨i, hi1, hi2, rfl, HT, q, rfl⟩ := hrel
    by_cases ha : i < a.length
    · by_cases hb : i < b.length
      · obtain ⟨g, o, rfl, _, hcell⟩ := TL.get HA.out ha
        obtain ⟨g', o', rfl, _, hcell'⟩ := TL.get HB.out hb
        have HLT := Lib.hid (fun h => ltT_at ha hb HT.out h)
        have HTS : Hid ((a[i] == b[i]) = true → a.take (i + 1) = b.take (i + 1)) := fun h => by rw [List.take_add_one, List.take_add_one, HT.out, List.getElem?_eq_getElem ha, List.getElem?_eq_getElem hb, beq_iff_eq.1 h]
        generalize a[i] = x at *
        generalize b[i] = y at *
        by_cases hxy : (x == y) = true
        · have HTN := Lib.hid (HTS.out hxy)
          clear HTS HLT HT
          go_wp2
          go_quiet (fail)
          go_wp2
          go_roundw
          case rel => exact ⟨i + 1, by omega, by omega, by go_num, HTN, _, rfl⟩
          case measure => simp [RowKit.intOf]; omega
        · have hxy' : (x == y) = false := by simpa using hxy
          have HV := Lib.hid (HLT.out hxy')
          clear hxy HLT HTS
          go_wp2
          go_quiet (fail)
          go_wp2
          go_quiet (fail)
          go_wp2
          go_ret
          exact ⟨by rw [HV.out]; rfl, drew3 _ _ _ _⟩
      · obtain rfl : i = b.length := by omega
        have HV := Lib.hid (ltT_endB HT.out)
        have d1 : decide (b.length < b.length) = false := by simp
        have d2 : decide (a.length < b.length) = false := decide_eq_false (by omega)
        go_wp2
        go_ret
        exact ⟨by rw [HV.out]; rfl, _, rfl⟩
    · obtain rfl : i = a.length := by omega
      by_cases hb : a.length < b.length
      · have HV := Lib.hid (ltT_endA hb HT.out)
        go_wp2
        go_ret
        exact ⟨by rw [HV.out]; rfl, _, rfl⟩
      · have HV : Hid (ltT a b = false) := by
          have h1 := HT.out
          have e : a.length = b.length := by omega
          rw [e] at h1
          exact ltT_endB h1
        go_wp2
        go_ret
        exact ⟨by rw [HV.out]; rfl, _, rfl⟩
end Go.Proofs.YthalpbjkkfkheaaGreatDoor
