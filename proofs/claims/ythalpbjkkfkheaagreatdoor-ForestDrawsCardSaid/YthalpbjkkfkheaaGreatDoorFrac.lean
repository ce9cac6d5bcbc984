/- limbs: integers with a sign: number, Of, Sign, Neg. limbs: integers with a sign: Add, Sub, Mul, Compare, Gcd, Div, Of. limbs: Of, Div. fraction: the values, whole, Whole, Of. fraction: Of, Sign, Neg, New. fraction: Add, Sub, Mul, Div, Compare, Floor. -/
import Derived.Test.YthalpbjkkfkheaaGreatDoorLimbs
import Derived.Deep.RegionHeld3
/- limbs: integers with a sign: number, Of, Sign, Neg. -/
namespace Go.Proofs.YthalpbjkkfkheaaGreatDoor
open Go.RowKit

/-- the value v is the integer z -/
def Num (w : World) (v : Value) (z : Int) : Prop := ∃ s, v = .agg #[.bool (decide (z < 0)), s] ∧ NatV w s z.natAbs
theorem Num.ext {w w' : World} {v : Value} {z : Int} (h : Num w v z) (hx : Ext w w') : Num w' v z := by
  obtain ⟨s, rfl, hs⟩ := h
  exact ⟨s, rfl, hs.ext hx⟩
theorem Num.keep {w w' : World} {v : Value} {z : Int} (h : Num w v z) (hx : Kept 47 w w') : Num w' v z := by
  obtain ⟨s, rfl, hs⟩ := h
  exact ⟨s, rfl, hs.keep hx⟩

theorem Num.mk' {w : World} {b : Bool} {s : Value} {z : Int} (hb : b = decide (z < 0)) (h : NatV w s z.natAbs) : Num w (.agg #[.bool b, s]) z := ⟨s, by rw [hb], h⟩
/-- for a walk: the value's cells by name, what they mean aside -/
theorem Num.parts {w : World} {v : Value} {z : Int} (h : Num w v z) : ∃ b A n c, v = .agg #[.bool b, .slice A n c] ∧ Hid (Num w (.agg #[.bool b, .slice A n c]) z) := by
  obtain ⟨s, rfl, A, c, rfl, hc, hs⟩ := h
  exact ⟨_, A, _, c, rfl, ⟨_, rfl, A, c, rfl, hc, hs⟩⟩
theorem Num.inv {w : World} {b : Bool} {s : Value} {z : Int} (h : Num w (.agg #[.bool b, s]) z) : b = decide (z < 0) ∧ NatV w s z.natAbs := by
  obtain ⟨s', e, hs⟩ := h
  simp at e
  obtain ⟨rfl, rfl⟩ := e
  exact ⟨rfl, hs⟩
/-- number(negative, size): the sign is dropped at 0 -/
def signed (neg : Bool) (n : Nat) : Int := if neg then -(n : Int) else n
theorem signed_natAbs (neg : Bool) (n : Nat) : (signed neg n).natAbs = n := by unfold signed; split <;> simp
theorem signed_neg (neg : Bool) (n : Nat) : decide (signed neg n < 0) = (neg && decide (0 < n)) := by
  unfold signed
  cases neg
  · simp
  · simp

theorem number_any (neg : Bool) (s : Value) (n : Nat) (w : World) (hs : NatV w s n) (hn : Fit n) :
    Calls Tryz.prog 99 #[.bool neg, s] w fun e w' => ∃ v, e = .returned v ∧ Num w' v (signed neg n) ∧ Ext w w' := by
  obtain ⟨A, c, rfl, hc, hsl⟩ := hs
  have hlen : decide (0 < (toL n).length) = decide (0 < n) := by
    rcases Nat.eq_zero_or_pos n with h | h
    · subst h; rfl
    · have : (toL n).length ≠ 0 := fun h0 => by have := toL_eq_nil.1 (List.eq_nil_of_length_eq_zero h0); omega
      simp; omega
  have HL := Lib.hid hlen
  have HS := Lib.hid hsl
  unfold Fit at hn
  clear hlen hsl
  cases neg
  · go_enter Tryz.func99, Tryz.ntmps99
    go_wp2
    refine bodyPost_ret (v := .agg #[.bool false, .slice A (toL n).length c]) (by simp [results, Tryz.results99, go_sem]) rfl ⟨_, rfl, .mk' ?_ ?_, (Ext.refl w).alloc _⟩
    · rw [signed_neg]; rfl
    · rw [signed_natAbs]; exact ⟨A, c, rfl, hc, HS.out.ext ((Ext.refl w).alloc _)⟩
  · go_enter Tryz.func99, Tryz.ntmps99
    go_wp2
    refine bodyPost_ret (v := .agg #[.bool (decide (0 < (toL n).length)), .slice A (toL n).length c]) (by simp [results, Tryz.results99, go_sem]) rfl ⟨_, rfl, .mk' ?_ ?_, (Ext.refl w).alloc _⟩
    · rw [signed_neg, HL.out]; rfl
    · rw [signed_natAbs]; exact ⟨A, c, rfl, hc, HS.out.ext ((Ext.refl w).alloc _)⟩

/-- integers of at most a million digits -/
def FitZ (z : Int) : Prop := ∃ e, e ≤ 1000000 ∧ z.natAbs < 10 ^ e
theorem FitZ.fit {z : Int} (h : FitZ z) : Fit z.natAbs := by
  obtain ⟨e, he, hz⟩ := h
  exact Fit.of_lt hz (by omega)
theorem lt_add_pow {a b d e : Nat} (ha : a < 10 ^ d) (hb : b < 10 ^ e) : a + b < 10 ^ (d + e + 1) := by
  have h1 : 10 ^ d ≤ 10 ^ (d + e) := Nat.pow_le_pow_right (by decide) (by omega)
  have h2 : 10 ^ e ≤ 10 ^ (d + e) := Nat.pow_le_pow_right (by decide) (by omega)
  rw [Nat.pow_succ]
  omega
theorem lt_mul_pow {a b d e : Nat} (ha : a < 10 ^ d) (hb : b < 10 ^ e) : a * b < 10 ^ (d + e) := by
  rw [Nat.pow_add]
  exact Nat.mul_lt_mul'' ha hb
theorem FitZ.fit_add {x y : Int} (hx : FitZ x) (hy : FitZ y) : Fit (x.natAbs + y.natAbs) := by
  obtain ⟨d, hd, hx⟩ := hx
  obtain ⟨e, he, hy⟩ := hy
  exact Fit.of_lt (lt_add_pow hx hy) (by omega)
theorem FitZ.fit_mul {x y : Int} (hx : FitZ x) (hy : FitZ y) : Fit (x.natAbs * y.natAbs) := by
  obtain ⟨d, hd, hx⟩ := hx
  obtain ⟨e, he, hy⟩ := hy
  exact Fit.of_lt (lt_mul_pow hx hy) (by omega)
theorem FitZ.le {x y : Int} (hx : FitZ x) (h : y.natAbs ≤ x.natAbs) : FitZ y := by
  obtain ⟨d, hd, hx⟩ := hx
  exact ⟨d, hd, by omega⟩
/-- integers of at most eight million digits: what one operation makes -/
def FitZ' (z : Int) : Prop := Fit z.natAbs
theorem FitZ.sub {x y : Int} (hx : FitZ x) (hy : FitZ y) : FitZ' (x - y) := (hx.fit_add hy).le (by omega)
theorem FitZ.wide {x : Int} (hx : FitZ x) : FitZ' x := hx.fit
theorem FitZ.neg {x : Int} (hx : FitZ x) : FitZ (-x) := hx.le (by simp)

theorem numSign_any (v : Value) (z : Int) (w : World) (h : Num w v z) (hf : FitZ' z) :
    Calls Tryz.prog 103 #[v] w fun e w' => e = .returned (.int .i64 z.sign) ∧ Ext w w' := by
  obtain ⟨s, rfl, A, c, rfl, hc, hs⟩ := h
  unfold FitZ' Fit at hf
  rcases Int.lt_trichotomy z 0 with hz | hz | hz
  · have hd : decide (z < 0) = true := decide_eq_true hz
    have HS := Lib.hid (Int.sign_eq_neg_one_of_neg hz)
    clear hs
    go_enter Tryz.func103, Tryz.ntmps103
    go_wp2
    go_ret
    exact ⟨ret_int HS.out.symm, (Ext.refl w).alloc _⟩
  · subst hz
    have hd : decide ((0 : Int) < 0) = false := rfl
    have hl : (toL (0 : Int).natAbs).length = 0 := rfl
    rw [hl] at *
    go_enter Tryz.func103, Tryz.ntmps103
    go_wp2
    go_ret
    exact ⟨rfl, (Ext.refl w).alloc _⟩
  · have hd : decide (z < 0) = false := decide_eq_false (by omega)
    have HS := Lib.hid (Int.sign_eq_one_of_pos hz)
    have hl : 0 < (toL z.natAbs).length := by
      rcases Nat.eq_zero_or_pos (toL z.natAbs).length with h | h
      · have := toL_eq_nil.1 (List.eq_nil_of_length_eq_zero h); omega
      · exact h
    clear hs
    go_enter Tryz.func103, Tryz.ntmps103
    go_wp2
    go_ret
    exact ⟨ret_int HS.out.symm, (Ext.refl w).alloc _⟩

theorem neg_signed (z : Int) : signed (!decide (z < 0)) z.natAbs = -z := by
  unfold signed
  by_cases h : z < 0
  · simp [h]; omega
  · simp [h]; omega
/-- a method that boxes one number, makes a result's box and stores the result there -/
theorem numNeg_any (v : Value) (z : Int) (w : World) (h : Num w v z) (hf : FitZ z) :
    Calls Tryz.prog 111 #[v] w fun e w' => ∃ v', e = .returned v' ∧ Num w' v' (-z) ∧ Ext w w' := by
  obtain ⟨b, A, n, c, rfl, H⟩ := h.parts
  have HF := Lib.hid hf.fit
  clear hf h
  go_enter Tryz.func111, Tryz.ntmps111
  go_wp2_with fail
  have hx0 : Ext w ((w.alloc (Obj.cells #[Value.bool b, Value.slice A n c] 123)).alloc (Obj.cells #[Value.bool false, Value.slice none 0 0] 123)) := ((Ext.refl w).alloc _).alloc _
  have hbk := Blk.new (w.alloc (Obj.cells #[Value.bool b, Value.slice A n c] 123)) 123 [.bool false, .slice none 0 0]
  refine (number_any (!b) _ z.natAbs _ (H.out.inv.2.ext hx0) HF.out).mono ?_
  rintro e w1 ⟨v1, rfl, hn1, hx1⟩
  have hn2 : Num w1 v1 (-z) := by rw [← neg_signed, ← H.out.inv.1]; exact hn1
  obtain ⟨b1, A1, n1, c1, rfl, H1⟩ := hn2.parts
  have HB1 : Hid (Blk w1 (w.heap.size + 1) 123 [.bool false, .slice none 0 0]) := by
    have := hbk.ext hx1
    rw [show (w.alloc (Obj.cells #[Value.bool b, Value.slice A n c] 123)).heap.size = w.heap.size + 1 by simp] at this
    exact this
  have HX1 := Lib.hid (hx0.trans hx1)
  have hc0 := HB1.out.cell (i := 0) rfl
  have hc1 := HB1.out.cell (i := 1) rfl
  have hf0 := HB1.out.frozen 0
  have hf1 := HB1.out.frozen 1
  clear hx1 hx0 hn1 hn2 hbk
  go_wp2
  refine bodyPost_ret (v := .agg #[.bool b1, .slice A1 n1 c1]) (by simp [results, Tryz.results111, go_sem, hc0, hc1]) rfl ⟨_, rfl, H1.out.keep (HB1.out.kept2 (by decide) _ _ _ _), (HX1.out.setCell (by simp) _).setCell (by simp) _⟩
end Go.Proofs.YthalpbjkkfkheaaGreatDoor
/- limbs: integers with a sign: Add, Sub, Mul, Compare, Gcd, Div, Of. -/
namespace Go.Proofs.YthalpbjkkfkheaaGreatDoor
open Go.RowKit

abbrev tNum : TypeId := 123
theorem Blk.new' (w : World) (t : TypeId) (l : List Value) (g : Nat) (hg : g = w.heap.size) : Blk (w.alloc (.cells l.toArray t)) g t l := by subst hg; exact Blk.new w t l
/-- the end of a method whose result is a number in a box of its own -/
theorem ret_num {fn : Func} {t g : Nat} {w w1 : World} {b1 : Bool} {A1 : Option Addr} {n1 c1 : Nat} {z : Int} {a : Act} {R : Ending → World → Prop} {x0 x1 : Value} (hres : fn.results = #[.cell t tNum]) (ht : a.tmps.getD t undef = .pointer (some ⟨g, 0, none⟩)) (hd : a.defers = [])
    (hB : Blk w1 g tNum [x0, x1]) (H1 : Num w1 (.agg #[.bool b1, .slice A1 n1 c1]) z) (hx : Ext w w1) (hg : w.heap.size ≤ g) (hR : ∀ v W', Num W' v z → Ext w W' → R (.returned v) W') :
    bodyPost Tryz.prog fn R .ret a ((w1.setCell ⟨g, 0, none⟩ (.bool b1)).setCell ⟨g, 1, none⟩ (.slice A1 n1 c1)) := by
  have hB2 : Blk ((w1.setCell ⟨g, 0, none⟩ (.bool b1)).setCell ⟨g, 1, none⟩ (.slice A1 n1 c1)) g tNum [.bool b1, .slice A1 n1 c1] := (hB.set_ 0 (.bool b1)).set_ 1 (.slice A1 n1 c1)
  exact bodyPost_ret (results_cell_row hres a.tmps _ g tNum #[.bool b1, .slice A1 n1 c1] (0, 0) _ ht hB2 Tryz.underlying123 rfl (by kernel_rfl)) hd (hR _ _ (H1.keep (hB.kept2 (by decide) _ _ _ _)) ((hx.setCell hg _).setCell hg _))

/-- the sum of naturals, as values -/
theorem natAdd_any (va vb : Value) (a b : Nat) (w : World) (ha : NatV w va a) (hb : NatV w vb b) (fa : Fit a) (fb : Fit b) :
    Calls Tryz.prog 127 #[va, vb] w fun e w' => ∃ v', e = .returned v' ∧ NatV w' v' (a + b) ∧ Ext w w' := by
  obtain ⟨A1, c1, rfl, hc1, s1⟩ := ha
  obtain ⟨A2, c2, rfl, hc2, s2⟩ := hb
  unfold Fit at fa fb
  refine (add_any A1 A2 c1 c2 (toL a) (toL b) w (by omega) (by omega) (toL_canon a).1 (toL_canon b).1 s1 s2).mono ?_
  rintro e w' ⟨r, c, hc, rfl, hr, hv, hs, hx⟩
  exact ⟨_, rfl, .mk' hr (by rw [hv, val_toL, val_toL]) hc hs, hx⟩

/-- three boxes of numbers: two arguments and a result -/
structure Box3 (W : World) (g : Nat) (x0 x1 y0 y1 z0 z1 : Value) : Prop where
  a : Blk W g tNum [x0, x1]
  b : Blk W (g + 1) tNum [y0, y1]
  r : Blk W (g + 1 + 1) tNum [z0, z1]
theorem Box3.new (w : World) (x0 x1 y0 y1 z0 z1 : Value) : Box3 (((w.alloc (Obj.cells #[x0, x1] tNum)).alloc (Obj.cells #[y0, y1] tNum)).alloc (Obj.cells #[z0, z1] tNum)) w.heap.size x0 x1 y0 y1 z0 z1 :=
  ⟨((Blk.new' w tNum [x0, x1] _ rfl).alloc _).alloc _, (Blk.new' (w.alloc (Obj.cells #[x0, x1] tNum)) tNum [y0, y1] _ (by simp)).alloc _, Blk.new' ((w.alloc (Obj.cells #[x0, x1] tNum)).alloc (Obj.cells #[y0, y1] tNum)) tNum [z0, z1] _ (by simp)⟩
section
variable {W W' : World} {g : Nat} {x0 x1 y0 y1 z0 z1 : Value}
theorem Box3.ext (h : Box3 W g x0 x1 y0 y1 z0 z1) (hx : Ext W W') : Box3 W' g x0 x1 y0 y1 z0 z1 := ⟨h.a.ext hx, h.b.ext hx, h.r.ext hx⟩
theorem Box3.drew (h : Box3 W g x0 x1 y0 y1 z0 z1) : Box3 W.drew g x0 x1 y0 y1 z0 z1 := ⟨h.a, h.b, h.r⟩
theorem Box3.drewN (h : Box3 W g x0 x1 y0 y1 z0 z1) (n : Nat) : Box3 (W.drewN n) g x0 x1 y0 y1 z0 z1 := ⟨h.a, h.b, h.r⟩
theorem Box3.put (h : Box3 W g x0 x1 y0 y1 z0 z1) (u v : Value) : Box3 ((W.setCell ⟨g + 1 + 1, 0, none⟩ u).setCell ⟨g + 1 + 1, 1, none⟩ v) g x0 x1 y0 y1 u v :=
  ⟨(h.a.far (p := ⟨g + 1 + 1, 0, none⟩) (by show g ≠ g + 1 + 1; omega) u).far (p := ⟨g + 1 + 1, 1, none⟩) (by show g ≠ g + 1 + 1; omega) v, (h.b.far (p := ⟨g + 1 + 1, 0, none⟩) (by show g + 1 ≠ g + 1 + 1; omega) u).far (p := ⟨g + 1 + 1, 1, none⟩) (by show g + 1 ≠ g + 1 + 1; omega) v, (h.r.set_ 0 u).set_ 1 v⟩
/-- the cells that a region reads -/
theorem Box3.cells (h : Box3 W g x0 x1 y0 y1 z0 z1) : W.cell? ⟨g, 0, none⟩ = some x0 ∧ W.cell? ⟨g, 1, none⟩ = some x1 ∧ W.cell? ⟨g + 1, 0, none⟩ = some y0 ∧ W.cell? ⟨g + 1, 1, none⟩ = some y1 :=
  ⟨h.a.cell (i := 0) rfl, h.a.cell (i := 1) rfl, h.b.cell (i := 0) rfl, h.b.cell (i := 1) rfl⟩
/-- what the store of the result asks -/
theorem Box3.res (h : Box3 W g x0 x1 y0 y1 z0 z1) : W.cell? ⟨g + 1 + 1, 0, none⟩ = some z0 ∧ W.cell? ⟨g + 1 + 1, 1, none⟩ = some z1 ∧ W.frozen? ⟨g + 1 + 1, 0, none⟩ = false ∧ W.frozen? ⟨g + 1 + 1, 1, none⟩ = false :=
  ⟨h.r.cell (i := 0) rfl, h.r.cell (i := 1) rfl, h.r.frozen 0, h.r.frozen 1⟩
end

theorem add_signed_same {x y : Int} (h : decide (x < 0) = decide (y < 0)) : signed (decide (x < 0)) (x.natAbs + y.natAbs) = x + y := by
  unfold signed
  by_cases hx : x < 0 <;> simp [hx] at h ⊢ <;> omega
theorem add_signed_ge {x y : Int} (h : decide (x < 0) ≠ decide (y < 0)) (hle : y.natAbs ≤ x.natAbs) : signed (decide (x < 0)) (x.natAbs - y.natAbs) = x + y := by
  unfold signed
  by_cases hx : x < 0 <;> simp [hx] at h ⊢ <;> omega

set_option maxRecDepth 100000 in
set_option maxHeartbeats 4000000 in
theorem numAdd_same (va vb : Value) (x y : Int) (w : World) (ha : Num w va x) (hb : Num w vb y) (fx : FitZ x) (fy : FitZ y) (hxy : decide (x < 0) = decide (y < 0)) :
    Calls Tryz.prog 110 #[va, vb] w fun e w' => ∃ v', e = .returned v' ∧ Num w' v' (x + y) ∧ Ext w w' := by
  obtain ⟨ba, Aa, na, ca, rfl, HA⟩ := ha.parts
  obtain ⟨bb, Ab, nb, cb, rfl, HB⟩ := hb.parts
  have hbe : (ba == bb) = true := by rw [HA.out.inv.1, HB.out.inv.1, hxy]; simp
  have HXY := Lib.hid hxy
  have FX := Lib.hid fx
  have FY := Lib.hid fy
  clear ha hb fx fy hxy
  go_enter Tryz.func110, Tryz.ntmps110
  go_wp2_with fail
  have HX0 : Hid (Ext w (((w.alloc (Obj.cells #[Value.bool ba, Value.slice Aa na ca] tNum)).alloc (Obj.cells #[Value.bool bb, Value.slice Ab nb cb] tNum)).alloc (Obj.cells #[Value.bool false, Value.slice none 0 0] tNum))) := (((Ext.refl w).alloc _).alloc _).alloc _
  have H0 := Lib.hid (Box3.new w (.bool ba) (.slice Aa na ca) (.bool bb) (.slice Ab nb cb) (.bool false) (.slice none 0 0))
  generalize ((w.alloc (Obj.cells #[Value.bool ba, Value.slice Aa na ca] tNum)).alloc (Obj.cells #[Value.bool bb, Value.slice Ab nb cb] tNum)).alloc (Obj.cells #[Value.bool false, Value.slice none 0 0] tNum) = W at *
  obtain ⟨c0, c1, c2, c3⟩ := H0.out.cells
  go_region_held3 (fun w' => w'.cell? ⟨w.heap.size, 0, none⟩ = some (.bool ba) ∧ w'.cell? ⟨w.heap.size, 1, none⟩ = some (.slice Aa na ca) ∧ w'.cell? ⟨w.heap.size + 1, 0, none⟩ = some (.bool bb) ∧ w'.cell? ⟨w.heap.size + 1, 1, none⟩ = some (.slice Ab nb cb)) (first | exact ⟨c0, c1, c2, c3⟩ | exact (H0.out.drew.ext hx1).cells | exact H3.out.cells | exact (H3.out.put _ _).cells)
    (first
      | (go_at_call 127; refine (natAdd_any _ _ x.natAbs y.natAbs _ (HA.out.inv.2.ext (by exact HX0.out.drew)) (HB.out.inv.2.ext (by exact HX0.out.drew)) FX.out.fit FY.out.fit).mono ?_; rintro e w1 ⟨v1, rfl, hv1, hx1⟩)
      | (go_at_call 99; refine (number_any ba v1 (x.natAbs + y.natAbs) _ hv1 (FX.out.fit_add FY.out)).mono ?_; rintro e w2 ⟨v2, rfl, hv2, hx2⟩; obtain ⟨b2, A2, n2, c2', rfl, HV2⟩ := hv2.parts; have H3 := Lib.hid (H0.out.drew.ext (hx1.trans hx2)); obtain ⟨k0, k1, k2, k3⟩ := H3.out.res; clear hv2))
  go_wp2
  refine ret_num rfl rfl rfl H3.out.r HV2.out (HX0.out.drew.trans (hx1.trans hx2)) (by omega) (fun v W' h1 h2 => ⟨v, rfl, ?_, h2⟩)
  rw [HA.out.inv.1, add_signed_same HXY.out] at h1
  exact h1

theorem natSub_any (va vb : Value) (a b : Nat) (w : World) (ha : NatV w va a) (hb : NatV w vb b) (fa : Fit a) (fb : Fit b) (hle : b ≤ a) :
    Calls Tryz.prog 128 #[va, vb] w fun e w' => ∃ v', e = .returned v' ∧ NatV w' v' (a - b) ∧ Ext w w' := by
  obtain ⟨A1, c1, rfl, hc1, s1⟩ := ha
  obtain ⟨A2, c2, rfl, hc2, s2⟩ := hb
  unfold Fit at fa fb
  refine (sub_any A1 A2 c1 c2 (toL a) (toL b) w (by omega) (by omega) (toL_canon a) (toL_canon b) (by rw [val_toL, val_toL]; exact hle) s1 s2).mono ?_
  rintro e w' ⟨r, c, hc, rfl, hr, hv, hs, hx⟩
  exact ⟨_, rfl, .mk' hr (by rw [hv, val_toL, val_toL]) hc hs, hx⟩
theorem natMul_any (va vb : Value) (a b : Nat) (w : World) (ha : NatV w va a) (hb : NatV w vb b) (fa : Fit a) (fb : Fit b) :
    Calls Tryz.prog 125 #[va, vb] w fun e w' => ∃ v', e = .returned v' ∧ NatV w' v' (a * b) ∧ Ext w w' := by
  obtain ⟨A1, c1, rfl, hc1, s1⟩ := ha
  obtain ⟨A2, c2, rfl, hc2, s2⟩ := hb
  unfold Fit at fa fb
  refine (mul_any A1 A2 c1 c2 (toL a) (toL b) w (by omega) (by omega) (toL_canon a).1 (toL_canon b).1 s1 s2).mono ?_
  rintro e w' ⟨r, c, hc, rfl, hr, hv, hs, hx⟩
  exact ⟨_, rfl, .mk' hr (by rw [hv, val_toL, val_toL]) hc hs, hx⟩
theorem natCmp_any (va vb : Value) (a b : Nat) (w : World) (ha : NatV w va a) (hb : NatV w vb b) (fa : Fit a) (fb : Fit b) :
    Calls Tryz.prog 123 #[va, vb] w fun e w' => e = .returned (.int .i64 (cmpN a b)) ∧ ∃ n, w' = w.drewN n := by
  obtain ⟨A1, c1, rfl, hc1, s1⟩ := ha
  obtain ⟨A2, c2, rfl, hc2, s2⟩ := hb
  unfold Fit at fa fb
  have := compare_any A1 A2 c1 c2 (toL a) (toL b) w (by omega) (by omega) (toL_canon a) (toL_canon b) s1 s2
  rwa [val_toL, val_toL] at this

set_option maxRecDepth 100000 in
set_option maxHeartbeats 4000000 in
theorem numAdd_ge (va vb : Value) (x y : Int) (w : World) (ha : Num w va x) (hb : Num w vb y) (fx : FitZ x) (fy : FitZ y) (hxy : decide (x < 0) ≠ decide (y < 0)) (hle : y.natAbs ≤ x.natAbs) :
    Calls Tryz.prog 110 #[va, vb] w fun e w' => ∃ v', e = .returned v' ∧ Num w' v' (x + y) ∧ Ext w w' := by
  obtain ⟨ba, Aa, na, ca, rfl, HA⟩ := ha.parts
  obtain ⟨bb, Ab, nb, cb, rfl, HB⟩ := hb.parts
  have hbe : (ba == bb) = false := by rw [HA.out.inv.1, HB.out.inv.1]; simpa using hxy
  have HXY := Lib.hid hxy
  clear hxy
  have FX := Lib.hid fx
  have FY := Lib.hid fy
  clear ha hb fx fy
  go_enter Tryz.func110, Tryz.ntmps110
  go_wp2_with fail
  have HX0 : Hid (Ext w (((w.alloc (Obj.cells #[Value.bool ba, Value.slice Aa na ca] tNum)).alloc (Obj.cells #[Value.bool bb, Value.slice Ab nb cb] tNum)).alloc (Obj.cells #[Value.bool false, Value.slice none 0 0] tNum))) := (((Ext.refl w).alloc _).alloc _).alloc _
  have H0 := Lib.hid (Box3.new w (.bool ba) (.slice Aa na ca) (.bool bb) (.slice Ab nb cb) (.bool false) (.slice none 0 0))
  generalize ((w.alloc (Obj.cells #[Value.bool ba, Value.slice Aa na ca] tNum)).alloc (Obj.cells #[Value.bool bb, Value.slice Ab nb cb] tNum)).alloc (Obj.cells #[Value.bool false, Value.slice none 0 0] tNum) = W at *
  refine (natCmp_any _ _ x.natAbs y.natAbs W (HA.out.inv.2.ext HX0.out) (HB.out.inv.2.ext HX0.out) FX.out.fit FY.out.fit).mono ?_
  rintro e w' ⟨rfl, nn, rfl⟩
  have hcm : decide ((0 : Int) ≤ cmpN x.natAbs y.natAbs) = true := by unfold cmpN; rw [if_neg (by omega)]; split <;> rfl
  have HLE := Lib.hid hle
  have HX0 : Hid (Ext w (W.drewN nn)) := HX0.out.drewN nn
  have H0 : Hid (Box3 (W.drewN nn) w.heap.size (.bool ba) (.slice Aa na ca) (.bool bb) (.slice Ab nb cb) (.bool false) (.slice none 0 0)) := H0.out.drewN nn
  clear hle
  generalize cmpN x.natAbs y.natAbs = cm at *
  generalize W.drewN nn = W at *
  obtain ⟨c0, c1, c2, c3⟩ := H0.out.cells
  go_wp2_with fail
  obtain ⟨c0, c1, c2, c3⟩ := H0.out.cells
  go_region_held3 (fun w' => w'.cell? ⟨w.heap.size, 0, none⟩ = some (.bool ba) ∧ w'.cell? ⟨w.heap.size, 1, none⟩ = some (.slice Aa na ca) ∧ w'.cell? ⟨w.heap.size + 1, 0, none⟩ = some (.bool bb) ∧ w'.cell? ⟨w.heap.size + 1, 1, none⟩ = some (.slice Ab nb cb)) (first | exact ⟨c0, c1, c2, c3⟩ | exact (H0.out.drew.ext hx1).cells | exact H3.out.cells | exact (H3.out.put _ _).cells)
    (first
      | (go_at_call 128; refine (natSub_any _ _ x.natAbs y.natAbs _ (HA.out.inv.2.ext (by exact HX0.out.drew)) (HB.out.inv.2.ext (by exact HX0.out.drew)) FX.out.fit FY.out.fit HLE.out).mono ?_; rintro e w1 ⟨v1, rfl, hv1, hx1⟩)
      | (go_at_call 99; refine (number_any ba v1 (x.natAbs - y.natAbs) _ hv1 (FX.out.fit.le (by omega))).mono ?_; rintro e w2 ⟨v2, rfl, hv2, hx2⟩; obtain ⟨b2, A2, n2, c2', rfl, HV2⟩ := hv2.parts; have H3 := Lib.hid (H0.out.drew.ext (hx1.trans hx2)); obtain ⟨k0, k1, k2, k3⟩ := H3.out.res; clear hv2))
  go_wp2
  refine ret_num rfl rfl rfl H3.out.r HV2.out (HX0.out.drew.trans (hx1.trans hx2)) (by omega) (fun v W' h1 h2 => ⟨v, rfl, ?_, h2⟩)
  rw [HA.out.inv.1, add_signed_ge HXY.out HLE.out] at h1
  exact h1

set_option maxRecDepth 100000 in
set_option maxHeartbeats 4000000 in
theorem numAdd_lt (va vb : Value) (x y : Int) (w : World) (ha : Num w va x) (hb : Num w vb y) (fx : FitZ x) (fy : FitZ y) (hxy : decide (x < 0) ≠ decide (y < 0)) (hle : x.natAbs < y.natAbs) :
    Calls Tryz.prog 110 #[va, vb] w fun e w' => ∃ v', e = .returned v' ∧ Num w' v' (x + y) ∧ Ext w w' := by
  obtain ⟨ba, Aa, na, ca, rfl, HA⟩ := ha.parts
  obtain ⟨bb, Ab, nb, cb, rfl, HB⟩ := hb.parts
  have hbe : (ba == bb) = false := by rw [HA.out.inv.1, HB.out.inv.1]; simpa using hxy
  have HXY := Lib.hid hxy
  clear hxy
  have FX := Lib.hid fx
  have FY := Lib.hid fy
  clear ha hb fx fy
  go_enter Tryz.func110, Tryz.ntmps110
  go_wp2_with fail
  have HX0 : Hid (Ext w (((w.alloc (Obj.cells #[Value.bool ba, Value.slice Aa na ca] tNum)).alloc (Obj.cells #[Value.bool bb, Value.slice Ab nb cb] tNum)).alloc (Obj.cells #[Value.bool false, Value.slice none 0 0] tNum))) := (((Ext.refl w).alloc _).alloc _).alloc _
  have H0 := Lib.hid (Box3.new w (.bool ba) (.slice Aa na ca) (.bool bb) (.slice Ab nb cb) (.bool false) (.slice none 0 0))
  generalize ((w.alloc (Obj.cells #[Value.bool ba, Value.slice Aa na ca] tNum)).alloc (Obj.cells #[Value.bool bb, Value.slice Ab nb cb] tNum)).alloc (Obj.cells #[Value.bool false, Value.slice none 0 0] tNum) = W at *
  refine (natCmp_any _ _ x.natAbs y.natAbs W (HA.out.inv.2.ext HX0.out) (HB.out.inv.2.ext HX0.out) FX.out.fit FY.out.fit).mono ?_
  rintro e w' ⟨rfl, nn, rfl⟩
  have hcm : decide ((0 : Int) ≤ cmpN x.natAbs y.natAbs) = false := by rw [cmpN_lt hle]; rfl
  have HLE := Lib.hid hle
  have HX0 : Hid (Ext w (W.drewN nn)) := HX0.out.drewN nn
  have H0 : Hid (Box3 (W.drewN nn) w.heap.size (.bool ba) (.slice Aa na ca) (.bool bb) (.slice Ab nb cb) (.bool false) (.slice none 0 0)) := H0.out.drewN nn
  clear hle
  generalize cmpN x.natAbs y.natAbs = cm at *
  generalize W.drewN nn = W at *
  obtain ⟨c0, c1, c2, c3⟩ := H0.out.cells
  go_wp2_with fail
  obtain ⟨c0, c1, c2, c3⟩ := H0.out.cells
  go_region_held3 (fun w' => w'.cell? ⟨w.heap.size, 0, none⟩ = some (.bool ba) ∧ w'.cell? ⟨w.heap.size, 1, none⟩ = some (.slice Aa na ca) ∧ w'.cell? ⟨w.heap.size + 1, 0, none⟩ = some (.bool bb) ∧ w'.cell? ⟨w.heap.size + 1, 1, none⟩ = some (.slice Ab nb cb)) (first | exact ⟨c0, c1, c2, c3⟩ | exact (H0.out.drew.ext hx1).cells | exact H3.out.cells | exact (H3.out.put _ _).cells)
    (first
      | (go_at_call 128; refine (natSub_any _ _ y.natAbs x.natAbs _ (HB.out.inv.2.ext (by exact HX0.out.drew)) (HA.out.inv.2.ext (by exact HX0.out.drew)) FY.out.fit FX.out.fit (Nat.le_of_lt HLE.out)).mono ?_; rintro e w1 ⟨v1, rfl, hv1, hx1⟩)
      | (go_at_call 99; refine (number_any bb v1 (y.natAbs - x.natAbs) _ hv1 (FY.out.fit.le (by omega))).mono ?_; rintro e w2 ⟨v2, rfl, hv2, hx2⟩; obtain ⟨b2, A2, n2, c2', rfl, HV2⟩ := hv2.parts; have H3 := Lib.hid (H0.out.drew.ext (hx1.trans hx2)); obtain ⟨k0, k1, k2, k3⟩ := H3.out.res; clear hv2))
  go_wp2
  refine ret_num rfl rfl rfl H3.out.r HV2.out (HX0.out.drew.trans (hx1.trans hx2)) (by omega) (fun v W' h1 h2 => ⟨v, rfl, ?_, h2⟩)
  rw [HB.out.inv.1, add_signed_ge (Ne.symm HXY.out) (Nat.le_of_lt HLE.out), Int.add_comm] at h1
  exact h1

/-- Number.Add, whatever the signs -/
theorem numAdd_any (va vb : Value) (x y : Int) (w : World) (ha : Num w va x) (hb : Num w vb y) (fx : FitZ x) (fy : FitZ y) :
    Calls Tryz.prog 110 #[va, vb] w fun e w' => ∃ v', e = .returned v' ∧ Num w' v' (x + y) ∧ Ext w w' := by
  by_cases h : decide (x < 0) = decide (y < 0)
  · exact numAdd_same va vb x y w ha hb fx fy h
  · rcases Nat.lt_or_ge x.natAbs y.natAbs with hl | hl
    · exact numAdd_lt va vb x y w ha hb fx fy h hl
    · exact numAdd_ge va vb x y w ha hb fx fy h hl
theorem mul_signed (x y : Int) : signed (decide (x < 0) != decide (y < 0)) (x.natAbs * y.natAbs) = x * y := by
  unfold signed
  rw [Int.natCast_mul]
  by_cases hx : x < 0
  · have ex : (x.natAbs : Int) = -x := by omega
    by_cases hy : y < 0
    · have ey : (y.natAbs : Int) = -y := by omega
      simp [hx, hy, ex, ey, Int.neg_mul_neg]
    · have ey : (y.natAbs : Int) = y := by omega
      simp [hx, hy, ex, ey, Int.neg_mul]
  · have ex : (x.natAbs : Int) = x := by omega
    by_cases hy : y < 0
    · have ey : (y.natAbs : Int) = -y := by omega
      simp [hx, hy, ex, ey, Int.mul_neg]
    · have ey : (y.natAbs : Int) = y := by omega
      simp [hx, hy, ex, ey]

set_option maxRecDepth 100000 in
set_option maxHeartbeats 4000000 in
theorem numSub_any (va vb : Value) (x y : Int) (w : World) (ha : Num w va x) (hb : Num w vb y) (fx : FitZ x) (fy : FitZ y) :
    Calls Tryz.prog 102 #[va, vb] w fun e w' => ∃ v', e = .returned v' ∧ Num w' v' (x - y) ∧ Ext w w' := by
  obtain ⟨ba, Aa, na, ca, rfl, HA⟩ := ha.parts
  obtain ⟨bb, Ab, nb, cb, rfl, HB⟩ := hb.parts
  have FX := Lib.hid fx
  have FY := Lib.hid fy
  clear ha hb fx fy
  go_enter Tryz.func102, Tryz.ntmps102
  go_wp2_with fail
  have HX0 : Hid (Ext w (((w.alloc (Obj.cells #[Value.bool ba, Value.slice Aa na ca] tNum)).alloc (Obj.cells #[Value.bool bb, Value.slice Ab nb cb] tNum)).alloc (Obj.cells #[Value.bool false, Value.slice none 0 0] tNum))) := (((Ext.refl w).alloc _).alloc _).alloc _
  have H0 := Lib.hid (Box3.new w (.bool ba) (.slice Aa na ca) (.bool bb) (.slice Ab nb cb) (.bool false) (.slice none 0 0))
  generalize ((w.alloc (Obj.cells #[Value.bool ba, Value.slice Aa na ca] tNum)).alloc (Obj.cells #[Value.bool bb, Value.slice Ab nb cb] tNum)).alloc (Obj.cells #[Value.bool false, Value.slice none 0 0] tNum) = W at *
  obtain ⟨c0, c1, c2, c3⟩ := H0.out.cells
  go_region_held3 (fun w' => w'.cell? ⟨w.heap.size, 0, none⟩ = some (.bool ba) ∧ w'.cell? ⟨w.heap.size, 1, none⟩ = some (.slice Aa na ca) ∧ w'.cell? ⟨w.heap.size + 1, 0, none⟩ = some (.bool bb) ∧ w'.cell? ⟨w.heap.size + 1, 1, none⟩ = some (.slice Ab nb cb)) (first | exact ⟨c0, c1, c2, c3⟩ | exact (H0.out.drew.ext hx1).cells | exact H3.out.cells | exact (H3.out.put _ _).cells)
    (first
      | (go_at_call 111; refine (numNeg_any _ y _ (HB.out.ext (by exact HX0.out.drew)) FY.out).mono ?_; rintro e w1 ⟨v1, rfl, hv1, hx1⟩)
      | (go_at_call 110; refine (numAdd_any _ _ x (-y) _ (HA.out.ext (by exact HX0.out.drew.trans hx1)) hv1 FX.out FY.out.neg).mono ?_; rintro e w2 ⟨v2, rfl, hv2, hx2⟩; obtain ⟨b2, A2, n2, c2', rfl, HV2⟩ := hv2.parts; have H3 := Lib.hid (H0.out.drew.ext (hx1.trans hx2)); obtain ⟨k0, k1, k2, k3⟩ := H3.out.res; clear hv2))
  go_wp2
  refine ret_num rfl rfl rfl H3.out.r HV2.out (HX0.out.drew.trans (hx1.trans hx2)) (by omega) (fun v W' h1 h2 => ⟨v, rfl, ?_, h2⟩)
  rw [Int.sub_eq_add_neg]
  exact h1

set_option maxRecDepth 100000 in
set_option maxHeartbeats 4000000 in
theorem numGcd_any (va vb : Value) (x y : Int) (w : World) (ha : Num w va x) (hb : Num w vb y) (fx : FitZ x) (fy : FitZ y) :
    Calls Tryz.prog 90 #[va, vb] w fun e w' => ∃ v', e = .returned v' ∧ Num w' v' (Int.gcd x y : Nat) ∧ Ext w w' := by
  obtain ⟨ba, Aa, na, ca, rfl, HA⟩ := ha.parts
  obtain ⟨bb, Ab, nb, cb, rfl, HB⟩ := hb.parts
  have FX := Lib.hid fx
  have FY := Lib.hid fy
  clear ha hb fx fy
  go_enter Tryz.func90, Tryz.ntmps90
  go_wp2_with fail
  have HX0 : Hid (Ext w (((w.alloc (Obj.cells #[Value.bool ba, Value.slice Aa na ca] tNum)).alloc (Obj.cells #[Value.bool bb, Value.slice Ab nb cb] tNum)).alloc (Obj.cells #[Value.bool false, Value.slice none 0 0] tNum))) := (((Ext.refl w).alloc _).alloc _).alloc _
  have H0 := Lib.hid (Box3.new w (.bool ba) (.slice Aa na ca) (.bool bb) (.slice Ab nb cb) (.bool false) (.slice none 0 0))
  generalize ((w.alloc (Obj.cells #[Value.bool ba, Value.slice Aa na ca] tNum)).alloc (Obj.cells #[Value.bool bb, Value.slice Ab nb cb] tNum)).alloc (Obj.cells #[Value.bool false, Value.slice none 0 0] tNum) = W at *
  refine (gcd_any _ _ x.natAbs y.natAbs W FX.out.fit FY.out.fit (HA.out.inv.2.ext HX0.out) (HB.out.inv.2.ext HX0.out)).mono ?_
  rintro e w1 ⟨v1, rfl, hv1, hx1⟩
  have hfg : Fit (Nat.gcd x.natAbs y.natAbs) := by
    rcases Nat.eq_zero_or_pos x.natAbs with h0 | h0
    · rw [h0, Nat.gcd_zero_left]; exact FY.out.fit
    · exact FX.out.fit.le (Nat.gcd_le_left _ h0)
  go_wp2_with fail
  refine (number_any false v1 (Nat.gcd x.natAbs y.natAbs) w1 hv1 hfg).mono ?_
  rintro e w2 ⟨v2, rfl, hv2, hx2⟩
  obtain ⟨b2, A2, n2, c2', rfl, HV2⟩ := hv2.parts
  have H3 := Lib.hid (H0.out.ext (hx1.trans hx2))
  obtain ⟨k0, k1, k2, k3⟩ := H3.out.res
  have HX2 := Lib.hid (HX0.out.trans (hx1.trans hx2))
  clear hv2 hx1 hx2 hv1
  go_wp2
  exact ret_num rfl rfl rfl H3.out.r HV2.out HX2.out (by omega) (fun v W' h1 h2 => ⟨v, rfl, h1, h2⟩)

set_option maxRecDepth 100000 in
set_option maxHeartbeats 4000000 in
theorem numCompare_any (va vb : Value) (x y : Int) (w : World) (ha : Num w va x) (hb : Num w vb y) (fx : FitZ x) (fy : FitZ y) :
    Calls Tryz.prog 91 #[va, vb] w fun e w' => e = .returned (.int .i64 (x - y).sign) ∧ Ext w w' := by
  obtain ⟨ba, Aa, na, ca, rfl, HA⟩ := ha.parts
  obtain ⟨bb, Ab, nb, cb, rfl, HB⟩ := hb.parts
  have FX := Lib.hid fx
  have FY := Lib.hid fy
  clear ha hb fx fy
  go_enter Tryz.func91, Tryz.ntmps91
  go_wp2_with fail
  have HX0 : Hid (Ext w ((w.alloc (Obj.cells #[Value.bool ba, Value.slice Aa na ca] tNum)).alloc (Obj.cells #[Value.bool bb, Value.slice Ab nb cb] tNum))) := ((Ext.refl w).alloc _).alloc _
  generalize (w.alloc (Obj.cells #[Value.bool ba, Value.slice Aa na ca] tNum)).alloc (Obj.cells #[Value.bool bb, Value.slice Ab nb cb] tNum) = W at *
  refine (numSub_any _ _ x y W (HA.out.ext HX0.out) (HB.out.ext HX0.out) FX.out FY.out).mono ?_
  rintro e w1 ⟨v1, rfl, hv1, hx1⟩
  have hfs : FitZ' (x - y) := FX.out.sub FY.out
  go_wp2_with fail
  refine (numSign_any v1 (x - y) w1 hv1 hfs).mono ?_
  rintro e w2 ⟨rfl, hx2⟩
  go_wp2
  go_ret
  exact ⟨rfl, HX0.out.trans (hx1.trans hx2)⟩
end Go.Proofs.YthalpbjkkfkheaaGreatDoor
/- limbs: Of, Div. -/
namespace Go.Proofs.YthalpbjkkfkheaaGreatDoor
open Go.RowKit

theorem three_limbs (u : Nat) (hu : u < 18446744073709551616) : Dig [u % B9, u / B9 % B9, u / B9 / B9] ∧ val [u % B9, u / B9 % B9, u / B9 / B9] = u := by
  refine ⟨Dig.cons (Nat.mod_lt _ (by decide)) (Dig.cons (Nat.mod_lt _ (by decide)) (Dig.cons (by unfold B9; omega) Dig.nil)), ?_⟩
  simp only [val_cons, val_nil]
  unfold B9
  omega

theorem Sl.new' (w : World) (t : TypeId) (cs : Array Value) (g : Nat) (hg : g = w.heap.size) : Sl (w.alloc (.cells cs t)) t (some ⟨g, 0, none⟩) cs.toList := by subst hg; exact Sl.new w t cs
set_option maxRecDepth 100000 in
set_option maxHeartbeats 4000000 in
theorem of_any (z : Int) (w : World) (h0 : -9223372036854775808 ≤ z) (h1 : z ≤ 9223372036854775807) :
    Calls Tryz.prog 92 #[.int .i64 z] w fun e w' => ∃ v', e = .returned v' ∧ Num w' v' z ∧ Ext w w' := by
  obtain ⟨u, hu⟩ : ∃ u, u = z.natAbs := ⟨_, rfl⟩
  have hu64 : u ≤ 9223372036854775808 := by omega
  have hl := three_limbs u (by omega)
  have HL := Lib.hid hl
  have HU := Lib.hid hu
  have hfit : Fit u := Fit.of_lt (e := 20) (by omega) (by omega)
  have HF := Lib.hid hfit
  have hsg : signed (decide (z < 0)) u = z := by unfold signed; by_cases h : z < 0 <;> simp [h] <;> omega
  have HSG := Lib.hid hsg
  clear hl hfit hsg
  have e1 : (u : Int) % 1000000000 = ((u % B9 : Nat) : Int) := by unfold B9; omega
  have e2 : (u : Int) / 1000000000 % 1000000000 = ((u / B9 % B9 : Nat) : Int) := by unfold B9; omega
  have e3 : (u : Int) / 1000000000 / 1000000000 = ((u / B9 / B9 : Nat) : Int) := by unfold B9; omega
  have E123 := Lib.hid (And.intro e1 (And.intro e2 e3))
  clear e1 e2 e3
  by_cases hz : z < 0
  · have hd : decide (z < 0) = true := decide_eq_true hz
    have hw : IntKind.u64.wrap (-IntKind.u64.wrap z) = (u : Int) := by rw [IntKind.wrap_u64, IntKind.wrap_u64]; omega
    clear hu
    go_enter Tryz.func92, Tryz.ntmps92
    go_wp2_with fail
    rw [E123.out.1, E123.out.2.1, E123.out.2.2]
    have hB := Blk.new' w tNum [.bool false, .slice none 0 0] w.heap.size rfl
    refine (trim_at (some ⟨w.heap.size + 1, 0, none⟩) 3 3 [u % B9, u / B9 % B9, u / B9 / B9] _ rfl (by omega) (by omega) HL.out.1 (Sl.new' (w.alloc (Obj.cells #[.bool false, .slice none 0 0] tNum)) 47 #[.int .u64 ((u % B9 : Nat) : Int), .int .u64 ((u / B9 % B9 : Nat) : Int), .int .u64 ((u / B9 / B9 : Nat) : Int)] _ (by simp))).mono ?_
    rintro e w' ⟨r, hr, rfl, hc, hv, hs, rfl⟩
    have HV := Lib.hid (hv.trans HL.out.2)
    have HB := Lib.hid (hB.ext ((Ext.refl _).alloc (Obj.cells #[.int .u64 ((u % B9 : Nat) : Int), .int .u64 ((u / B9 % B9 : Nat) : Int), .int .u64 ((u / B9 / B9 : Nat) : Int)] 47)))
    have HX : Hid (Ext w ((w.alloc (Obj.cells #[.bool false, .slice none 0 0] tNum)).alloc (Obj.cells #[.int .u64 ((u % B9 : Nat) : Int), .int .u64 ((u / B9 % B9 : Nat) : Int), .int .u64 ((u / B9 / B9 : Nat) : Int)] 47))) := ((Ext.refl w).alloc _).alloc _
    have HN := Lib.hid (NatV.mk' hc HV.out hr hs)
    clear hB hv hs hc
    go_wp2_with fail
    refine (number_any _ _ u _ HN.out HF.out).mono ?_
    rintro e w2 ⟨v2, rfl, hv2, hx2⟩
    obtain ⟨b2, A2, n2, c2', rfl, HV2⟩ := hv2.parts
    have HB2 := Lib.hid (HB.out.ext hx2)
    have HX2 := Lib.hid (HX.out.trans hx2)
    have k0 := HB2.out.cell (i := 0) rfl
    have k1 := HB2.out.cell (i := 1) rfl
    have k2 := HB2.out.frozen 0
    have k3 := HB2.out.frozen 1
    clear hv2 hx2
    go_wp2
    refine ret_num rfl rfl rfl HB2.out HV2.out HX2.out (by omega) (fun v W' h1 h2 => ⟨v, rfl, ?_, h2⟩)
    have := HSG.out
    rw [hd] at this
    rw [this] at h1
    exact h1
  · have hd : decide (z < 0) = false := decide_eq_false hz
    have hw : IntKind.u64.wrap z = (u : Int) := by rw [IntKind.wrap_u64]; omega
    clear hu
    go_enter Tryz.func92, Tryz.ntmps92
    go_wp2_with fail
    rw [E123.out.1, E123.out.2.1, E123.out.2.2]
    have hB := Blk.new' w tNum [.bool false, .slice none 0 0] w.heap.size rfl
    refine (trim_at (some ⟨w.heap.size + 1, 0, none⟩) 3 3 [u % B9, u / B9 % B9, u / B9 / B9] _ rfl (by omega) (by omega) HL.out.1 (Sl.new' (w.alloc (Obj.cells #[.bool false, .slice none 0 0] tNum)) 47 #[.int .u64 ((u % B9 : Nat) : Int), .int .u64 ((u / B9 % B9 : Nat) : Int), .int .u64 ((u / B9 / B9 : Nat) : Int)] _ (by simp))).mono ?_
    rintro e w' ⟨r, hr, rfl, hc, hv, hs, rfl⟩
    have HV := Lib.hid (hv.trans HL.out.2)
    have HB := Lib.hid (hB.ext ((Ext.refl _).alloc (Obj.cells #[.int .u64 ((u % B9 : Nat) : Int), .int .u64 ((u / B9 % B9 : Nat) : Int), .int .u64 ((u / B9 / B9 : Nat) : Int)] 47)))
    have HX : Hid (Ext w ((w.alloc (Obj.cells #[.bool false, .slice none 0 0] tNum)).alloc (Obj.cells #[.int .u64 ((u % B9 : Nat) : Int), .int .u64 ((u / B9 % B9 : Nat) : Int), .int .u64 ((u / B9 / B9 : Nat) : Int)] 47))) := ((Ext.refl w).alloc _).alloc _
    have HN := Lib.hid (NatV.mk' hc HV.out hr hs)
    clear hB hv hs hc
    go_wp2_with fail
    refine (number_any _ _ u _ HN.out HF.out).mono ?_
    rintro e w2 ⟨v2, rfl, hv2, hx2⟩
    obtain ⟨b2, A2, n2, c2', rfl, HV2⟩ := hv2.parts
    have HB2 := Lib.hid (HB.out.ext hx2)
    have HX2 := Lib.hid (HX.out.trans hx2)
    have k0 := HB2.out.cell (i := 0) rfl
    have k1 := HB2.out.cell (i := 1) rfl
    have k2 := HB2.out.frozen 0
    have k3 := HB2.out.frozen 1
    clear hv2 hx2
    go_wp2
    refine ret_num rfl rfl rfl HB2.out HV2.out HX2.out (by omega) (fun v W' h1 h2 => ⟨v, rfl, ?_, h2⟩)
    have := HSG.out
    rw [hd] at this
    rw [this] at h1
    exact h1

/-- what Div leaves: quotient and rest of a division by a positive number -/
def DivOf (x y : Int) (w : World) (e : Ending) (w' : World) : Prop :=
  ∃ q r, e = .returned (.tuple #[q, r]) ∧ Num w' q (x / y) ∧ Num w' r (x % y) ∧ Ext w w'
theorem natDiv_any (va vb : Value) (a b : Nat) (w : World) (ha : NatV w va a) (hb : NatV w vb b) (fa : Fit a) (fb : Fit b) (hb0 : 0 < b) :
    Calls Tryz.prog 109 #[va, vb] w fun e w' => ∃ q r, e = .returned (.tuple #[q, r]) ∧ NatV w' q (a / b) ∧ NatV w' r (a % b) ∧ Ext w w' := by
  obtain ⟨A1, c1, rfl, hc1, s1⟩ := ha
  obtain ⟨A2, c2, rfl, hc2, s2⟩ := hb
  unfold Fit at fa fb
  refine (divide_any A1 A2 c1 c2 (toL a) (toL b) w (by omega) (by omega) (toL_canon a) (toL_canon b) hc1 s1 s2 (by rw [Ne, toL_eq_nil]; omega)).mono ?_
  rintro e w' ⟨Aq, lq, cq, Ar, lr, cr, rfl, hq, hr, hcq, hcr, hvq, hvr, hsq, hsr, hx⟩
  rw [val_toL, val_toL] at hvq hvr
  exact ⟨_, _, rfl, .mk' hcq hvq hq hsq, .mk' hcr hvr hr hsr, hx⟩

/-- for a walk: the slice's cells by name -/
theorem NatV.parts {w : World} {v : Value} {a : Nat} (h : NatV w v a) : ∃ A n c, v = .slice A n c ∧ decide (0 < n) = decide (0 < a) ∧ n ≤ c ∧ Hid (NatV w (.slice A n c) a) := by
  obtain ⟨A, c, rfl, hc, hs⟩ := h
  refine ⟨A, _, c, rfl, ?_, hc, ⟨A, c, rfl, hc, hs⟩⟩
  have h0 : (toL a).length = 0 ↔ a = 0 := by rw [List.length_eq_zero_iff, toL_eq_nil]
  by_cases h : a = 0
  · have := h0.2 h; rw [this, h]
  · have : (toL a).length ≠ 0 := fun k => h (h0.1 k)
    rw [decide_eq_true (by omega), decide_eq_true (by omega)]
theorem div_signed {x y : Int} (hy : 0 < y) (hp : ¬ (x < 0 ∧ 0 < x.natAbs % y.natAbs)) : signed (decide (x < 0) != decide (y < 0)) (x.natAbs / y.natAbs) = x / y ∧ signed false (x.natAbs % y.natAbs) = x % y := by
  obtain ⟨b, rfl⟩ : ∃ b : Nat, y = b := ⟨y.natAbs, by omega⟩
  have hb : decide ((b : Int) < 0) = false := decide_eq_false (by omega)
  simp only [Int.natAbs_natCast] at hp ⊢
  unfold signed
  by_cases hx : x < 0
  · obtain ⟨a, rfl⟩ : ∃ a : Nat, x = -(a : Int) := ⟨x.natAbs, by omega⟩
    simp only [Int.natAbs_neg, Int.natAbs_natCast] at hp ⊢
    have h0 : a % b = 0 := by omega
    have h1 : (b : Int) ∣ (a : Int) := Int.natCast_dvd_natCast.2 (Nat.dvd_of_mod_eq_zero h0)
    rw [hb, decide_eq_true hx, h0]
    refine ⟨?_, ?_⟩
    · simp only [bne, Bool.true_beq, Bool.not_false, if_true]
      rw [Int.neg_ediv_of_dvd h1, Int.natCast_ediv]
    · exact (Int.emod_eq_zero_of_dvd (Int.dvd_neg.2 h1)).symm
  · obtain ⟨a, rfl⟩ : ∃ a : Nat, x = (a : Int) := ⟨x.natAbs, by omega⟩
    rw [hb, decide_eq_false hx]
    simp only [Int.natAbs_natCast]
    exact ⟨by simp, by simp⟩

/-- two results that are numbers in boxes -/
theorem results_cell2 {fn : Func} {p q : Tmp} {ty ty' : TypeId} (h : fn.results = #[.cell p ty, .cell q ty']) (tmps : Array Value) {P : Program} (w : World) (g k : Nat) (u v : Value)
    (hp : tmps.getD p undef = .pointer (some ⟨g, 0, none⟩)) (hq : tmps.getD q undef = .pointer (some ⟨k, 0, none⟩))
    (hg : (loadVar ty ⟨g, 0, none⟩).run P w = .ok u w) (hk : (loadVar ty' ⟨k, 0, none⟩).run P w = .ok v w) :
    (results fn tmps).run P w = .ok (.tuple #[u, v]) w := by
  have hp' : tmps[p]?.getD undef = .pointer (some ⟨g, 0, none⟩) := by simpa using hp
  have hq' : tmps[q]?.getD undef = .pointer (some ⟨k, 0, none⟩) := by simpa using hq
  simp [results, h, hp', hq', asAddr, Sem.run_bind, Result.andThen, hg, hk]
theorem load_num {w : World} {g : Nat} {b : Bool} {A : Option Addr} {n c : Nat} (hB : Blk w g tNum [.bool b, .slice A n c]) : (loadVar tNum ⟨g, 0, none⟩).run Tryz.prog w = .ok (.agg #[.bool b, .slice A n c]) w :=
  run_loadVar_row w g tNum tNum #[.bool b, .slice A n c] (0, 0) _ hB Tryz.underlying123 rfl (by kernel_rfl)
/-- the end of Div: both results stored -/
theorem ret_div {fn : Func} {t t' g : Nat} {w w1 : World} {b1 b2 : Bool} {A1 A2 : Option Addr} {n1 c1 n2 c2 : Nat} {x y : Int} {a : Act} {x0 x1 y0 y1 : Value} (hres : fn.results = #[.cell t tNum, .cell t' tNum]) (ht : a.tmps.getD t undef = .pointer (some ⟨g, 0, none⟩)) (ht' : a.tmps.getD t' undef = .pointer (some ⟨g + 1, 0, none⟩)) (hd : a.defers = [])
    (hB : Blk w1 g tNum [x0, x1]) (hB' : Blk w1 (g + 1) tNum [y0, y1]) (H1 : Num w1 (.agg #[.bool b1, .slice A1 n1 c1]) (x / y)) (H2 : Num w1 (.agg #[.bool b2, .slice A2 n2 c2]) (x % y)) (hx : Ext w w1) (hg : w.heap.size ≤ g) :
    bodyPost Tryz.prog fn (DivOf x y w) .ret a ((((w1.setCell ⟨g, 0, none⟩ (.bool b1)).setCell ⟨g, 1, none⟩ (.slice A1 n1 c1)).setCell ⟨g + 1, 0, none⟩ (.bool b2)).setCell ⟨g + 1, 1, none⟩ (.slice A2 n2 c2)) := by
  have hB2 : Blk ((w1.setCell ⟨g, 0, none⟩ (.bool b1)).setCell ⟨g, 1, none⟩ (.slice A1 n1 c1)) g tNum [.bool b1, .slice A1 n1 c1] := (hB.set_ 0 (.bool b1)).set_ 1 (.slice A1 n1 c1)
  have hC2 : Blk ((w1.setCell ⟨g, 0, none⟩ (.bool b1)).setCell ⟨g, 1, none⟩ (.slice A1 n1 c1)) (g + 1) tNum [y0, y1] := (hB'.far (p := ⟨g, 0, none⟩) (by show g + 1 ≠ g; omega) _).far (p := ⟨g, 1, none⟩) (by show g + 1 ≠ g; omega) _
  have hK1 := hB.kept2 (t := 47) (by decide) 0 1 (.bool b1) (.slice A1 n1 c1)
  have hX1 : Ext w ((w1.setCell ⟨g, 0, none⟩ (.bool b1)).setCell ⟨g, 1, none⟩ (.slice A1 n1 c1)) := (hx.setCell hg _).setCell hg _
  generalize (w1.setCell ⟨g, 0, none⟩ (.bool b1)).setCell ⟨g, 1, none⟩ (.slice A1 n1 c1) = W2 at *
  have hB3 : Blk ((W2.setCell ⟨g + 1, 0, none⟩ (.bool b2)).setCell ⟨g + 1, 1, none⟩ (.slice A2 n2 c2)) g tNum [.bool b1, .slice A1 n1 c1] := (hB2.far (p := ⟨g + 1, 0, none⟩) (by show g ≠ g + 1; omega) _).far (p := ⟨g + 1, 1, none⟩) (by show g ≠ g + 1; omega) _
  have hC3 : Blk ((W2.setCell ⟨g + 1, 0, none⟩ (.bool b2)).setCell ⟨g + 1, 1, none⟩ (.slice A2 n2 c2)) (g + 1) tNum [.bool b2, .slice A2 n2 c2] := (hC2.set_ 0 (.bool b2)).set_ 1 (.slice A2 n2 c2)
  have hK2 := hC2.kept2 (t := 47) (by decide) 0 1 (.bool b2) (.slice A2 n2 c2)
  exact bodyPost_ret (results_cell2 hres a.tmps _ g (g + 1) _ _ ht ht' (load_num hB3) (load_num hC3)) hd ⟨_, _, rfl, H1.keep (hK1.trans hK2), H2.keep (hK1.trans hK2), (hX1.setCell (show w.heap.size ≤ g + 1 by omega) _).setCell (show w.heap.size ≤ g + 1 by omega) _⟩
theorem fit_one : Fit 1 := Fit.of_lt (e := 1) (by decide) (by decide)
theorem one_at (w : World) : NatV (w.alloc (Obj.cells #[.int .u64 1] 47)).drew (.slice (some ⟨w.heap.size, 0, none⟩) 1 1) 1 :=
  NatV.mk' (r := [1]) (c := 1) ⟨Dig.cons (by decide) Dig.nil, by unfold NoZ; decide⟩ rfl (by decide) (Sl.new w 47 #[.int .u64 1])
theorem div_signed_neg {x y : Int} (hy : 0 < y) (hp : x < 0 ∧ 0 < x.natAbs % y.natAbs) : signed (decide (x < 0) != decide (y < 0)) (x.natAbs / y.natAbs + 1) = x / y ∧ signed false (y.natAbs - x.natAbs % y.natAbs) = x % y := by
  obtain ⟨b, rfl⟩ : ∃ b : Nat, y = b := ⟨y.natAbs, by omega⟩
  obtain ⟨a, rfl⟩ : ∃ a : Nat, x = -(a : Int) := ⟨x.natAbs, by omega⟩
  simp only [Int.natAbs_neg, Int.natAbs_natCast] at hp ⊢
  have hb : decide ((b : Int) < 0) = false := decide_eq_false (by omega)
  rw [hb, decide_eq_true hp.1]
  have h1 := Nat.div_add_mod a b
  have h2 : a % b < b := Nat.mod_lt _ (by omega)
  have h3 : (-(a : Int)) = -((a / b + 1 : Nat) : Int) * (b : Int) + ((b - a % b : Nat) : Int) := by
    rw [Int.ofNat_sub (Nat.le_of_lt h2)]
    have : ((b * (a / b) + a % b : Nat) : Int) = (a : Int) := by rw [h1]
    push_cast at this ⊢
    grind
  have h4 : (-(a : Int)) / b = -((a / b + 1 : Nat) : Int) := by
    rw [h3, Int.add_comm, Int.add_mul_ediv_right _ _ (by omega), Int.ediv_eq_zero_of_lt (by omega) (by omega)]
    omega
  have h5 : (-(a : Int)) % b = ((b - a % b : Nat) : Int) := by
    rw [h3, Int.add_comm, Int.add_mul_emod_self_right, Int.emod_eq_of_lt (by omega) (by omega)]
  rw [h4, h5]
  exact ⟨rfl, rfl⟩
end Go.Proofs.YthalpbjkkfkheaaGreatDoor
/- fraction: the values, whole, Whole, Of. -/
namespace Go.Proofs.YthalpbjkkfkheaaGreatDoor
open Go.RowKit

/-- the value v is the rational q -/
def FracV (w : World) (v : Value) (q : Rat) : Prop := ∃ a b c d, v = .agg #[a, b, c, d] ∧ Num w (.agg #[a, b]) q.num ∧ Num w (.agg #[c, d]) q.den
theorem FracV.ext {w w' : World} {v : Value} {q : Rat} (h : FracV w v q) (hx : Ext w w') : FracV w' v q := by
  obtain ⟨a, b, c, d, rfl, h1, h2⟩ := h
  exact ⟨a, b, c, d, rfl, h1.ext hx, h2.ext hx⟩
theorem FracV.keep {w w' : World} {v : Value} {q : Rat} (h : FracV w v q) (hx : Kept 47 w w') : FracV w' v q := by
  obtain ⟨a, b, c, d, rfl, h1, h2⟩ := h
  exact ⟨a, b, c, d, rfl, h1.keep hx, h2.keep hx⟩
/-- for a walk: the value's cells by name, what they mean aside -/
theorem FracV.parts {w : World} {v : Value} {q : Rat} (h : FracV w v q) : ∃ b A n c b' A' n' c', v = .agg #[.bool b, .slice A n c, .bool b', .slice A' n' c'] ∧ Hid (Num w (.agg #[.bool b, .slice A n c]) q.num) ∧ Hid (Num w (.agg #[.bool b', .slice A' n' c']) q.den) := by
  obtain ⟨a, b, c, d, rfl, h1, h2⟩ := h
  obtain ⟨b1, A1, n1, c1, e1, H1⟩ := h1.parts
  obtain ⟨b2, A2, n2, c2, e2, H2⟩ := h2.parts
  simp at e1 e2
  obtain ⟨rfl, rfl⟩ := e1
  obtain ⟨rfl, rfl⟩ := e2
  exact ⟨b1, A1, n1, c1, b2, A2, n2, c2, rfl, H1, H2⟩
theorem FracV.mk' {w : World} {a b c d : Value} {q : Rat} (h1 : Num w (.agg #[a, b]) q.num) (h2 : Num w (.agg #[c, d]) q.den) : FracV w (.agg #[a, b, c, d]) q := ⟨a, b, c, d, rfl, h1, h2⟩

/-- at most e digits above and below -/
def FitQ (e : Nat) (q : Rat) : Prop := q.num.natAbs < 10 ^ e ∧ q.den < 10 ^ e
theorem FitQ.num {e : Nat} {q : Rat} (h : FitQ e q) (he : e ≤ 1000000) : FitZ q.num := ⟨e, he, h.1⟩
theorem FitQ.den {e : Nat} {q : Rat} (h : FitQ e q) (he : e ≤ 1000000) : FitZ q.den := ⟨e, he, by simpa using h.2⟩
theorem FitQ.mono {e d : Nat} {q : Rat} (h : FitQ e q) (he : e ≤ d) : FitQ d q := ⟨Nat.lt_of_lt_of_le h.1 (Nat.pow_le_pow_right (by decide) he), Nat.lt_of_lt_of_le h.2 (Nat.pow_le_pow_right (by decide) he)⟩

theorem fitz_one : FitZ 1 := ⟨1, by decide, by decide⟩
/-- a drawn region's world -/
theorem whole_iff (q : Rat) : (((q.den : Int) - 1).sign == 0) = decide (q.den = 1) := by
  by_cases h : q.den = 1
  · rw [h]; rfl
  · rw [decide_eq_false h]
    have : ((q.den : Int) - 1).sign ≠ 0 := by rw [Ne, Int.sign_eq_zero_iff_zero]; omega
    simpa using this

/-- boxes that a function makes at its start: the world by a name, what was there, what the boxes hold -/
theorem box1 {P : World → Prop} {w : World} {t : TypeId} {l : List Value} (h : ∀ W, Hid (Ext w W) → Hid (Blk W w.heap.size t l) → P W) : P (w.alloc (.cells l.toArray t)) :=
  h _ ((Ext.refl w).alloc _) (Blk.new w t l)
theorem box2 {P : World → Prop} {w : World} {t t' : TypeId} {l l' : List Value} (h : ∀ W, Hid (Ext w W) → Hid (Blk W w.heap.size t l) → Hid (Blk W (w.heap.size + 1) t' l') → P W) : P ((w.alloc (.cells l.toArray t)).alloc (.cells l'.toArray t')) :=
  h _ (((Ext.refl w).alloc _).alloc _) ((Blk.new w t l).ext ((Ext.refl _).alloc _)) (Blk.new' (w.alloc (.cells l.toArray t)) t' l' _ (by simp))
theorem box3 {P : World → Prop} {w : World} {t t' t'' : TypeId} {l l' l'' : List Value} (h : ∀ W, Hid (Ext w W) → Hid (Blk W w.heap.size t l) → Hid (Blk W (w.heap.size + 1) t' l') → Hid (Blk W (w.heap.size + 1 + 1) t'' l'') → P W) : P (((w.alloc (.cells l.toArray t)).alloc (.cells l'.toArray t')).alloc (.cells l''.toArray t'')) :=
  h _ ((((Ext.refl w).alloc _).alloc _).alloc _) ((Blk.new w t l).ext (((Ext.refl _).alloc _).alloc _)) ((Blk.new' (w.alloc (.cells l.toArray t)) t' l' _ (by simp)).ext ((Ext.refl _).alloc _)) (Blk.new' ((w.alloc (.cells l.toArray t)).alloc (.cells l'.toArray t')) t'' l'' _ (by simp))
/-- a store into another box -/
theorem Blk.past4 {w : World} {g k : Nat} {t : TypeId} {l : List Value} (h : Blk w g t l) (hne : g ≠ k) (u0 u1 u2 u3 : Value) : Blk ((((w.setCell ⟨k, 0, none⟩ u0).setCell ⟨k, 1, none⟩ u1).setCell ⟨k, 2, none⟩ u2).setCell ⟨k, 3, none⟩ u3) g t l :=
  (((h.far (p := ⟨k, 0, none⟩) hne u0).far (p := ⟨k, 1, none⟩) hne u1).far (p := ⟨k, 2, none⟩) hne u2).far (p := ⟨k, 3, none⟩) hne u3
theorem Blk.past2 {w : World} {g k : Nat} {t : TypeId} {l : List Value} (h : Blk w g t l) (hne : g ≠ k) (u0 u1 : Value) : Blk ((w.setCell ⟨k, 0, none⟩ u0).setCell ⟨k, 1, none⟩ u1) g t l :=
  (h.far (p := ⟨k, 0, none⟩) hne u0).far (p := ⟨k, 1, none⟩) hne u1
theorem ne1 (g : Nat) : g ≠ g + 1 := by omega
theorem ne2 (g : Nat) : g ≠ g + 1 + 1 := by omega
theorem ne12 (g : Nat) : g + 1 ≠ g + 1 + 1 := by omega
/-- the cells of a box of four -/
theorem Blk.four {w : World} {g : Nat} {t : TypeId} {a b c d : Value} (h : Blk w g t [a, b, c, d]) : w.cell? ⟨g, 0, none⟩ = some a ∧ w.cell? ⟨g, 1, none⟩ = some b ∧ w.cell? ⟨g, 2, none⟩ = some c ∧ w.cell? ⟨g, 3, none⟩ = some d :=
  ⟨h.cell (i := 0) rfl, h.cell (i := 1) rfl, h.cell (i := 2) rfl, h.cell (i := 3) rfl⟩
theorem Blk.free4 {w : World} {g : Nat} {t : TypeId} {l : List Value} (h : Blk w g t l) : w.frozen? ⟨g, 0, none⟩ = false ∧ w.frozen? ⟨g, 1, none⟩ = false ∧ w.frozen? ⟨g, 2, none⟩ = false ∧ w.frozen? ⟨g, 3, none⟩ = false :=
  ⟨h.frozen 0, h.frozen 1, h.frozen 2, h.frozen 3⟩
theorem Blk.two {w : World} {g : Nat} {t : TypeId} {a b : Value} (h : Blk w g t [a, b]) : w.cell? ⟨g, 0, none⟩ = some a ∧ w.cell? ⟨g, 1, none⟩ = some b :=
  ⟨h.cell (i := 0) rfl, h.cell (i := 1) rfl⟩

theorem int_rat_num (z : Int) : ((z : Rat)).num = z := rfl
theorem int_rat_den (z : Int) : ((z : Rat)).den = 1 := rfl
end Go.Proofs.YthalpbjkkfkheaaGreatDoor
/- fraction: Of, Sign, Neg, New. -/
namespace Go.Proofs.YthalpbjkkfkheaaGreatDoor
open Go.RowKit

/-- what New answers: the quotient in lowest terms -/
theorem divInt_parts (n d : Int) (hd : 0 < d) : (Rat.divInt n d).num = n / (Int.gcd n d : Nat) ∧ ((Rat.divInt n d).den : Int) = d / (Int.gcd n d : Nat) := by
  rw [Rat.num_divInt, Rat.den_divInt, if_neg (by omega), Int.sign_eq_one_of_pos hd, Int.one_mul, Int.gcd_comm d n]
  refine ⟨rfl, ?_⟩
  rw [Int.natCast_ediv]
  congr 1
  omega

/-- a store of two cells into a box: the world by a name -/
theorem put2 {P : World → Prop} {w : World} {g : Nat} {t : TypeId} {x0 x1 u0 u1 : Value} (ht : t ≠ 47) (hB : Blk w g t [x0, x1])
    (h : ∀ W, Hid (Kept 47 w W) → Hid (∀ k t' l, k ≠ g → Blk w k t' l → Blk W k t' l) → Hid (∀ a, Ext a w → a.heap.size ≤ g → Ext a W) → Hid (Blk W g t [u0, u1]) → P W) : P ((w.setCell ⟨g, 0, none⟩ u0).setCell ⟨g, 1, none⟩ u1) :=
  h _ (hB.kept2 ht 0 1 u0 u1) (fun _ _ _ hk hb => hb.past2 hk u0 u1) (fun _ hx hg => (hx.setCell hg _).setCell hg _) ((hB.set_ 0 u0).set_ 1 u1)

end Go.Proofs.YthalpbjkkfkheaaGreatDoor
/- fraction: Add, Sub, Mul, Div, Compare, Floor. -/
namespace Go.Proofs.YthalpbjkkfkheaaGreatDoor
open Go.RowKit

theorem q_den_pos (q : Rat) : 0 < (q.den : Int) := by have := q.den_pos; omega
theorem add_divInt (a b : Rat) : Rat.divInt (a.num * b.den + b.num * a.den) (a.den * b.den) = a + b := by
  rw [Rat.add_def', ← Rat.divInt_ofNat, Int.natCast_mul]
theorem mul_divInt (a b : Rat) : Rat.divInt (a.num * b.num) (a.den * b.den) = a * b := by
  rw [Rat.mul_def', ← Rat.divInt_ofNat, Int.natCast_mul]
theorem div_divInt (a b : Rat) : Rat.divInt (a.num * b.den) (a.den * b.num) = a / b := by
  rw [Rat.div_def, Rat.inv_def]
  conv => rhs; rw [← Rat.num_divInt_den a]
  rw [Rat.divInt_mul_divInt]
theorem divInt_fit {n d : Int} {e : Nat} (hd : 0 < d) (h1 : n.natAbs < 10 ^ e) (h2 : d.natAbs < 10 ^ e) : FitQ e (Rat.divInt n d) := by
  obtain ⟨p1, p2⟩ := divInt_parts n d hd
  refine ⟨?_, ?_⟩
  · rw [p1]
    refine Nat.lt_of_le_of_lt ?_ h1
    rw [Int.natAbs_ediv_of_dvd (Int.gcd_dvd_left ..)]
    exact Nat.div_le_self _ _
  · have : (Rat.divInt n d).den ≤ d.natAbs := by
      have : ((Rat.divInt n d).den : Int) ≤ d := by rw [p2]; exact Int.ediv_le_self _ (by omega)
      omega
    omega
theorem FitQ.add {a b : Rat} {d e : Nat} (ha : FitQ d a) (hb : FitQ e b) : FitQ (d + e + 1) (a + b) := by
  rw [← add_divInt]
  have hd := lt_mul_pow ha.1 hb.2
  have he := lt_mul_pow hb.1 ha.2
  have hq := lt_mul_pow ha.2 hb.2
  have hp : 10 ^ (d + e) < 10 ^ (d + e + 1) := Nat.pow_lt_pow_right (by decide) (by omega)
  refine divInt_fit (Int.mul_pos (q_den_pos a) (q_den_pos b)) ?_ ?_
  · have h1 : (a.num * b.den + b.num * a.den).natAbs ≤ a.num.natAbs * b.den + b.num.natAbs * a.den := by
      refine Nat.le_trans (Int.natAbs_add_le _ _) ?_
      rw [Int.natAbs_mul, Int.natAbs_mul, Int.natAbs_natCast, Int.natAbs_natCast]
      exact Nat.le_refl _
    rw [Nat.add_comm e d] at he
    rw [Nat.pow_succ]
    omega
  · rw [Int.natAbs_mul, Int.natAbs_natCast, Int.natAbs_natCast]; omega
theorem FitQ.mul {a b : Rat} {d e : Nat} (ha : FitQ d a) (hb : FitQ e b) : FitQ (d + e) (a * b) := by
  rw [← mul_divInt]
  have hd := lt_mul_pow ha.1 hb.1
  have hq := lt_mul_pow ha.2 hb.2
  refine divInt_fit (Int.mul_pos (q_den_pos a) (q_den_pos b)) ?_ ?_
  · rw [Int.natAbs_mul]; exact hd
  · rw [Int.natAbs_mul, Int.natAbs_natCast, Int.natAbs_natCast]; exact hq
theorem FitQ.neg {a : Rat} {d : Nat} (ha : FitQ d a) : FitQ d (-a) := ⟨by rw [Rat.neg_num, Int.natAbs_neg]; exact ha.1, by rw [Rat.neg_den]; exact ha.2⟩
theorem FitQ.sub {a b : Rat} {d e : Nat} (ha : FitQ d a) (hb : FitQ e b) : FitQ (d + e + 1) (a - b) := by
  rw [Rat.sub_eq_add_neg]; exact ha.add hb.neg
theorem FitQ.div {a b : Rat} {d e : Nat} (ha : FitQ d a) (hb : FitQ e b) (h0 : 0 < b.num) : FitQ (d + e) (a / b) := by
  rw [← div_divInt]
  have hd := lt_mul_pow ha.1 hb.2
  have hq := lt_mul_pow ha.2 hb.1
  refine divInt_fit (Int.mul_pos (q_den_pos a) h0) ?_ ?_
  · rw [Int.natAbs_mul, Int.natAbs_natCast]; exact hd
  · rw [Int.natAbs_mul, Int.natAbs_natCast]; exact hq
theorem FitZ.mul {x y : Int} {d e : Nat} (hx : x.natAbs < 10 ^ d) (hy : y.natAbs < 10 ^ e) (h : d + e ≤ 1000000) : FitZ (x * y) := ⟨d + e, h, by rw [Int.natAbs_mul]; exact lt_mul_pow hx hy⟩
theorem FitZ.add {x y : Int} {d e : Nat} (hx : x.natAbs < 10 ^ d) (hy : y.natAbs < 10 ^ e) (h : d + e + 1 ≤ 1000000) : FitZ (x + y) := ⟨d + e + 1, h, Nat.lt_of_le_of_lt (Int.natAbs_add_le _ _) (lt_add_pow hx hy)⟩
theorem whole_add {a b : Rat} (ha : a.den = 1) (hb : b.den = 1) : ((a.num + b.num : Int) : Rat) = a + b := by
  rw [← add_divInt, ha, hb, Rat.divInt_eq_div]
  simp only [Rat.intCast_add]
  grind
theorem whole_mul {a b : Rat} (ha : a.den = 1) (hb : b.den = 1) : ((a.num * b.num : Int) : Rat) = a * b := by
  rw [← mul_divInt, ha, hb, Rat.divInt_eq_div]
  simp only [Rat.intCast_mul]
  grind

/-- the sign of a difference -/
def cmpQ (p q : Rat) : Int := (p.num * q.den - q.num * p.den).sign
theorem sign_neg_iff (z : Int) : z.sign < 0 ↔ z < 0 := by
  rcases Int.lt_trichotomy z 0 with h | h | h
  · rw [Int.sign_eq_neg_one_of_neg h]; omega
  · subst h; simp
  · rw [Int.sign_eq_one_of_pos h]; omega
theorem sign_pos_iff (z : Int) : 0 < z.sign ↔ 0 < z := by
  rcases Int.lt_trichotomy z 0 with h | h | h
  · rw [Int.sign_eq_neg_one_of_neg h]; omega
  · subst h; simp
  · rw [Int.sign_eq_one_of_pos h]; omega
theorem cmpQ_lt {p q : Rat} : cmpQ p q < 0 ↔ p < q := by
  unfold cmpQ
  rw [sign_neg_iff, Rat.lt_iff]
  omega
theorem cmpQ_gt {p q : Rat} : 0 < cmpQ p q ↔ q < p := by
  unfold cmpQ
  rw [sign_pos_iff, Rat.lt_iff]
  omega
theorem FitQ.addZ {p q : Rat} {d e : Nat} (fa : FitQ d p) (fb : FitQ e q) (he : d + e + 1 ≤ 1000000) : FitZ (p.num * q.den + q.num * p.den) := by
  refine ⟨d + e + 1, he, ?_⟩
  have h1 := lt_mul_pow fa.1 fb.2
  have h2 := lt_mul_pow fb.1 fa.2
  rw [Nat.add_comm e d] at h2
  refine Nat.lt_of_le_of_lt (Int.natAbs_add_le _ _) ?_
  rw [Int.natAbs_mul, Int.natAbs_mul, Int.natAbs_natCast, Int.natAbs_natCast, Nat.pow_succ]
  omega
end Go.Proofs.YthalpbjkkfkheaaGreatDoor
