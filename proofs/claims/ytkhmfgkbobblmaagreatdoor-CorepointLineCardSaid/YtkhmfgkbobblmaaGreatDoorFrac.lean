/- limbs: integers with a sign: number, Of, Sign, Neg. limbs: integers with a sign: Add, Sub, Mul, Compare, Gcd, Div, Of. limbs: Of, Div. fraction: the values, whole, Whole, Of. fraction: Of, Sign, Neg, New. fraction: Add, Sub, Mul, Div, Compare, Floor. -/
import Derived.Test.YtkhmfgkbobblmaaGreatDoorLimbs
import Derived.Deep.RegionHeld3
/- limbs: integers with a sign: number, Of, Sign, Neg. -/
namespace Go.Proofs.YtkhmfgkbobblmaaGreatDoor
open Go.RowKit

/-- the value v is the integer z -/
def Num (w : World) (v : Value) (z : Int) : Prop := ∃ s, v = .agg #[.bool (decide (z < 0)), s] ∧ NatV w s z.natAbs
theorem Num.ext {w w' : World} {v : Value} {z : Int} (h : Num w v z) (hx : Ext w w') : Num w' v z := by
  obtain ⟨s, rfl, hs⟩ := h
  exact ⟨s, rfl, hs.ext hx⟩
theorem Num.keep {w w' : World} {v : Value} {z : Int} (h : Num w v z) (hx : Kept 130 w w') : Num w' v z := by
  obtain ⟨s, rfl, hs⟩ := h
  exact ⟨s, rfl, hs.keep hx⟩

theorem Num.mk' {w : World} {b : Bool} {s : Value} {z : Int} (hb : b = decide (z < 0)) (h : NatV w s z.natAbs) : Num w (.agg #[.bool b, s]) z := ⟨s, by rw [hb], h⟩
/-- for a walk: the value's cells by name, what they mean aside -/
theorem Num.parts {w : World} {v : Value} {z : Int} (h : Num w v z) : ∃ b A n c, v = .agg #[.bool b, .slice A n c] ∧ Hid (Num w (.agg #[.bool b, .slice A n c]) z) := by
  obtain ⟨s, rfl, A, c, rfl, hc, hs⟩ := h
  exact ⟨_, A, _, c, rfl, ⟨_, rfl, A, c, rfl, hc, hs⟩⟩
theorem Num.inv {w : World} {b : Bool} {s : Value} {z : Int} (h : Num w (.agg #[.bool b, s]) z) : b = decide (z < 0) ∧ NatV w s z.natAbs := by
  obtain ⟨s', e, hs⟩ := h
  simp at e
  obtain ⟨rfl, rfl⟩ := e
  exact ⟨rfl, hs⟩
/-- number(negative, size): the sign is dropped at 0 -/
def signed (neg : Bool) (n : Nat) : Int := if neg then -(n : Int) else n
theorem signed_natAbs (neg : Bool) (n : Nat) : (signed neg n).natAbs = n := by unfold signed; split <;> simp
theorem signed_neg (neg : Bool) (n : Nat) : decide (signed neg n < 0) = (neg && decide (0 < n)) := by
  unfold signed
  cases neg
  · simp
  · simp

theorem number_any (neg : Bool) (s : Value) (n : Nat) (w : World) (hs : NatV w s n) (hn : Fit n) :
    Calls Tryz.prog 93 #[.bool neg, s] w fun e w' => ∃ v, e = .returned v ∧ Num w' v (signed neg n) ∧ Ext w w' := by
  obtain ⟨A, c, rfl, hc, hsl⟩ := hs
  have hlen : decide (0 < (toL n).length) = decide (0 < n) := by
    rcases Nat.eq_zero_or_pos n with h | h
    · subst h; rfl
    · have : (toL n).length ≠ 0 := fun h0 => by have := toL_eq_nil.1 (List.eq_nil_of_length_eq_zero h0); omega
      simp; omega
  have HL := Lib.hid hlen
  have HS := Lib.hid hsl
  unfold Fit at hn
  clear hlen hsl
  cases neg
  · go_enter Tryz.func93, Tryz.ntmps93
    go_wp2
    refine bodyPost_ret (v := .agg #[.bool false, .slice A (toL n).length c]) (by simp [results, Tryz.results93, go_sem]) rfl ⟨_, rfl, .mk' ?_ ?_, (Ext.refl w).alloc _⟩
    · rw [signed_neg]; rfl
    · rw [signed_natAbs]; exact ⟨A, c, rfl, hc, HS.out.ext ((Ext.refl w).alloc _)⟩
  · go_enter Tryz.func93, Tryz.ntmps93
    go_wp2
    refine bodyPost_ret (v := .agg #[.bool (decide (0 < (toL n).length)), .slice A (toL n).length c]) (by simp [results, Tryz.results93, go_sem]) rfl ⟨_, rfl, .mk' ?_ ?_, (Ext.refl w).alloc _⟩
    · rw [signed_neg, HL.out]; rfl
    · rw [signed_natAbs]; exact ⟨A, c, rfl, hc, HS.out.ext ((Ext.refl w).alloc _)⟩

/-- integers of at most a million digits -/
def FitZ (z : Int) : Prop := ∃ e, e ≤ 1000000 ∧ z.natAbs < 10 ^ e
theorem FitZ.fit {z : Int} (h : FitZ z) : Fit z.natAbs := by
  obtain ⟨e, he, hz⟩ := h
  exact Fit.of_lt hz (by omega)
theorem lt_add_pow {a b d e : Nat} (ha : a < 10 ^ d) (hb : b < 10 ^ e) : a + b < 10 ^ (d + e + 1) := by
  have h1 : 10 ^ d ≤ 10 ^ (d + e) := Nat.pow_le_pow_right (by decide) (by omega)
  have h2 : 10 ^ e ≤ 10 ^ (d + e) := Nat.pow_le_pow_right (by decide) (by omega)
  rw [Nat.pow_succ]
  omega
theorem lt_mul_pow {a b d e : Nat} (ha : a < 10 ^ d) (hb : b < 10 ^ e) : a * b < 10 ^ (d + e) := by
  rw [Nat.pow_add]
  exact Nat.mul_lt_mul'' ha hb
theorem FitZ.fit_add {x y : Int} (hx : FitZ x) (hy : FitZ y) : Fit (x.natAbs + y.natAbs) := by
  obtain ⟨d, hd, hx⟩ := hx
  obtain ⟨e, he, hy⟩ := hy
  exact Fit.of_lt (lt_add_pow hx hy) (by omega)
theorem FitZ.fit_mul {x y : Int} (hx : FitZ x) (hy : FitZ y) : Fit (x.natAbs * y.natAbs) := by
  obtain ⟨d, hd, hx⟩ := hx
  obtain ⟨e, he, hy⟩ := hy
  exact Fit.of_lt (lt_mul_pow hx hy) (by omega)
theorem FitZ.le {x y : Int} (hx : FitZ x) (h : y.natAbs ≤ x.natAbs) : FitZ y := by
  obtain ⟨d, hd, hx⟩ := hx
  exact ⟨d, hd, by omega⟩
/-- integers of at most eight million digits: what one operation makes -/
def FitZ' (z : Int) : Prop := Fit z.natAbs
theorem FitZ.sub {x y : Int} (hx : FitZ x) (hy : FitZ y) : FitZ' (x - y) := (hx.fit_add hy).le (by omega)
theorem FitZ.wide {x : Int} (hx : FitZ x) : FitZ' x := hx.fit
theorem FitZ.neg {x : Int} (hx : FitZ x) : FitZ (-x) := hx.le (by simp)

theorem numSign_any (v : Value) (z : Int) (w : World) (h : Num w v z) (hf : FitZ' z) :
    Calls Tryz.prog 96 #[v] w fun e w' => e = .returned (.int .i64 z.sign) ∧ Ext w w' := by
  obtain ⟨s, rfl, A, c, rfl, hc, hs⟩ := h
  unfold FitZ' Fit at hf
  rcases Int.lt_trichotomy z 0 with hz | hz | hz
  · have hd : decide (z < 0) = true := decide_eq_true hz
    have HS := Lib.hid (Int.sign_eq_neg_one_of_neg hz)
    clear hs
    go_enter Tryz.func96, Tryz.ntmps96
    go_wp2
    go_ret
    exact ⟨ret_int HS.out.symm, (Ext.refl w).alloc _⟩
  · subst hz
    have hd : decide ((0 : Int) < 0) = false := rfl
    have hl : (toL (0 : Int).natAbs).length = 0 := rfl
    rw [hl] at *
    go_enter Tryz.func96, Tryz.ntmps96
    go_wp2
    go_ret
    exact ⟨rfl, (Ext.refl w).alloc _⟩
  · have hd : decide (z < 0) = false := decide_eq_false (by omega)
    have HS := Lib.hid (Int.sign_eq_one_of_pos hz)
    have hl : 0 < (toL z.natAbs).length := by
      rcases Nat.eq_zero_or_pos (toL z.natAbs).length with h | h
      · have := toL_eq_nil.1 (List.eq_nil_of_length_eq_zero h); omega
      · exact h
    clear hs
    go_enter Tryz.func96, Tryz.ntmps96
    go_wp2
    go_ret
    exact ⟨ret_int HS.out.symm, (Ext.refl w).alloc _⟩

theorem neg_signed (z : Int) : signed (!decide (z < 0)) z.natAbs = -z := by
  unfold signed
  by_cases h : z < 0
  · simp [h]; omega
  · simp [h]; omega
/-- a method that boxes one number, makes a result's box and stores the result there -/
theorem numNeg_any (v : Value) (z : Int) (w : World) (h : Num w v z) (hf : FitZ z) :
    Calls Tryz.prog 98 #[v] w fun e w' => ∃ v', e = .returned v' ∧ Num w' v' (-z) ∧ Ext w w' := by
  obtain ⟨b, A, n, c, rfl, H⟩ := h.parts
  have HF := Lib.hid hf.fit
  clear hf h
  go_enter Tryz.func98, Tryz.ntmps98
  go_wp2_with fail
  have hx0 : Ext w ((w.alloc (Obj.cells #[Value.bool b, Value.slice A n c] 76)).alloc (Obj.cells #[Value.bool false, Value.slice none 0 0] 76)) := ((Ext.refl w).alloc _).alloc _
  have hbk := Blk.new (w.alloc (Obj.cells #[Value.bool b, Value.slice A n c] 76)) 76 [.bool false, .slice none 0 0]
  refine (number_any (!b) _ z.natAbs _ (H.out.inv.2.ext hx0) HF.out).mono ?_
  rintro e w1 ⟨v1, rfl, hn1, hx1⟩
  have hn2 : Num w1 v1 (-z) := by rw [← neg_signed, ← H.out.inv.1]; exact hn1
  obtain ⟨b1, A1, n1, c1, rfl, H1⟩ := hn2.parts
  have HB1 : Hid (Blk w1 (w.heap.size + 1) 76 [.bool false, .slice none 0 0]) := by
    have := hbk.ext hx1
    rw [show (w.alloc (Obj.cells #[Value.bool b, Value.slice A n c] 76)).heap.size = w.heap.size + 1 by simp] at this
    exact this
  have HX1 := Lib.hid (hx0.trans hx1)
  have hc0 := HB1.out.cell (i := 0) rfl
  have hc1 := HB1.out.cell (i := 1) rfl
  have hf0 := HB1.out.frozen 0
  have hf1 := HB1.out.frozen 1
  clear hx1 hx0 hn1 hn2 hbk
  go_wp2
  refine bodyPost_ret (v := .agg #[.bool b1, .slice A1 n1 c1]) (by simp [results, Tryz.results98, go_sem, hc0, hc1]) rfl ⟨_, rfl, H1.out.keep (HB1.out.kept2 (by decide) _ _ _ _), (HX1.out.setCell (by simp) _).setCell (by simp) _⟩
end Go.Proofs.YtkhmfgkbobblmaaGreatDoor
/- limbs: integers with a sign: Add, Sub, Mul, Compare, Gcd, Div, Of. -/
namespace Go.Proofs.YtkhmfgkbobblmaaGreatDoor
open Go.RowKit

abbrev tNum : TypeId := 76
theorem Blk.new' (w : World) (t : TypeId) (l : List Value) (g : Nat) (hg : g = w.heap.size) : Blk (w.alloc (.cells l.toArray t)) g t l := by subst hg; exact Blk.new w t l
/-- the end of a method whose result is a number in a box of its own -/
theorem ret_num {fn : Func} {t g : Nat} {w w1 : World} {b1 : Bool} {A1 : Option Addr} {n1 c1 : Nat} {z : Int} {a : Act} {R : Ending → World → Prop} {x0 x1 : Value} (hres : fn.results = #[.cell t tNum]) (ht : a.tmps.getD t undef = .pointer (some ⟨g, 0, none⟩)) (hd : a.defers = [])
    (hB : Blk w1 g tNum [x0, x1]) (H1 : Num w1 (.agg #[.bool b1, .slice A1 n1 c1]) z) (hx : Ext w w1) (hg : w.heap.size ≤ g) (hR : ∀ v W', Num W' v z → Ext w W' → R (.returned v) W') :
    bodyPost Tryz.prog fn R .ret a ((w1.setCell ⟨g, 0, none⟩ (.bool b1)).setCell ⟨g, 1, none⟩ (.slice A1 n1 c1)) := by
  have hB2 : Blk ((w1.setCell ⟨g, 0, none⟩ (.bool b1)).setCell ⟨g, 1, none⟩ (.slice A1 n1 c1)) g tNum [.bool b1, .slice A1 n1 c1] := (hB.set_ 0 (.bool b1)).set_ 1 (.slice A1 n1 c1)
  exact bodyPost_ret (results_cell_row hres a.tmps _ g tNum #[.bool b1, .slice A1 n1 c1] (0, 0) _ ht hB2 Tryz.underlying76 rfl (by kernel_rfl)) hd (hR _ _ (H1.keep (hB.kept2 (by decide) _ _ _ _)) ((hx.setCell hg _).setCell hg _))

/-- the sum of naturals, as values -/
theorem natAdd_any (va vb : Value) (a b : Nat) (w : World) (ha : NatV w va a) (hb : NatV w vb b) (fa : Fit a) (fb : Fit b) :
    Calls Tryz.prog 111 #[va, vb] w fun e w' => ∃ v', e = .returned v' ∧ NatV w' v' (a + b) ∧ Ext w w' := by
  obtain ⟨A1, c1, rfl, hc1, s1⟩ := ha
  obtain ⟨A2, c2, rfl, hc2, s2⟩ := hb
  unfold Fit at fa fb
  refine (add_any A1 A2 c1 c2 (toL a) (toL b) w (by omega) (by omega) (toL_canon a).1 (toL_canon b).1 s1 s2).mono ?_
  rintro e w' ⟨r, c, hc, rfl, hr, hv, hs, hx⟩
  exact ⟨_, rfl, .mk' hr (by rw [hv, val_toL, val_toL]) hc hs, hx⟩

/-- three boxes of numbers: two arguments and a result -/
structure Box3 (W : World) (g : Nat) (x0 x1 y0 y1 z0 z1 : Value) : Prop where
  a : Blk W g tNum [x0, x1]
  b : Blk W (g + 1) tNum [y0, y1]
  r : Blk W (g + 1 + 1) tNum [z0, z1]
theorem Box3.new (w : World) (x0 x1 y0 y1 z0 z1 : Value) : Box3 (((w.alloc (Obj.cells #[x0, x1] tNum)).alloc (Obj.cells #[y0, y1] tNum)).alloc (Obj.cells #[z0, z1] tNum)) w.heap.size x0 x1 y0 y1 z0 z1 :=
  ⟨((Blk.new' w tNum [x0, x1] _ rfl).alloc _).alloc _, (Blk.new' (w.alloc (Obj.cells #[x0, x1] tNum)) tNum [y0, y1] _ (by simp)).alloc _, Blk.new' ((w.alloc (Obj.cells #[x0, x1] tNum)).alloc (Obj.cells #[y0, y1] tNum)) tNum [z0, z1] _ (by simp)⟩
section
variable {W W' : World} {g : Nat} {x0 x1 y0 y1 z0 z1 : Value}
theorem Box3.ext (h : Box3 W g x0 x1 y0 y1 z0 z1) (hx : Ext W W') : Box3 W' g x0 x1 y0 y1 z0 z1 := ⟨h.a.ext hx, h.b.ext hx, h.r.ext hx⟩
theorem Box3.drew (h : Box3 W g x0 x1 y0 y1 z0 z1) : Box3 W.drew g x0 x1 y0 y1 z0 z1 := ⟨h.a, h.b, h.r⟩
theorem Box3.drewN (h : Box3 W g x0 x1 y0 y1 z0 z1) (n : Nat) : Box3 (W.drewN n) g x0 x1 y0 y1 z0 z1 := ⟨h.a, h.b, h.r⟩
theorem Box3.put (h : Box3 W g x0 x1 y0 y1 z0 z1) (u v : Value) : Box3 ((W.setCell ⟨g + 1 + 1, 0, none⟩ u).setCell ⟨g + 1 + 1, 1, none⟩ v) g x0 x1 y0 y1 u v :=
  ⟨(h.a.far (p := ⟨g + 1 + 1, 0, none⟩) (by show g ≠ g + 1 + 1; omega) u).far (p := ⟨g + 1 + 1, 1, none⟩) (by show g ≠ g + 1 + 1; omega) v, (h.b.far (p := ⟨g + 1 + 1, 0, none⟩) (by show g + 1 ≠ g + 1 + 1; omega) u).far (p := ⟨g + 1 + 1, 1, none⟩) (by show g + 1 ≠ g + 1 + 1; omega) v, (h.r.set_ 0 u).set_ 1 v⟩
/-- the cells that a region reads -/
theorem Box3.cells (h : Box3 W g x0 x1 y0 y1 z0 z1) : W.cell? ⟨g, 0, none⟩ = some x0 ∧ W.cell? ⟨g, 1, none⟩ = some x1 ∧ W.cell? ⟨g + 1, 0, none⟩ = some y0 ∧ W.cell? ⟨g + 1, 1, none⟩ = some y1 :=
  ⟨h.a.cell (i := 0) rfl, h.a.cell (i := 1) rfl, h.b.cell (i := 0) rfl, h.b.cell (i := 1) rfl⟩
/-- what the store of the result asks -/
theorem Box3.res (h : Box3 W g x0 x1 y0 y1 z0 z1) : W.cell? ⟨g + 1 + 1, 0, none⟩ = some z0 ∧ W.cell? ⟨g + 1 + 1, 1, none⟩ = some z1 ∧ W.frozen? ⟨g + 1 + 1, 0, none⟩ = false ∧ W.frozen? ⟨g + 1 + 1, 1, none⟩ = false :=
  ⟨h.r.cell (i := 0) rfl, h.r.cell (i := 1) rfl, h.r.frozen 0, h.r.frozen 1⟩
end

theorem add_signed_same {x y : Int} (h : decide (x < 0) = decide (y < 0)) : signed (decide (x < 0)) (x.natAbs + y.natAbs) = x + y := by
  unfold signed
  by_cases hx : x < 0 <;> simp [hx] at h ⊢ <;> omega
theorem add_signed_ge {x y : Int} (h : decide (x < 0) ≠ decide (y < 0)) (hle : y.natAbs ≤ x.natAbs) : signed (decide (x < 0)) (x.natAbs - y.natAbs) = x + y := by
  unfold signed
  by_cases hx : x < 0 <;> simp [hx] at h ⊢ <;> omega

set_option maxRecDepth 100000 in
set_option maxHeartbeats 4000000 in
theorem numAdd_same (va vb : Value) (x y : Int) (w : World) (ha : Num w va x) (hb : Num w vb y) (fx : FitZ x) (fy : FitZ y) (hxy : decide (x < 0) = decide (y < 0)) :
    Calls Tryz.prog 92 #[va, vb] w fun e w' => ∃ v', e = .returned v' ∧ Num w' v' (x + y) ∧ Ext w w' := by
  obtain ⟨ba, Aa, na, ca, rfl, HA⟩ := ha.parts
  obtain ⟨bb, Ab, nb, cb, rfl, HB⟩ := hb.parts
  have hbe : (ba == bb) = true := by rw [HA.out.inv.1, HB.out.inv.1, hxy]; simp
  have HXY := Lib.hid hxy
  have FX := Lib.hid fx
  have FY := Lib.hid fy
  clear ha hb fx fy hxy
  go_enter Tryz.func92, Tryz.ntmps92
  go_wp2_with fail
  have HX0 : Hid (Ext w (((w.alloc (Obj.cells #[Value.bool ba, Value.slice Aa na ca] tNum)).alloc (Obj.cells #[Value.bool bb, Value.slice Ab nb cb] tNum)).alloc (Obj.cells #[Value.bool false, Value.slice none 0 0] tNum))) := (((Ext.refl w).alloc _).alloc _).alloc _
  have H0 := Lib.hid (Box3.new w (.bool ba) (.slice Aa na ca) (.bool bb) (.slice Ab nb cb) (.bool false) (.slice none 0 0))
  generalize ((w.alloc (Obj.cells #[Value.bool ba, Value.slice Aa na ca] tNum)).alloc (Obj.cells #[Value.bool bb, Value.slice Ab nb cb] tNum)).alloc (Obj.cells #[Value.bool false, Value.slice none 0 0] tNum) = W at *
  obtain ⟨c0, c1, c2, c3⟩ := H0.out.cells
  go_region_held3 (fun w' => w'.cell? ⟨w.heap.size, 0, none⟩ = some (.bool ba) ∧ w'.cell? ⟨w.heap.size, 1, none⟩ = some (.slice Aa na ca) ∧ w'.cell? ⟨w.heap.size + 1, 0, none⟩ = some (.bool bb) ∧ w'.cell? ⟨w.heap.size + 1, 1, none⟩ = some (.slice Ab nb cb)) (first | exact ⟨c0, c1, c2, c3⟩ | exact (H0.out.drew.ext hx1).cells | exact H3.out.cells | exact (H3.out.put _ _).cells)
    (first
      | (go_at_call 111; refine (natAdd_any _ _ x.natAbs y.natAbs _ (HA.out.inv.2.ext (by exact HX0.out.drew)) (HB.out.inv.2.ext (by exact HX0.out.drew)) FX.out.fit FY.out.fit).mono ?_; rintro e w1 ⟨v1, rfl, hv1, hx1⟩)
      | (go_at_call 93; refine (number_any ba v1 (x.natAbs + y.natAbs) _ hv1 (FX.out.fit_add FY.out)).mono ?_; rintro e w2 ⟨v2, rfl, hv2, hx2⟩; obtain ⟨b2, A2, n2, c2', rfl, HV2⟩ := hv2.parts; have H3 := Lib.hid (H0.out.drew.ext (hx1.trans hx2)); obtain ⟨k0, k1, k2, k3⟩ := H3.out.res; clear hv2))
  go_wp2
  refine ret_num rfl rfl rfl H3.out.r HV2.out (HX0.out.drew.trans (hx1.trans hx2)) (by omega) (fun v W' h1 h2 => ⟨v, rfl, ?_, h2⟩)
  rw [HA.out.inv.1, add_signed_same HXY.out] at h1
  exact h1

theorem natSub_any (va vb : Value) (a b : Nat) (w : World) (ha : NatV w va a) (hb : NatV w vb b) (fa : Fit a) (fb : Fit b) (hle : b ≤ a) :
    Calls Tryz.prog 113 #[va, vb] w fun e w' => ∃ v', e = .returned v' ∧ NatV w' v' (a - b) ∧ Ext w w' := by
  obtain ⟨A1, c1, rfl, hc1, s1⟩ := ha
  obtain ⟨A2, c2, rfl, hc2, s2⟩ := hb
  unfold Fit at fa fb
  refine (sub_any A1 A2 c1 c2 (toL a) (toL b) w (by omega) (by omega) (toL_canon a) (toL_canon b) (by rw [val_toL, val_toL]; exact hle) s1 s2).mono ?_
  rintro e w' ⟨r, c, hc, rfl, hr, hv, hs, hx⟩
  exact ⟨_, rfl, .mk' hr (by rw [hv, val_toL, val_toL]) hc hs, hx⟩
theorem natMul_any (va vb : Value) (a b : Nat) (w : World) (ha : NatV w va a) (hb : NatV w vb b) (fa : Fit a) (fb : Fit b) :
    Calls Tryz.prog 94 #[va, vb] w fun e w' => ∃ v', e = .returned v' ∧ NatV w' v' (a * b) ∧ Ext w w' := by
  obtain ⟨A1, c1, rfl, hc1, s1⟩ := ha
  obtain ⟨A2, c2, rfl, hc2, s2⟩ := hb
  unfold Fit at fa fb
  refine (mul_any A1 A2 c1 c2 (toL a) (toL b) w (by omega) (by omega) (toL_canon a).1 (toL_canon b).1 s1 s2).mono ?_
  rintro e w' ⟨r, c, hc, rfl, hr, hv, hs, hx⟩
  exact ⟨_, rfl, .mk' hr (by rw [hv, val_toL, val_toL]) hc hs, hx⟩
theorem natCmp_any (va vb : Value) (a b : Nat) (w : World) (ha : NatV w va a) (hb : NatV w vb b) (fa : Fit a) (fb : Fit b) :
    Calls Tryz.prog 112 #[va, vb] w fun e w' => e = .returned (.int .i64 (cmpN a b)) ∧ ∃ n, w' = w.drewN n := by
  obtain ⟨A1, c1, rfl, hc1, s1⟩ := ha
  obtain ⟨A2, c2, rfl, hc2, s2⟩ := hb
  unfold Fit at fa fb
  have := compare_any A1 A2 c1 c2 (toL a) (toL b) w (by omega) (by omega) (toL_canon a) (toL_canon b) s1 s2
  rwa [val_toL, val_toL] at this

set_option maxRecDepth 100000 in
set_option maxHeartbeats 4000000 in
theorem numAdd_ge (va vb : Value) (x y : Int) (w : World) (ha : Num w va x) (hb : Num w vb y) (fx : FitZ x) (fy : FitZ y) (hxy : decide (x < 0) ≠ decide (y < 0)) (hle : y.natAbs ≤ x.natAbs) :
    Calls Tryz.prog 92 #[va, vb] w fun e w' => ∃ v', e = .returned v' ∧ Num w' v' (x + y) ∧ Ext w w' := by
  obtain ⟨ba, Aa, na, ca, rfl, HA⟩ := ha.parts
  obtain ⟨bb, Ab, nb, cb, rfl, HB⟩ := hb.parts
  have hbe : (ba == bb) = false := by rw [HA.out.inv.1, HB.out.inv.1]; simpa using hxy
  have HXY := Lib.hid hxy
  clear hxy
  have FX := Lib.hid fx
  have FY := Lib.hid fy
  clear ha hb fx fy
  go_enter Tryz.func92, Tryz.ntmps92
  go_wp2_with fail
  have HX0 : Hid (Ext w (((w.alloc (Obj.cells #[Value.bool ba, Value.slice Aa na ca] tNum)).alloc (Obj.cells #[Value.bool bb, Value.slice Ab nb cb] tNum)).alloc (Obj.cells #[Value.bool false, Value.slice none 0 0] tNum))) := (((Ext.refl w).alloc _).alloc _).alloc _
  have H0 := Lib.hid (Box3.new w (.bool ba) (.slice Aa na ca) (.bool bb) (.slice Ab nb cb) (.bool false) (.slice none 0 0))
  generalize ((w.alloc (Obj.cells #[Value.bool ba, Value.slice Aa na ca] tNum)).alloc (Obj.cells #[Value.bool bb, Value.slice Ab nb cb] tNum)).alloc (Obj.cells #[Value.bool false, Value.slice none 0 0] tNum) = W at *
  refine (natCmp_any _ _ x.natAbs y.natAbs W (HA.out.inv.2.ext HX0.out) (HB.out.inv.2.ext HX0.out) FX.out.fit FY.out.fit).mono ?_
  rintro e w' ⟨rfl, nn, rfl⟩
  have hcm : decide ((0 : Int) ≤ cmpN x.natAbs y.natAbs) = true := by unfold cmpN; rw [if_neg (by omega)]; split <;> rfl
  have HLE := Lib.hid hle
  have HX0 : Hid (Ext w (W.drewN nn)) := HX0.out.drewN nn
  have H0 : Hid (Box3 (W.drewN nn) w.heap.size (.bool ba) (.slice Aa na ca) (.bool bb) (.slice Ab nb cb) (.bool false) (.slice none 0 0)) := H0.out.drewN nn
  clear hle
  generalize cmpN x.natAbs y.natAbs = cm at *
  generalize W.drewN nn = W at *
  obtain ⟨c0, c1, c2, c3⟩ := H0.out.cells
  go_wp2_with fail
  obtain ⟨c0, c1, c2, c3⟩ := H0.out.cells
  go_region_held3 (fun w' => w'.cell? ⟨w.heap.size, 0, none⟩ = some (.bool ba) ∧ w'.cell? ⟨w.heap.size, 1, none⟩ = some (.slice Aa na ca) ∧ w'.cell? ⟨w.heap.size + 1, 0, none⟩ = some (.bool bb) ∧ w'.cell? ⟨w.heap.size + 1, 1, none⟩ = some (.slice Ab nb cb)) (first | exact ⟨c0, c1, c2, c3⟩ | exact (H0.out.drew.ext hx1).cells | exact H3.out.cells | exact (H3.out.put _ _).cells)
    (first
      | (go_at_call 113; refine (natSub_any _ _ x.natAbs y.natAbs _ (HA.out.inv.2.ext (by exact HX0.out.drew)) (HB.out.inv.2.ext (by exact HX0.out.drew)) FX.out.fit FY.out.fit HLE.out).mono ?_; rintro e w1 ⟨v1, rfl, hv1, hx1⟩)
      | (go_at_call 93; refine (number_any ba v1 (x.natAbs - y.natAbs) _ hv1 (FX.out.fit.le (by omega))).mono ?_; rintro e w2 ⟨v2, rfl, hv2, hx2⟩; obtain ⟨b2, A2, n2, c2', rfl, HV2⟩ := hv2.parts; have H3 := Lib.hid (H0.out.drew.ext (hx1.trans hx2)); obtain ⟨k0, k1, k2, k3⟩ := H3.out.res; clear hv2))
  go_wp2
  refine ret_num rfl rfl rfl H3.out.r HV2.out (HX0.out.drew.trans (hx1.trans hx2)) (by omega) (fun v W' h1 h2 => ⟨v, rfl, ?_, h2⟩)
  rw [HA.out.inv.1, add_signed_ge HXY.out HLE.out] at h1
  exact h1

set_option maxRecDepth 100000 in
set_option maxHeartbeats 4000000 in
theorem numAdd_lt (va vb : Value) (x y : Int) (w : World) (ha : Num w va x) (hb : Num w vb y) (fx : FitZ x) (fy : FitZ y) (hxy : decide (x < 0) ≠ decide (y < 0)) (hle : x.natAbs < y.natAbs) :
    Calls Tryz.prog 92 #[va, vb] w fun e w' => ∃ v', e = .returned v' ∧ Num w' v' (x + y) ∧ Ext w w' := by
  obtain ⟨ba, Aa, na, ca, rfl, HA⟩ := ha.parts
  obtain ⟨bb, Ab, nb, cb, rfl, HB⟩ := hb.parts
  have hbe : (ba == bb) = false := by rw [HA.out.inv.1, HB.out.inv.1]; simpa using hxy
  have HXY := Lib.hid hxy
  clear hxy
  have FX := Lib.hid fx
  have FY := Lib.hid fy
  clear ha hb fx fy
  go_enter Tryz.func92, Tryz.ntmps92
  go_wp2_with fail
  have HX0 : Hid (Ext w (((w.alloc (Obj.cells #[Value.bool ba, Value.slice Aa na ca] tNum)).alloc (Obj.cells #[Value.bool bb, Value.slice Ab nb cb] tNum)).alloc (Obj.cells #[Value.bool false, Value.slice none 0 0] tNum))) := (((Ext.refl w).alloc _).alloc _).alloc _
  have H0 := Lib.hid (Box3.new w (.bool ba) (.slice Aa na ca) (.bool bb) (.slice Ab nb cb) (.bool false) (.slice none 0 0))
  generalize ((w.alloc (Obj.cells #[Value.bool ba, Value.slice Aa na ca] tNum)).alloc (Obj.cells #[Value.bool bb, Value.slice Ab nb cb] tNum)).alloc (Obj.cells #[Value.bool false, Value.slice none 0 0] tNum) = W at *
  refine (natCmp_any _ _ x.natAbs y.natAbs W (HA.out.inv.2.ext HX0.out) (HB.out.inv.2.ext HX0.out) FX.out.fit FY.out.fit).mono ?_
  rintro e w' ⟨rfl, nn, rfl⟩
  have hcm : decide ((0 : Int) ≤ cmpN x.natAbs y.natAbs) = false := by rw [cmpN_lt hle]; rfl
  have HLE := Lib.hid hle
  have HX0 : Hid (Ext w (W.drewN nn)) := HX0.out.drewN nn
  have H0 : Hid (Box3 (W.drewN nn) w.heap.size (.bool ba) (.slice Aa na ca) (.bool bb) (.slice Ab nb cb) (.bool false) (.slice none 0 0)) := H0.out.drewN nn
  clear hle
  generalize cmpN x.natAbs y.natAbs = cm at *
  generalize W.drewN nn = W at *
  obtain ⟨c0, c1, c2, c3⟩ := H0.out.cells
  go_wp2_with fail
  obtain ⟨c0, c1, c2, c3⟩ := H0.out.cells
  go_region_held3 (fun w' => w'.cell? ⟨w.heap.size, 0, none⟩ = some (.bool ba) ∧ w'.cell? ⟨w.heap.size, 1, none⟩ = some (.slice Aa na ca) ∧ w'.cell? ⟨w.heap.size + 1, 0, none⟩ = some (.bool bb) ∧ w'.cell? ⟨w.heap.size + 1, 1, none⟩ = some (.slice Ab nb cb)) (first | exact ⟨c0, c1, c2, c3⟩ | exact (H0.out.drew.ext hx1).cells | exact H3.out.cells | exact (H3.out.put _ _).cells)
    (first
      | (go_at_call 113; refine (natSub_any _ _ y.natAbs x.natAbs _ (HB.out.inv.2.ext (by exact HX0.out.drew)) (HA.out.inv.2.ext (by exact HX0.out.drew)) FY.out.fit FX.out.fit (Nat.le_of_lt HLE.out)).mono ?_; rintro e w1 ⟨v1, rfl, hv1, hx1⟩)
      | (go_at_call 93; refine (number_any bb v1 (y.natAbs - x.natAbs) _ hv1 (FY.out.fit.le (by omega))).mono ?_; rintro e w2 ⟨v2, rfl, hv2, hx2⟩; obtain ⟨b2, A2, n2, c2', rfl, HV2⟩ := hv2.parts; have H3 := Lib.hid (H0.out.drew.ext (hx1.trans hx2)); obtain ⟨k0, k1, k2, k3⟩ := H3.out.res; clear hv2))
  go_wp2
  refine ret_num rfl rfl rfl H3.out.r HV2.out (HX0.out.drew.trans (hx1.trans hx2)) (by omega) (fun v W' h1 h2 => ⟨v, rfl, ?_, h2⟩)
  rw [HB.out.inv.1, add_signed_ge (Ne.symm HXY.out) (Nat.le_of_lt HLE.out), Int.add_comm] at h1
  exact h1

/-- Number.Add, whatever the signs -/
theorem numAdd_any (va vb : Value) (x y : Int) (w : World) (ha : Num w va x) (hb : Num w vb y) (fx : FitZ x) (fy : FitZ y) :
    Calls Tryz.prog 92 #[va, vb] w fun e w' => ∃ v', e = .returned v' ∧ Num w' v' (x + y) ∧ Ext w w' := by
  by_cases h : decide (x < 0) = decide (y < 0)
  · exact numAdd_same va vb x y w ha hb fx fy h
  · rcases Nat.lt_or_ge x.natAbs y.natAbs with hl | hl
    · exact numAdd_lt va vb x y w ha hb fx fy h hl
    · exact numAdd_ge va vb x y w ha hb fx fy h hl
theorem mul_signed (x y : Int) : signed (decide (x < 0) != decide (y < 0)) (x.natAbs * y.natAbs) = x * y := by
  unfold signed
  rw [Int.natCast_mul]
  by_cases hx : x < 0
  · have ex : (x.natAbs : Int) = -x := by omega
    by_cases hy : y < 0
    · have ey : (y.natAbs : Int) = -y := by omega
      simp [hx, hy, ex, ey, Int.neg_mul_neg]
    · have ey : (y.natAbs : Int) = y := by omega
      simp [hx, hy, ex, ey, Int.neg_mul]
  · have ex : (x.natAbs : Int) = x := by omega
    by_cases hy : y < 0
    · have ey : (y.natAbs : Int) = -y := by omega
      simp [hx, hy, ex, ey, Int.mul_neg]
    · have ey : (y.natAbs : Int) = y := by omega
      simp [hx, hy, ex, ey]

set_option maxRecDepth 100000 in
set_option maxHeartbeats 4000000 in
theorem numSub_any (va vb : Value) (x y : Int) (w : World) (ha : Num w va x) (hb : Num w vb y) (fx : FitZ x) (fy : FitZ y) :
    Calls Tryz.prog 95 #[va, vb] w fun e w' => ∃ v', e = .returned v' ∧ Num w' v' (x - y) ∧ Ext w w' := by
  obtain ⟨ba, Aa, na, ca, rfl, HA⟩ := ha.parts
  obtain ⟨bb, Ab, nb, cb, rfl, HB⟩ := hb.parts
  have FX := Lib.hid fx
  have FY := Lib.hid fy
  clear ha hb fx fy
  go_enter Tryz.func95, Tryz.ntmps95
  go_wp2_with fail
  have HX0 : Hid (Ext w (((w.alloc (Obj.cells #[Value.bool ba, Value.slice Aa na ca] tNum)).alloc (Obj.cells #[Value.bool bb, Value.slice Ab nb cb] tNum)).alloc (Obj.cells #[Value.bool false, Value.slice none 0 0] tNum))) := (((Ext.refl w).alloc _).alloc _).alloc _
  have H0 := Lib.hid (Box3.new w (.bool ba) (.slice Aa na ca) (.bool bb) (.slice Ab nb cb) (.bool false) (.slice none 0 0))
  generalize ((w.alloc (Obj.cells #[Value.bool ba, Value.slice Aa na ca] tNum)).alloc (Obj.cells #[Value.bool bb, Value.slice Ab nb cb] tNum)).alloc (Obj.cells #[Value.bool false, Value.slice none 0 0] tNum) = W at *
  obtain ⟨c0, c1, c2, c3⟩ := H0.out.cells
  go_region_held3 (fun w' => w'.cell? ⟨w.heap.size, 0, none⟩ = some (.bool ba) ∧ w'.cell? ⟨w.heap.size, 1, none⟩ = some (.slice Aa na ca) ∧ w'.cell? ⟨w.heap.size + 1, 0, none⟩ = some (.bool bb) ∧ w'.cell? ⟨w.heap.size + 1, 1, none⟩ = some (.slice Ab nb cb)) (first | exact ⟨c0, c1, c2, c3⟩ | exact (H0.out.drew.ext hx1).cells | exact H3.out.cells | exact (H3.out.put _ _).cells)
    (first
      | (go_at_call 98; refine (numNeg_any _ y _ (HB.out.ext (by exact HX0.out.drew)) FY.out).mono ?_; rintro e w1 ⟨v1, rfl, hv1, hx1⟩)
      | (go_at_call 92; refine (numAdd_any _ _ x (-y) _ (HA.out.ext (by exact HX0.out.drew.trans hx1)) hv1 FX.out FY.out.neg).mono ?_; rintro e w2 ⟨v2, rfl, hv2, hx2⟩; obtain ⟨b2, A2, n2, c2', rfl, HV2⟩ := hv2.parts; have H3 := Lib.hid (H0.out.drew.ext (hx1.trans hx2)); obtain ⟨k0, k1, k2, k3⟩ := H3.out.res; clear hv2))
  go_wp2
  refine ret_num rfl rfl rfl H3.out.r HV2.out (HX0.out.drew.trans (hx1.trans hx2)) (by omega) (fun v W' h1 h2 => ⟨v, rfl, ?_, h2⟩)
  rw [Int.sub_eq_add_neg]
  exact h1

set_option maxRecDepth 100000 in
set_option maxHeartbeats 4000000 in
theorem numMul_any (va vb : Value) (x y : Int) (w : World) (ha : Num w va x) (hb : Num w vb y) (fx : FitZ x) (fy : FitZ y) :
    Calls Tryz.prog 67 #[va, vb] w fun e w' => ∃ v', e = .returned v' ∧ Num w' v' (x * y) ∧ Ext w w' := by
  obtain ⟨ba, Aa, na, ca, rfl, HA⟩ := ha.parts
  obtain ⟨bb, Ab, nb, cb, rfl, HB⟩ := hb.parts
  have FX := Lib.hid fx
  have FY := Lib.hid fy
  clear ha hb fx fy
  go_enter Tryz.func67, Tryz.ntmps67
  go_wp2_with fail
  have HX0 : Hid (Ext w (((w.alloc (Obj.cells #[Value.bool ba, Value.slice Aa na ca] tNum)).alloc (Obj.cells #[Value.bool bb, Value.slice Ab nb cb] tNum)).alloc (Obj.cells #[Value.bool false, Value.slice none 0 0] tNum))) := (((Ext.refl w).alloc _).alloc _).alloc _
  have H0 := Lib.hid (Box3.new w (.bool ba) (.slice Aa na ca) (.bool bb) (.slice Ab nb cb) (.bool false) (.slice none 0 0))
  generalize ((w.alloc (Obj.cells #[Value.bool ba, Value.slice Aa na ca] tNum)).alloc (Obj.cells #[Value.bool bb, Value.slice Ab nb cb] tNum)).alloc (Obj.cells #[Value.bool false, Value.slice none 0 0] tNum) = W at *
  obtain ⟨c0, c1, c2, c3⟩ := H0.out.cells
  go_region_held3 (fun w' => w'.cell? ⟨w.heap.size, 0, none⟩ = some (.bool ba) ∧ w'.cell? ⟨w.heap.size, 1, none⟩ = some (.slice Aa na ca) ∧ w'.cell? ⟨w.heap.size + 1, 0, none⟩ = some (.bool bb) ∧ w'.cell? ⟨w.heap.size + 1, 1, none⟩ = some (.slice Ab nb cb)) (first | exact ⟨c0, c1, c2, c3⟩ | exact (H0.out.drew.ext hx1).cells | exact H3.out.cells | exact (H3.out.put _ _).cells)
    (first
      | (go_at_call 94; refine (natMul_any _ _ x.natAbs y.natAbs _ (HA.out.inv.2.ext (by exact HX0.out.drew)) (HB.out.inv.2.ext (by exact HX0.out.drew)) FX.out.fit FY.out.fit).mono ?_; rintro e w1 ⟨v1, rfl, hv1, hx1⟩)
      | (go_at_call 93; refine (number_any (ba != bb) v1 (x.natAbs * y.natAbs) _ hv1 (FX.out.fit_mul FY.out)).mono ?_; rintro e w2 ⟨v2, rfl, hv2, hx2⟩; obtain ⟨b2, A2, n2, c2', rfl, HV2⟩ := hv2.parts; have H3 := Lib.hid (H0.out.drew.ext (hx1.trans hx2)); obtain ⟨k0, k1, k2, k3⟩ := H3.out.res; clear hv2))
  go_wp2
  refine ret_num rfl rfl rfl H3.out.r HV2.out (HX0.out.drew.trans (hx1.trans hx2)) (by omega) (fun v W' h1 h2 => ⟨v, rfl, ?_, h2⟩)
  rw [HA.out.inv.1, HB.out.inv.1, mul_signed] at h1
  exact h1

set_option maxRecDepth 100000 in
set_option maxHeartbeats 4000000 in
theorem numGcd_any (va vb : Value) (x y : Int) (w : World) (ha : Num w va x) (hb : Num w vb y) (fx : FitZ x) (fy : FitZ y) :
    Calls Tryz.prog 76 #[va, vb] w fun e w' => ∃ v', e = .returned v' ∧ Num w' v' (Int.gcd x y : Nat) ∧ Ext w w' := by
  obtain ⟨ba, Aa, na, ca, rfl, HA⟩ := ha.parts
  obtain ⟨bb, Ab, nb, cb, rfl, HB⟩ := hb.parts
  have FX := Lib.hid fx
  have FY := Lib.hid fy
  clear ha hb fx fy
  go_enter Tryz.func76, Tryz.ntmps76
  go_wp2_with fail
  have HX0 : Hid (Ext w (((w.alloc (Obj.cells #[Value.bool ba, Value.slice Aa na ca] tNum)).alloc (Obj.cells #[Value.bool bb, Value.slice Ab nb cb] tNum)).alloc (Obj.cells #[Value.bool false, Value.slice none 0 0] tNum))) := (((Ext.refl w).alloc _).alloc _).alloc _
  have H0 := Lib.hid (Box3.new w (.bool ba) (.slice Aa na ca) (.bool bb) (.slice Ab nb cb) (.bool false) (.slice none 0 0))
  generalize ((w.alloc (Obj.cells #[Value.bool ba, Value.slice Aa na ca] tNum)).alloc (Obj.cells #[Value.bool bb, Value.slice Ab nb cb] tNum)).alloc (Obj.cells #[Value.bool false, Value.slice none 0 0] tNum) = W at *
  refine (gcd_any _ _ x.natAbs y.natAbs W FX.out.fit FY.out.fit (HA.out.inv.2.ext HX0.out) (HB.out.inv.2.ext HX0.out)).mono ?_
  rintro e w1 ⟨v1, rfl, hv1, hx1⟩
  have hfg : Fit (Nat.gcd x.natAbs y.natAbs) := by
    rcases Nat.eq_zero_or_pos x.natAbs with h0 | h0
    · rw [h0, Nat.gcd_zero_left]; exact FY.out.fit
    · exact FX.out.fit.le (Nat.gcd_le_left _ h0)
  go_wp2_with fail
  refine (number_any false v1 (Nat.gcd x.natAbs y.natAbs) w1 hv1 hfg).mono ?_
  rintro e w2 ⟨v2, rfl, hv2, hx2⟩
  obtain ⟨b2, A2, n2, c2', rfl, HV2⟩ := hv2.parts
  have H3 := Lib.hid (H0.out.ext (hx1.trans hx2))
  obtain ⟨k0, k1, k2, k3⟩ := H3.out.res
  have HX2 := Lib.hid (HX0.out.trans (hx1.trans hx2))
  clear hv2 hx1 hx2 hv1
  go_wp2
  exact ret_num rfl rfl rfl H3.out.r HV2.out HX2.out (by omega) (fun v W' h1 h2 => ⟨v, rfl, h1, h2⟩)

set_option maxRecDepth 100000 in
set_option maxHeartbeats 4000000 in
theorem numCompare_any (va vb : Value) (x y : Int) (w : World) (ha : Num w va x) (hb : Num w vb y) (fx : FitZ x) (fy : FitZ y) :
    Calls Tryz.prog 68 #[va, vb] w fun e w' => e = .returned (.int .i64 (x - y).sign) ∧ Ext w w' := by
  obtain ⟨ba, Aa, na, ca, rfl, HA⟩ := ha.parts
  obtain ⟨bb, Ab, nb, cb, rfl, HB⟩ := hb.parts
  have FX := Lib.hid fx
  have FY := Lib.hid fy
  clear ha hb fx fy
  go_enter Tryz.func68, Tryz.ntmps68
  go_wp2_with fail
  have HX0 : Hid (Ext w ((w.alloc (Obj.cells #[Value.bool ba, Value.slice Aa na ca] tNum)).alloc (Obj.cells #[Value.bool bb, Value.slice Ab nb cb] tNum))) := ((Ext.refl w).alloc _).alloc _
  generalize (w.alloc (Obj.cells #[Value.bool ba, Value.slice Aa na ca] tNum)).alloc (Obj.cells #[Value.bool bb, Value.slice Ab nb cb] tNum) = W at *
  refine (numSub_any _ _ x y W (HA.out.ext HX0.out) (HB.out.ext HX0.out) FX.out FY.out).mono ?_
  rintro e w1 ⟨v1, rfl, hv1, hx1⟩
  have hfs : FitZ' (x - y) := FX.out.sub FY.out
  go_wp2_with fail
  refine (numSign_any v1 (x - y) w1 hv1 hfs).mono ?_
  rintro e w2 ⟨rfl, hx2⟩
  go_wp2
  go_ret
  exact ⟨rfl, HX0.out.trans (hx1.trans hx2)⟩
end Go.Proofs.YtkhmfgkbobblmaaGreatDoor
/- limbs: Of, Div. -/
namespace Go.Proofs.YtkhmfgkbobblmaaGreatDoor
open Go.RowKit

theorem three_limbs (u : Nat) (hu : u < 18446744073709551616) : Dig [u % B9, u / B9 % B9, u / B9 / B9] ∧ val [u % B9, u / B9 % B9, u / B9 / B9] = u := by
  refine ⟨Dig.cons (Nat.mod_lt _ (by decide)) (Dig.cons (Nat.mod_lt _ (by decide)) (Dig.cons (by unfold B9; omega) Dig.nil)), ?_⟩
  simp only [val_cons, val_nil]
  unfold B9
  omega

theorem Sl.new' (w : World) (t : TypeId) (cs : Array Value) (g : Nat) (hg : g = w.heap.size) : Sl (w.alloc (.cells cs t)) t (some ⟨g, 0, none⟩) cs.toList := by subst hg; exact Sl.new w t cs
set_option maxRecDepth 100000 in
set_option maxHeartbeats 4000000 in
theorem of_any (z : Int) (w : World) (h0 : -9223372036854775808 ≤ z) (h1 : z ≤ 9223372036854775807) :
    Calls Tryz.prog 77 #[.int .i64 z] w fun e w' => ∃ v', e = .returned v' ∧ Num w' v' z ∧ Ext w w' := by
  obtain ⟨u, hu⟩ : ∃ u, u = z.natAbs := ⟨_, rfl⟩
  have hu64 : u ≤ 9223372036854775808 := by omega
  have hl := three_limbs u (by omega)
  have HL := Lib.hid hl
  have HU := Lib.hid hu
  have hfit : Fit u := Fit.of_lt (e := 20) (by omega) (by omega)
  have HF := Lib.hid hfit
  have hsg : signed (decide (z < 0)) u = z := by unfold signed; by_cases h : z < 0 <;> simp [h] <;> omega
  have HSG := Lib.hid hsg
  clear hl hfit hsg
  have e1 : (u : Int) % 1000000000 = ((u % B9 : Nat) : Int) := by unfold B9; omega
  have e2 : (u : Int) / 1000000000 % 1000000000 = ((u / B9 % B9 : Nat) : Int) := by unfold B9; omega
  have e3 : (u : Int) / 1000000000 / 1000000000 = ((u / B9 / B9 : Nat) : Int) := by unfold B9; omega
  have E123 := Lib.hid (And.intro e1 (And.intro e2 e3))
  clear e1 e2 e3
  by_cases hz : z < 0
  · have hd : decide (z < 0) = true := decide_eq_true hz
    have hw : IntKind.u64.wrap (-IntKind.u64.wrap z) = (u : Int) := by rw [IntKind.wrap_u64, IntKind.wrap_u64]; omega
    clear hu
    go_enter Tryz.func77, Tryz.ntmps77
    go_wp2_with fail
    rw [E123.out.1, E123.out.2.1, E123.out.2.2]
    have hB := Blk.new' w tNum [.bool false, .slice none 0 0] w.heap.size rfl
    refine (trim_at (some ⟨w.heap.size + 1, 0, none⟩) 3 3 [u % B9, u / B9 % B9, u / B9 / B9] _ rfl (by omega) (by omega) HL.out.1 (Sl.new' (w.alloc (Obj.cells #[.bool false, .slice none 0 0] tNum)) 130 #[.int .u64 ((u % B9 : Nat) : Int), .int .u64 ((u / B9 % B9 : Nat) : Int), .int .u64 ((u / B9 / B9 : Nat) : Int)] _ (by simp))).mono ?_
    rintro e w' ⟨r, hr, rfl, hc, hv, hs, rfl⟩
    have HV := Lib.hid (hv.trans HL.out.2)
    have HB := Lib.hid (hB.ext ((Ext.refl _).alloc (Obj.cells #[.int .u64 ((u % B9 : Nat) : Int), .int .u64 ((u / B9 % B9 : Nat) : Int), .int .u64 ((u / B9 / B9 : Nat) : Int)] 130)))
    have HX : Hid (Ext w ((w.alloc (Obj.cells #[.bool false, .slice none 0 0] tNum)).alloc (Obj.cells #[.int .u64 ((u % B9 : Nat) : Int), .int .u64 ((u / B9 % B9 : Nat) : Int), .int .u64 ((u / B9 / B9 : Nat) : Int)] 130))) := ((Ext.refl w).alloc _).alloc _
    have HN := Lib.hid (NatV.mk' hc HV.out hr hs)
    clear hB hv hs hc
    go_wp2_with fail
    refine (number_any _ _ u _ HN.out HF.out).mono ?_
    rintro e w2 ⟨v2, rfl, hv2, hx2⟩
    obtain ⟨b2, A2, n2, c2', rfl, HV2⟩ := hv2.parts
    have HB2 := Lib.hid (HB.out.ext hx2)
    have HX2 := Lib.hid (HX.out.trans hx2)
    have k0 := HB2.out.cell (i := 0) rfl
    have k1 := HB2.out.cell (i := 1) rfl
    have k2 := HB2.out.frozen 0
    have k3 := HB2.out.frozen 1
    clear hv2 hx2
    go_wp2
    refine ret_num rfl rfl rfl HB2.out HV2.out HX2.out (by omega) (fun v W' h1 h2 => ⟨v, rfl, ?_, h2⟩)
    have := HSG.out
    rw [hd] at this
    rw [this] at h1
    exact h1
  · have hd : decide (z < 0) = false := decide_eq_false hz
    have hw : IntKind.u64.wrap z = (u : Int) := by rw [IntKind.wrap_u64]; omega
    clear hu
    go_enter Tryz.func77, Tryz.ntmps77
    go_wp2_with fail
    rw [E123.out.1, E123.out.2.1, E123.out.2.2]
    have hB := Blk.new' w tNum [.bool false, .slice none 0 0] w.heap.size rfl
    refine (trim_at (some ⟨w.heap.size + 1, 0, none⟩) 3 3 [u % B9, u / B9 % B9, u / B9 / B9] _ rfl (by omega) (by omega) HL.out.1 (Sl.new' (w.alloc (Obj.cells #[.bool false, .slice none 0 0] tNum)) 130 #[.int .u64 ((u % B9 : Nat) : Int), .int .u64 ((u / B9 % B9 : Nat) : Int), .int .u64 ((u / B9 / B9 : Nat) : Int)] _ (by simp))).mono ?_
    rintro e w' ⟨r, hr, rfl, hc, hv, hs, rfl⟩
    have HV := Lib.hid (hv.trans HL.out.2)
    have HB := Lib.hid (hB.ext ((Ext.refl _).alloc (Obj.cells #[.int .u64 ((u % B9 : Nat) : Int), .int .u64 ((u / B9 % B9 : Nat) : Int), .int .u64 ((u / B9 / B9 : Nat) : Int)] 130)))
    have HX : Hid (Ext w ((w.alloc (Obj.cells #[.bool false, .slice none 0 0] tNum)).alloc (Obj.cells #[.int .u64 ((u % B9 : Nat) : Int), .int .u64 ((u / B9 % B9 : Nat) : Int), .int .u64 ((u / B9 / B9 : Nat) : Int)] 130))) := ((Ext.refl w).alloc _).alloc _
    have HN := Lib.hid (NatV.mk' hc HV.out hr hs)
    clear hB hv hs hc
    go_wp2_with fail
    refine (number_any _ _ u _ HN.out HF.out).mono ?_
    rintro e w2 ⟨v2, rfl, hv2, hx2⟩
    obtain ⟨b2, A2, n2, c2', rfl, HV2⟩ := hv2.parts
    have HB2 := Lib.hid (HB.out.ext hx2)
    have HX2 := Lib.hid (HX.out.trans hx2)
    have k0 := HB2.out.cell (i := 0) rfl
    have k1 := HB2.out.cell (i := 1) rfl
    have k2 := HB2.out.frozen 0
    have k3 := HB2.out.frozen 1
    clear hv2 hx2
    go_wp2
    refine ret_num rfl rfl rfl HB2.out HV2.out HX2.out (by omega) (fun v W' h1 h2 => ⟨v, rfl, ?_, h2⟩)
    have := HSG.out
    rw [hd] at this
    rw [this] at h1
    exact h1

/-- what Div leaves: quotient and rest of a division by a positive number -/
def DivOf (x y : Int) (w : World) (e : Ending) (w' : World) : Prop :=
  ∃ q r, e = .returned (.tuple #[q, r]) ∧ Num w' q (x / y) ∧ Num w' r (x % y) ∧ Ext w w'
theorem natDiv_any (va vb : Value) (a b : Nat) (w : World) (ha : NatV w va a) (hb : NatV w vb b) (fa : Fit a) (fb : Fit b) (hb0 : 0 < b) :
    Calls Tryz.prog 114 #[va, vb] w fun e w' => ∃ q r, e = .returned (.tuple #[q, r]) ∧ NatV w' q (a / b) ∧ NatV w' r (a % b) ∧ Ext w w' := by
  obtain ⟨A1, c1, rfl, hc1, s1⟩ := ha
  obtain ⟨A2, c2, rfl, hc2, s2⟩ := hb
  unfold Fit at fa fb
  refine (divide_any A1 A2 c1 c2 (toL a) (toL b) w (by omega) (by omega) (toL_canon a) (toL_canon b) hc1 s1 s2 (by rw [Ne, toL_eq_nil]; omega)).mono ?_
  rintro e w' ⟨Aq, lq, cq, Ar, lr, cr, rfl, hq, hr, hcq, hcr, hvq, hvr, hsq, hsr, hx⟩
  rw [val_toL, val_toL] at hvq hvr
  exact ⟨_, _, rfl, .mk' hcq hvq hq hsq, .mk' hcr hvr hr hsr, hx⟩

/-- for a walk: the slice's cells by name -/
theorem NatV.parts {w : World} {v : Value} {a : Nat} (h : NatV w v a) : ∃ A n c, v = .slice A n c ∧ decide (0 < n) = decide (0 < a) ∧ n ≤ c ∧ Hid (NatV w (.slice A n c) a) := by
  obtain ⟨A, c, rfl, hc, hs⟩ := h
  refine ⟨A, _, c, rfl, ?_, hc, ⟨A, c, rfl, hc, hs⟩⟩
  have h0 : (toL a).length = 0 ↔ a = 0 := by rw [List.length_eq_zero_iff, toL_eq_nil]
  by_cases h : a = 0
  · have := h0.2 h; rw [this, h]
  · have : (toL a).length ≠ 0 := fun k => h (h0.1 k)
    rw [decide_eq_true (by omega), decide_eq_true (by omega)]
theorem div_signed {x y : Int} (hy : 0 < y) (hp : ¬ (x < 0 ∧ 0 < x.natAbs % y.natAbs)) : signed (decide (x < 0) != decide (y < 0)) (x.natAbs / y.natAbs) = x / y ∧ signed false (x.natAbs % y.natAbs) = x % y := by
  obtain ⟨b, rfl⟩ : ∃ b : Nat, y = b := ⟨y.natAbs, by omega⟩
  have hb : decide ((b : Int) < 0) = false := decide_eq_false (by omega)
  simp only [Int.natAbs_natCast] at hp ⊢
  unfold signed
  by_cases hx : x < 0
  · obtain ⟨a, rfl⟩ : ∃ a : Nat, x = -(a : Int) := ⟨x.natAbs, by omega⟩
    simp only [Int.natAbs_neg, Int.natAbs_natCast] at hp ⊢
    have h0 : a % b = 0 := by omega
    have h1 : (b : Int) ∣ (a : Int) := Int.natCast_dvd_natCast.2 (Nat.dvd_of_mod_eq_zero h0)
    rw [hb, decide_eq_true hx, h0]
    refine ⟨?_, ?_⟩
    · simp only [bne, Bool.true_beq, Bool.not_false, if_true]
      rw [Int.neg_ediv_of_dvd h1, Int.natCast_ediv]
    · exact (Int.emod_eq_zero_of_dvd (Int.dvd_neg.2 h1)).symm
  · obtain ⟨a, rfl⟩ : ∃ a : Nat, x = (a : Int) := ⟨x.natAbs, by omega⟩
    rw [hb, decide_eq_false hx]
    simp only [Int.natAbs_natCast]
    exact ⟨by simp, by simp⟩

/-- two results that are numbers in boxes -/
theorem results_cell2 {fn : Func} {p q : Tmp} {ty ty' : TypeId} (h : fn.results = #[.cell p ty, .cell q ty']) (tmps : Array Value) {P : Program} (w : World) (g k : Nat) (u v : Value)
    (hp : tmps.getD p undef = .pointer (some ⟨g, 0, none⟩)) (hq : tmps.getD q undef = .pointer (some ⟨k, 0, none⟩))
    (hg : (loadVar ty ⟨g, 0, none⟩).run P w = .ok u w) (hk : (loadVar ty' ⟨k, 0, none⟩).run P w = .ok v w) :
    (results fn tmps).run P w = .ok (.tuple #[u, v]) w := by
  have hp' : tmps[p]?.getD undef = .pointer (some ⟨g, 0, none⟩) := by simpa using hp
  have hq' : tmps[q]?.getD undef = .pointer (some ⟨k, 0, none⟩) := by simpa using hq
  simp [results, h, hp', hq', asAddr, Sem.run_bind, Result.andThen, hg, hk]
theorem load_num {w : World} {g : Nat} {b : Bool} {A : Option Addr} {n c : Nat} (hB : Blk w g tNum [.bool b, .slice A n c]) : (loadVar tNum ⟨g, 0, none⟩).run Tryz.prog w = .ok (.agg #[.bool b, .slice A n c]) w :=
  run_loadVar_row w g tNum tNum #[.bool b, .slice A n c] (0, 0) _ hB Tryz.underlying76 rfl (by kernel_rfl)
/-- the end of Div: both results stored -/
theorem ret_div {fn : Func} {t t' g : Nat} {w w1 : World} {b1 b2 : Bool} {A1 A2 : Option Addr} {n1 c1 n2 c2 : Nat} {x y : Int} {a : Act} {x0 x1 y0 y1 : Value} (hres : fn.results = #[.cell t tNum, .cell t' tNum]) (ht : a.tmps.getD t undef = .pointer (some ⟨g, 0, none⟩)) (ht' : a.tmps.getD t' undef = .pointer (some ⟨g + 1, 0, none⟩)) (hd : a.defers = [])
    (hB : Blk w1 g tNum [x0, x1]) (hB' : Blk w1 (g + 1) tNum [y0, y1]) (H1 : Num w1 (.agg #[.bool b1, .slice A1 n1 c1]) (x / y)) (H2 : Num w1 (.agg #[.bool b2, .slice A2 n2 c2]) (x % y)) (hx : Ext w w1) (hg : w.heap.size ≤ g) :
    bodyPost Tryz.prog fn (DivOf x y w) .ret a ((((w1.setCell ⟨g, 0, none⟩ (.bool b1)).setCell ⟨g, 1, none⟩ (.slice A1 n1 c1)).setCell ⟨g + 1, 0, none⟩ (.bool b2)).setCell ⟨g + 1, 1, none⟩ (.slice A2 n2 c2)) := by
  have hB2 : Blk ((w1.setCell ⟨g, 0, none⟩ (.bool b1)).setCell ⟨g, 1, none⟩ (.slice A1 n1 c1)) g tNum [.bool b1, .slice A1 n1 c1] := (hB.set_ 0 (.bool b1)).set_ 1 (.slice A1 n1 c1)
  have hC2 : Blk ((w1.setCell ⟨g, 0, none⟩ (.bool b1)).setCell ⟨g, 1, none⟩ (.slice A1 n1 c1)) (g + 1) tNum [y0, y1] := (hB'.far (p := ⟨g, 0, none⟩) (by show g + 1 ≠ g; omega) _).far (p := ⟨g, 1, none⟩) (by show g + 1 ≠ g; omega) _
  have hK1 := hB.kept2 (t := 130) (by decide) 0 1 (.bool b1) (.slice A1 n1 c1)
  have hX1 : Ext w ((w1.setCell ⟨g, 0, none⟩ (.bool b1)).setCell ⟨g, 1, none⟩ (.slice A1 n1 c1)) := (hx.setCell hg _).setCell hg _
  generalize (w1.setCell ⟨g, 0, none⟩ (.bool b1)).setCell ⟨g, 1, none⟩ (.slice A1 n1 c1) = W2 at *
  have hB3 : Blk ((W2.setCell ⟨g + 1, 0, none⟩ (.bool b2)).setCell ⟨g + 1, 1, none⟩ (.slice A2 n2 c2)) g tNum [.bool b1, .slice A1 n1 c1] := (hB2.far (p := ⟨g + 1, 0, none⟩) (by show g ≠ g + 1; omega) _).far (p := ⟨g + 1, 1, none⟩) (by show g ≠ g + 1; omega) _
  have hC3 : Blk ((W2.setCell ⟨g + 1, 0, none⟩ (.bool b2)).setCell ⟨g + 1, 1, none⟩ (.slice A2 n2 c2)) (g + 1) tNum [.bool b2, .slice A2 n2 c2] := (hC2.set_ 0 (.bool b2)).set_ 1 (.slice A2 n2 c2)
  have hK2 := hC2.kept2 (t := 130) (by decide) 0 1 (.bool b2) (.slice A2 n2 c2)
  exact bodyPost_ret (results_cell2 hres a.tmps _ g (g + 1) _ _ ht ht' (load_num hB3) (load_num hC3)) hd ⟨_, _, rfl, H1.keep (hK1.trans hK2), H2.keep (hK1.trans hK2), (hX1.setCell (show w.heap.size ≤ g + 1 by omega) _).setCell (show w.heap.size ≤ g + 1 by omega) _⟩
set_option maxRecDepth 100000 in
set_option maxHeartbeats 4000000 in
theorem numDiv_plain (va vb : Value) (x y : Int) (w : World) (ha : Num w va x) (hb : Num w vb y) (fx : FitZ x) (fy : FitZ y) (hy : 0 < y) (hp : ¬ (x < 0 ∧ 0 < x.natAbs % y.natAbs)) :
    Calls Tryz.prog 99 #[va, vb] w (DivOf x y w) := by
  obtain ⟨ba, Aa, na, ca, rfl, HA⟩ := ha.parts
  obtain ⟨bb, Ab, nb, cb, rfl, HB⟩ := hb.parts
  have FX := Lib.hid fx
  have FY := Lib.hid fy
  have HY := Lib.hid hy
  have HP := Lib.hid hp
  have hd := div_signed hy hp
  rw [← HA.out.inv.1, ← HB.out.inv.1] at hd
  have HD := Lib.hid hd
  clear ha hb fx fy hy hp hd
  go_enter Tryz.func99, Tryz.ntmps99
  go_wp2_with fail
  have HX0 : Hid (Ext w ((((w.alloc (Obj.cells #[Value.bool ba, Value.slice Aa na ca] tNum)).alloc (Obj.cells #[Value.bool bb, Value.slice Ab nb cb] tNum)).alloc (Obj.cells #[Value.bool false, Value.slice none 0 0] tNum)).alloc (Obj.cells #[Value.bool false, Value.slice none 0 0] tNum))) := ((((Ext.refl w).alloc _).alloc _).alloc _).alloc _
  have H0 := Lib.hid ((Box3.new w (.bool ba) (.slice Aa na ca) (.bool bb) (.slice Ab nb cb) (.bool false) (.slice none 0 0)).ext ((Ext.refl _).alloc (Obj.cells #[Value.bool false, Value.slice none 0 0] tNum)))
  have H4 := Lib.hid (Blk.new' (((w.alloc (Obj.cells #[Value.bool ba, Value.slice Aa na ca] tNum)).alloc (Obj.cells #[Value.bool bb, Value.slice Ab nb cb] tNum)).alloc (Obj.cells #[Value.bool false, Value.slice none 0 0] tNum)) tNum [.bool false, .slice none 0 0] (w.heap.size + 1 + 1 + 1) (by simp))
  have h4 : (Obj.cells #[Value.bool false, Value.slice none 0 0] tNum) = (Obj.cells [Value.bool false, Value.slice none 0 0].toArray tNum) := rfl
  rw [← h4] at H4
  clear h4
  generalize (((w.alloc (Obj.cells #[Value.bool ba, Value.slice Aa na ca] tNum)).alloc (Obj.cells #[Value.bool bb, Value.slice Ab nb cb] tNum)).alloc (Obj.cells #[Value.bool false, Value.slice none 0 0] tNum)).alloc (Obj.cells #[Value.bool false, Value.slice none 0 0] tNum) = W at *
  refine (natDiv_any _ _ x.natAbs y.natAbs W (HA.out.inv.2.ext HX0.out) (HB.out.inv.2.ext HX0.out) FX.out.fit FY.out.fit (by have := HY.out; omega)).mono ?_
  rintro e w1 ⟨q, r, rfl, hq, hr, hx1⟩
  obtain ⟨Aq, nq, cq, rfl, _, _, HQ⟩ := hq.parts
  obtain ⟨Ar, nr, cr, rfl, hr0, hrc, HR⟩ := hr.parts
  have HX1 := Lib.hid (HX0.out.trans hx1)
  have H1 := Lib.hid (H0.out.ext hx1)
  have H5 := Lib.hid (H4.out.ext hx1)
  have fq : Hid (Fit (x.natAbs / y.natAbs)) := FX.out.fit.le (Nat.div_le_self _ _)
  have fr : Hid (Fit (x.natAbs % y.natAbs)) := FX.out.fit.le (Nat.mod_le _ _)
  clear hq hr hx1
  obtain ⟨c0, c1, c2, c3⟩ := H1.out.cells
  have ht : ba = false ∨ ba = true ∧ decide (0 < nr) = false := by
    rw [HA.out.inv.1, hr0]
    have := HP.out
    by_cases h : x < 0
    · exact .inr ⟨decide_eq_true h, decide_eq_false (fun k => this ⟨h, k⟩)⟩
    · exact .inl (decide_eq_false h)
  clear hr0
  rcases ht with rfl | ⟨rfl, ht⟩
  all_goals
    go_wp2_with fail
    refine (number_any _ _ (x.natAbs / y.natAbs) _ HQ.out fq.out).mono ?_
    rintro e w2 ⟨v2, rfl, hv2, hx2⟩
    obtain ⟨b2, A2, n2, c2', rfl, HV2⟩ := hv2.parts
    go_wp2_with fail
    refine (number_any _ _ (x.natAbs % y.natAbs) _ (HR.out.ext hx2) fr.out).mono ?_
    rintro e w3 ⟨v3, rfl, hv3, hx3⟩
    obtain ⟨b3, A3, n3, c3', rfl, HV3⟩ := hv3.parts
    have HV2' := Lib.hid (HV2.out.ext hx3)
    have H2 := Lib.hid (H1.out.ext (hx2.trans hx3))
    have H6 := Lib.hid (H5.out.ext (hx2.trans hx3))
    have HX3 := Lib.hid (HX1.out.trans (hx2.trans hx3))
    clear hv2 hv3 hx2 hx3 HV2 H1 H5
    obtain ⟨k0, k1, k2, k3⟩ := H2.out.res
    have l0 := H6.out.cell (i := 0) rfl
    have l1 := H6.out.cell (i := 1) rfl
    have l2 := H6.out.frozen 0
    have l3 := H6.out.frozen 1
    go_wp2
    exact ret_div rfl rfl rfl rfl H2.out.r H6.out (by rw [← HD.out.1]; first | (rw [show (false != bb) = bb by cases bb <;> rfl]; exact HV2'.out) | (rw [show (true != bb) = !bb by cases bb <;> rfl]; exact HV2'.out)) (by rw [← HD.out.2]; exact HV3.out) HX3.out (by omega)
theorem fit_one : Fit 1 := Fit.of_lt (e := 1) (by decide) (by decide)
theorem one_at (w : World) : NatV (w.alloc (Obj.cells #[.int .u64 1] 130)).drew (.slice (some ⟨w.heap.size, 0, none⟩) 1 1) 1 :=
  NatV.mk' (r := [1]) (c := 1) ⟨Dig.cons (by decide) Dig.nil, by unfold NoZ; decide⟩ rfl (by decide) (Sl.new w 130 #[.int .u64 1])
theorem div_signed_neg {x y : Int} (hy : 0 < y) (hp : x < 0 ∧ 0 < x.natAbs % y.natAbs) : signed (decide (x < 0) != decide (y < 0)) (x.natAbs / y.natAbs + 1) = x / y ∧ signed false (y.natAbs - x.natAbs % y.natAbs) = x % y := by
  obtain ⟨b, rfl⟩ : ∃ b : Nat, y = b := ⟨y.natAbs, by omega⟩
  obtain ⟨a, rfl⟩ : ∃ a : Nat, x = -(a : Int) := ⟨x.natAbs, by omega⟩
  simp only [Int.natAbs_neg, Int.natAbs_natCast] at hp ⊢
  have hb : decide ((b : Int) < 0) = false := decide_eq_false (by omega)
  rw [hb, decide_eq_true hp.1]
  have h1 := Nat.div_add_mod a b
  have h2 : a % b < b := Nat.mod_lt _ (by omega)
  have h3 : (-(a : Int)) = -((a / b + 1 : Nat) : Int) * (b : Int) + ((b - a % b : Nat) : Int) := by
    rw [Int.ofNat_sub (Nat.le_of_lt h2)]
    have : ((b * (a / b) + a % b : Nat) : Int) = (a : Int) := by rw [h1]
    push_cast at this ⊢
    grind
  have h4 : (-(a : Int)) / b = -((a / b + 1 : Nat) : Int) := by
    rw [h3, Int.add_comm, Int.add_mul_ediv_right _ _ (by omega), Int.ediv_eq_zero_of_lt (by omega) (by omega)]
    omega
  have h5 : (-(a : Int)) % b = ((b - a % b : Nat) : Int) := by
    rw [h3, Int.add_comm, Int.add_mul_emod_self_right, Int.emod_eq_of_lt (by omega) (by omega)]
  rw [h4, h5]
  exact ⟨rfl, rfl⟩
set_option maxRecDepth 100000 in
set_option maxHeartbeats 4000000 in
theorem numDiv_neg (va vb : Value) (x y : Int) (w : World) (ha : Num w va x) (hb : Num w vb y) (fx : FitZ x) (fy : FitZ y) (hy : 0 < y) (hp : x < 0 ∧ 0 < x.natAbs % y.natAbs) :
    Calls Tryz.prog 99 #[va, vb] w (DivOf x y w) := by
  obtain ⟨ba, Aa, na, ca, rfl, HA⟩ := ha.parts
  obtain ⟨bb, Ab, nb, cb, rfl, HB⟩ := hb.parts
  have FX := Lib.hid fx
  have FY := Lib.hid fy
  have HY := Lib.hid hy
  have HP := Lib.hid hp
  have hd := div_signed_neg hy hp
  rw [← HA.out.inv.1, ← HB.out.inv.1] at hd
  have HD := Lib.hid hd
  clear ha hb fx fy hy hp hd
  go_enter Tryz.func99, Tryz.ntmps99
  go_wp2_with fail
  have HX0 : Hid (Ext w ((((w.alloc (Obj.cells #[Value.bool ba, Value.slice Aa na ca] tNum)).alloc (Obj.cells #[Value.bool bb, Value.slice Ab nb cb] tNum)).alloc (Obj.cells #[Value.bool false, Value.slice none 0 0] tNum)).alloc (Obj.cells #[Value.bool false, Value.slice none 0 0] tNum))) := ((((Ext.refl w).alloc _).alloc _).alloc _).alloc _
  have H0 := Lib.hid ((Box3.new w (.bool ba) (.slice Aa na ca) (.bool bb) (.slice Ab nb cb) (.bool false) (.slice none 0 0)).ext ((Ext.refl _).alloc (Obj.cells #[Value.bool false, Value.slice none 0 0] tNum)))
  have H4 := Lib.hid (Blk.new' (((w.alloc (Obj.cells #[Value.bool ba, Value.slice Aa na ca] tNum)).alloc (Obj.cells #[Value.bool bb, Value.slice Ab nb cb] tNum)).alloc (Obj.cells #[Value.bool false, Value.slice none 0 0] tNum)) tNum [.bool false, .slice none 0 0] (w.heap.size + 1 + 1 + 1) (by simp))
  have h4 : (Obj.cells #[Value.bool false, Value.slice none 0 0] tNum) = (Obj.cells [Value.bool false, Value.slice none 0 0].toArray tNum) := rfl
  rw [← h4] at H4
  clear h4
  generalize (((w.alloc (Obj.cells #[Value.bool ba, Value.slice Aa na ca] tNum)).alloc (Obj.cells #[Value.bool bb, Value.slice Ab nb cb] tNum)).alloc (Obj.cells #[Value.bool false, Value.slice none 0 0] tNum)).alloc (Obj.cells #[Value.bool false, Value.slice none 0 0] tNum) = W at *
  refine (natDiv_any _ _ x.natAbs y.natAbs W (HA.out.inv.2.ext HX0.out) (HB.out.inv.2.ext HX0.out) FX.out.fit FY.out.fit (by have := HY.out; omega)).mono ?_
  rintro e w1 ⟨q, r, rfl, hq, hr, hx1⟩
  obtain ⟨Aq, nq, cq, rfl, _, _, HQ⟩ := hq.parts
  obtain ⟨Ar, nr, cr, rfl, hr0, hrc, HR⟩ := hr.parts
  have HX1 := Lib.hid (HX0.out.trans hx1)
  have H1 := Lib.hid (H0.out.ext hx1)
  have H5 := Lib.hid (H4.out.ext hx1)
  have fq : Hid (Fit (x.natAbs / y.natAbs)) := FX.out.fit.le (Nat.div_le_self _ _)
  have fr : Hid (Fit (x.natAbs % y.natAbs)) := FX.out.fit.le (Nat.mod_le _ _)
  clear hq hr hx1
  obtain ⟨c0, c1, c2, c3⟩ := H1.out.cells
  have hba : ba = true := by rw [HA.out.inv.1]; exact decide_eq_true HP.out.1
  subst hba
  have ht : decide (0 < nr) = true := by rw [hr0]; exact decide_eq_true HP.out.2
  have hml : x.natAbs % y.natAbs ≤ y.natAbs := Nat.le_of_lt (Nat.mod_lt _ (by have := HY.out; omega))
  have HML := Lib.hid hml
  clear hr0 hml
  go_wp2_with fail
  go_region_held3 (fun w' => w'.cell? ⟨w.heap.size + 1, 0, none⟩ = some (.bool bb) ∧ w'.cell? ⟨w.heap.size + 1, 1, none⟩ = some (.slice Ab nb cb)) (first | exact ⟨c2, c3⟩ | exact (H1.out.ext ((Ext.refl _).alloc _)).drew.cells.2.2 | exact ((H1.out.ext ((Ext.refl _).alloc _)).drew.ext hx2).cells.2.2 | exact ((H1.out.ext ((Ext.refl _).alloc _)).drew.ext (hx2.trans hx3)).cells.2.2)
    (first
      | (go_at_call 111; refine (natAdd_any _ _ (x.natAbs / y.natAbs) 1 _ (HQ.out.ext (by exact ((Ext.refl _).alloc _).drew)) (by exact one_at w1) fq.out fit_one).mono ?_; rintro e w2 ⟨v2, rfl, hv2, hx2⟩)
      | (go_at_call 113; refine (natSub_any _ _ y.natAbs (x.natAbs % y.natAbs) _ (HB.out.inv.2.ext (by exact (HX1.out.trans ((Ext.refl _).alloc _).drew).trans hx2)) (HR.out.ext (by exact ((Ext.refl _).alloc _).drew.trans hx2)) FY.out.fit fr.out HML.out).mono ?_; rintro e w3 ⟨v3, rfl, hv3, hx3⟩))
  all_goals
    have HXn := Lib.hid (((Ext.refl w1).alloc (Obj.cells #[.int .u64 1] 130)).drew.trans (hx2.trans hx3))
    have HQ' := Lib.hid (hv2.ext hx3)
    have HR' := Lib.hid hv3
    have H1' := Lib.hid (H1.out.ext HXn.out)
    have H5' := Lib.hid (H5.out.ext HXn.out)
    have HX1' := Lib.hid (HX1.out.trans HXn.out)
    have fq' : Hid (Fit (x.natAbs / y.natAbs + 1)) := (FX.out.fit_add FY.out).le (by have := Nat.div_le_self x.natAbs y.natAbs; have := HY.out; omega)
    have fr' : Hid (Fit (y.natAbs - x.natAbs % y.natAbs)) := FY.out.fit.le (Nat.sub_le _ _)
    clear hx2 hx3 hv2 hv3 HXn H1 H5 HX1 c0 c1 c2 c3
    obtain ⟨c0, c1, c2, c3⟩ := H1'.out.cells
    go_wp2_with fail
    refine (number_any _ _ (x.natAbs / y.natAbs + 1) _ HQ'.out fq'.out).mono ?_
    rintro e w4 ⟨v4, rfl, hv4, hx4⟩
    obtain ⟨b4, A4, n4, c4', rfl, HV4⟩ := hv4.parts
    go_wp2_with fail
    refine (number_any _ _ (y.natAbs - x.natAbs % y.natAbs) _ (HR'.out.ext hx4) fr'.out).mono ?_
    rintro e w5 ⟨v5, rfl, hv5, hx5⟩
    obtain ⟨b5, A5, n5, c5', rfl, HV5⟩ := hv5.parts
    have HV4' := Lib.hid (HV4.out.ext hx5)
    have H2 := Lib.hid (H1'.out.ext (hx4.trans hx5))
    have H6 := Lib.hid (H5'.out.ext (hx4.trans hx5))
    have HX3 := Lib.hid (HX1'.out.trans (hx4.trans hx5))
    clear hv4 hv5 hx4 hx5 HV4 H1' H5'
    obtain ⟨k0, k1, k2, k3⟩ := H2.out.res
    have l0 := H6.out.cell (i := 0) rfl
    have l1 := H6.out.cell (i := 1) rfl
    have l2 := H6.out.frozen 0
    have l3 := H6.out.frozen 1
    go_wp2
    exact ret_div rfl rfl rfl rfl H2.out.r H6.out (by rw [← HD.out.1]; rw [show (true != bb) = !bb by cases bb <;> rfl]; exact HV4'.out) (by rw [← HD.out.2]; exact HV5.out) HX3.out (by omega)
theorem numDiv_any (va vb : Value) (x y : Int) (w : World) (ha : Num w va x) (hb : Num w vb y) (fx : FitZ x) (fy : FitZ y) (hy : 0 < y) :
    Calls Tryz.prog 99 #[va, vb] w (DivOf x y w) := by
  by_cases h : x < 0 ∧ 0 < x.natAbs % y.natAbs
  · exact numDiv_neg va vb x y w ha hb fx fy hy h
  · exact numDiv_plain va vb x y w ha hb fx fy hy h
end Go.Proofs.YtkhmfgkbobblmaaGreatDoor
/- fraction: the values, whole, Whole, Of. -/
namespace Go.Proofs.YtkhmfgkbobblmaaGreatDoor
open Go.RowKit

abbrev tFrac : TypeId := 78
/-- the value v is the rational q -/
def FracV (w : World) (v : Value) (q : Rat) : Prop := ∃ a b c d, v = .agg #[a, b, c, d] ∧ Num w (.agg #[a, b]) q.num ∧ Num w (.agg #[c, d]) q.den
theorem FracV.ext {w w' : World} {v : Value} {q : Rat} (h : FracV w v q) (hx : Ext w w') : FracV w' v q := by
  obtain ⟨a, b, c, d, rfl, h1, h2⟩ := h
  exact ⟨a, b, c, d, rfl, h1.ext hx, h2.ext hx⟩
theorem FracV.keep {w w' : World} {v : Value} {q : Rat} (h : FracV w v q) (hx : Kept 130 w w') : FracV w' v q := by
  obtain ⟨a, b, c, d, rfl, h1, h2⟩ := h
  exact ⟨a, b, c, d, rfl, h1.keep hx, h2.keep hx⟩
/-- for a walk: the value's cells by name, what they mean aside -/
theorem FracV.parts {w : World} {v : Value} {q : Rat} (h : FracV w v q) : ∃ b A n c b' A' n' c', v = .agg #[.bool b, .slice A n c, .bool b', .slice A' n' c'] ∧ Hid (Num w (.agg #[.bool b, .slice A n c]) q.num) ∧ Hid (Num w (.agg #[.bool b', .slice A' n' c']) q.den) := by
  obtain ⟨a, b, c, d, rfl, h1, h2⟩ := h
  obtain ⟨b1, A1, n1, c1, e1, H1⟩ := h1.parts
  obtain ⟨b2, A2, n2, c2, e2, H2⟩ := h2.parts
  simp at e1 e2
  obtain ⟨rfl, rfl⟩ := e1
  obtain ⟨rfl, rfl⟩ := e2
  exact ⟨b1, A1, n1, c1, b2, A2, n2, c2, rfl, H1, H2⟩
theorem FracV.mk' {w : World} {a b c d : Value} {q : Rat} (h1 : Num w (.agg #[a, b]) q.num) (h2 : Num w (.agg #[c, d]) q.den) : FracV w (.agg #[a, b, c, d]) q := ⟨a, b, c, d, rfl, h1, h2⟩

/-- at most e digits above and below -/
def FitQ (e : Nat) (q : Rat) : Prop := q.num.natAbs < 10 ^ e ∧ q.den < 10 ^ e
theorem FitQ.num {e : Nat} {q : Rat} (h : FitQ e q) (he : e ≤ 1000000) : FitZ q.num := ⟨e, he, h.1⟩
theorem FitQ.den {e : Nat} {q : Rat} (h : FitQ e q) (he : e ≤ 1000000) : FitZ q.den := ⟨e, he, by simpa using h.2⟩
theorem FitQ.mono {e d : Nat} {q : Rat} (h : FitQ e q) (he : e ≤ d) : FitQ d q := ⟨Nat.lt_of_lt_of_le h.1 (Nat.pow_le_pow_right (by decide) he), Nat.lt_of_lt_of_le h.2 (Nat.pow_le_pow_right (by decide) he)⟩

theorem fitz_one : FitZ 1 := ⟨1, by decide, by decide⟩
/-- a drawn region's world -/
theorem whole_iff (q : Rat) : (((q.den : Int) - 1).sign == 0) = decide (q.den = 1) := by
  by_cases h : q.den = 1
  · rw [h]; rfl
  · rw [decide_eq_false h]
    have : ((q.den : Int) - 1).sign ≠ 0 := by rw [Ne, Int.sign_eq_zero_iff_zero]; omega
    simpa using this

/-- boxes that a function makes at its start: the world by a name, what was there, what the boxes hold -/
theorem box1 {P : World → Prop} {w : World} {t : TypeId} {l : List Value} (h : ∀ W, Hid (Ext w W) → Hid (Blk W w.heap.size t l) → P W) : P (w.alloc (.cells l.toArray t)) :=
  h _ ((Ext.refl w).alloc _) (Blk.new w t l)
theorem box2 {P : World → Prop} {w : World} {t t' : TypeId} {l l' : List Value} (h : ∀ W, Hid (Ext w W) → Hid (Blk W w.heap.size t l) → Hid (Blk W (w.heap.size + 1) t' l') → P W) : P ((w.alloc (.cells l.toArray t)).alloc (.cells l'.toArray t')) :=
  h _ (((Ext.refl w).alloc _).alloc _) ((Blk.new w t l).ext ((Ext.refl _).alloc _)) (Blk.new' (w.alloc (.cells l.toArray t)) t' l' _ (by simp))
theorem box3 {P : World → Prop} {w : World} {t t' t'' : TypeId} {l l' l'' : List Value} (h : ∀ W, Hid (Ext w W) → Hid (Blk W w.heap.size t l) → Hid (Blk W (w.heap.size + 1) t' l') → Hid (Blk W (w.heap.size + 1 + 1) t'' l'') → P W) : P (((w.alloc (.cells l.toArray t)).alloc (.cells l'.toArray t')).alloc (.cells l''.toArray t'')) :=
  h _ ((((Ext.refl w).alloc _).alloc _).alloc _) ((Blk.new w t l).ext (((Ext.refl _).alloc _).alloc _)) ((Blk.new' (w.alloc (.cells l.toArray t)) t' l' _ (by simp)).ext ((Ext.refl _).alloc _)) (Blk.new' ((w.alloc (.cells l.toArray t)).alloc (.cells l'.toArray t')) t'' l'' _ (by simp))
/-- a store into another box -/
theorem Blk.past4 {w : World} {g k : Nat} {t : TypeId} {l : List Value} (h : Blk w g t l) (hne : g ≠ k) (u0 u1 u2 u3 : Value) : Blk ((((w.setCell ⟨k, 0, none⟩ u0).setCell ⟨k, 1, none⟩ u1).setCell ⟨k, 2, none⟩ u2).setCell ⟨k, 3, none⟩ u3) g t l :=
  (((h.far (p := ⟨k, 0, none⟩) hne u0).far (p := ⟨k, 1, none⟩) hne u1).far (p := ⟨k, 2, none⟩) hne u2).far (p := ⟨k, 3, none⟩) hne u3
theorem Blk.past2 {w : World} {g k : Nat} {t : TypeId} {l : List Value} (h : Blk w g t l) (hne : g ≠ k) (u0 u1 : Value) : Blk ((w.setCell ⟨k, 0, none⟩ u0).setCell ⟨k, 1, none⟩ u1) g t l :=
  (h.far (p := ⟨k, 0, none⟩) hne u0).far (p := ⟨k, 1, none⟩) hne u1
theorem ne1 (g : Nat) : g ≠ g + 1 := by omega
theorem ne2 (g : Nat) : g ≠ g + 1 + 1 := by omega
theorem ne12 (g : Nat) : g + 1 ≠ g + 1 + 1 := by omega
/-- the cells of a box of four -/
theorem Blk.four {w : World} {g : Nat} {t : TypeId} {a b c d : Value} (h : Blk w g t [a, b, c, d]) : w.cell? ⟨g, 0, none⟩ = some a ∧ w.cell? ⟨g, 1, none⟩ = some b ∧ w.cell? ⟨g, 2, none⟩ = some c ∧ w.cell? ⟨g, 3, none⟩ = some d :=
  ⟨h.cell (i := 0) rfl, h.cell (i := 1) rfl, h.cell (i := 2) rfl, h.cell (i := 3) rfl⟩
theorem Blk.free4 {w : World} {g : Nat} {t : TypeId} {l : List Value} (h : Blk w g t l) : w.frozen? ⟨g, 0, none⟩ = false ∧ w.frozen? ⟨g, 1, none⟩ = false ∧ w.frozen? ⟨g, 2, none⟩ = false ∧ w.frozen? ⟨g, 3, none⟩ = false :=
  ⟨h.frozen 0, h.frozen 1, h.frozen 2, h.frozen 3⟩
theorem Blk.two {w : World} {g : Nat} {t : TypeId} {a b : Value} (h : Blk w g t [a, b]) : w.cell? ⟨g, 0, none⟩ = some a ∧ w.cell? ⟨g, 1, none⟩ = some b :=
  ⟨h.cell (i := 0) rfl, h.cell (i := 1) rfl⟩

set_option maxRecDepth 100000 in
set_option maxHeartbeats 4000000 in
theorem whole_any (v : Value) (q : Rat) (w : World) (h : FracV w v q) {e : Nat} (hf : FitQ e q) (he : e ≤ 1000000) :
    Calls Tryz.prog 90 #[v] w fun e w' => e = .returned (.bool (decide (q.den = 1))) ∧ Ext w w' := by
  obtain ⟨b, A, n, c, b', A', n', c', rfl, H, H'⟩ := h.parts
  have FD := Lib.hid (hf.den he)
  have HW := Lib.hid (whole_iff q)
  clear h hf he
  go_enter Tryz.func90, Tryz.ntmps90
  go_wp2_with fail
  refine box1 (P := fun W => Code.wp _ _ _ _ W) fun W HX0 HB => ?_
  obtain ⟨c0, c1, c2, c3⟩ := HB.out.four
  go_region_held3 (fun w' => w'.cell? ⟨w.heap.size, 2, none⟩ = some (.bool b') ∧ w'.cell? ⟨w.heap.size, 3, none⟩ = some (.slice A' n' c')) (first | exact ⟨c2, c3⟩ | exact (HB.out.ext (Ext.refl _).drew).four.2.2 | exact (HB.out.ext ((Ext.refl _).drew.trans hx1)).four.2.2 | exact (HB.out.ext (((Ext.refl _).drew.trans hx1).trans hx2)).four.2.2)
    (first
      | (go_at_call 77; refine (of_any 1 _ (by decide) (by decide)).mono ?_; rintro e w1 ⟨v1, rfl, hv1, hx1⟩)
      | (go_at_call 68; refine (numCompare_any _ _ q.den 1 _ (H'.out.ext (by exact HX0.out.trans ((Ext.refl _).drew.trans hx1))) hv1 FD.out fitz_one).mono ?_; rintro e w2 ⟨rfl, hx2⟩))
  go_wp2
  go_ret
  exact ⟨by rw [HW.out]; rfl, HX0.out.trans (((Ext.refl _).drew.trans hx1).trans hx2)⟩

/-- the end of a method whose result is a fraction in a box of its own -/
theorem ret_frac {fn : Func} {t g : Nat} {w w1 : World} {x0 x1 x2 x3 u0 u1 u2 u3 : Value} {q : Rat} {a : Act} {R : Ending → World → Prop} (hres : fn.results = #[.cell t tFrac]) (ht : a.tmps.getD t undef = .pointer (some ⟨g, 0, none⟩)) (hd : a.defers = [])
    (hB : Blk w1 g tFrac [u0, u1, u2, u3]) (H1 : FracV w1 (.agg #[x0, x1, x2, x3]) q) (hx : Ext w w1) (hg : w.heap.size ≤ g) (hR : ∀ v W', FracV W' v q → Ext w W' → R (.returned v) W') :
    bodyPost Tryz.prog fn R .ret a ((((w1.setCell ⟨g, 0, none⟩ x0).setCell ⟨g, 1, none⟩ x1).setCell ⟨g, 2, none⟩ x2).setCell ⟨g, 3, none⟩ x3) := by
  have hB2 : Blk ((((w1.setCell ⟨g, 0, none⟩ x0).setCell ⟨g, 1, none⟩ x1).setCell ⟨g, 2, none⟩ x2).setCell ⟨g, 3, none⟩ x3) g tFrac [x0, x1, x2, x3] := (((hB.set_ 0 x0).set_ 1 x1).set_ 2 x2).set_ 3 x3
  exact bodyPost_ret (results_cell_row hres a.tmps _ g tFrac #[x0, x1, x2, x3] (0, 0) _ ht hB2 Tryz.underlying78 rfl (by kernel_rfl)) hd (hR _ _ (H1.keep (hB.kept4 (by decide) 0 1 2 3 x0 x1 x2 x3)) ((((hx.setCell hg _).setCell hg _).setCell hg _).setCell hg _))

theorem int_rat_num (z : Int) : ((z : Rat)).num = z := rfl
theorem int_rat_den (z : Int) : ((z : Rat)).den = 1 := rfl
set_option maxRecDepth 100000 in
set_option maxHeartbeats 4000000 in
theorem fwhole_any (v : Value) (z : Int) (w : World) (h : Num w v z) :
    Calls Tryz.prog 91 #[v] w fun e w' => ∃ v', e = .returned v' ∧ FracV w' v' (z : Rat) ∧ Ext w w' := by
  obtain ⟨b, A, n, c, rfl, H⟩ := h.parts
  clear h
  go_enter Tryz.func91, Tryz.ntmps91
  go_wp2_with fail
  refine box2 (P := fun W => Code.wp _ _ _ _ W) fun W HX0 HB HR => ?_
  obtain ⟨c0, c1⟩ := HB.out.two
  go_region_held3 (fun w' => w'.cell? ⟨w.heap.size, 0, none⟩ = some (.bool b) ∧ w'.cell? ⟨w.heap.size, 1, none⟩ = some (.slice A n c)) (first | with_reducible exact ⟨c0, c1⟩ | with_reducible exact HB.out.drew.two | with_reducible exact (HB.out.ext hy1).two | with_reducible exact ((HB.out.ext hy1).past4 (ne1 _) _ _ _ _).two)
    (first | (go_at_call 77; refine (of_any 1 _ (by decide) (by decide)).mono ?_; rintro e w1 ⟨v1, rfl, hv1, hx1⟩; obtain ⟨b1, A1, n1, c1', rfl, HV1⟩ := hv1.parts; have hy1 := (Ext.refl W).drew.trans hx1; have HR1 := Lib.hid (HR.out.ext hy1); obtain ⟨k0, k1, k2, k3⟩ := HR1.out.four; obtain ⟨f0, f1, f2, f3⟩ := HR1.out.free4))
  go_wp2
  exact ret_frac rfl rfl rfl HR1.out (.mk' (H.out.ext (HX0.out.trans hy1)) HV1.out) (HX0.out.trans hy1) (by omega) (fun v W' h1 h2 => ⟨v, rfl, h1, h2⟩)
end Go.Proofs.YtkhmfgkbobblmaaGreatDoor
/- fraction: Of, Sign, Neg, New. -/
namespace Go.Proofs.YtkhmfgkbobblmaaGreatDoor
open Go.RowKit

set_option maxRecDepth 100000 in
set_option maxHeartbeats 4000000 in
theorem fof_any (z : Int) (w : World) (h0 : -9223372036854775808 ≤ z) (h1 : z ≤ 9223372036854775807) :
    Calls Tryz.prog 89 #[.int .i64 z] w fun e w' => ∃ v', e = .returned v' ∧ FracV w' v' (z : Rat) ∧ Ext w w' := by
  have H0 := Lib.hid h0
  have H1 := Lib.hid h1
  clear h0 h1
  go_enter Tryz.func89, Tryz.ntmps89
  go_wp2_with fail
  refine box1 (P := fun W => Calls _ _ _ W _) fun W HX HR => ?_
  refine (of_any z W H0.out H1.out).mono ?_
  rintro e w1 ⟨v1, rfl, hv1, hx1⟩
  go_wp2_with fail
  refine (fwhole_any v1 z w1 hv1).mono ?_
  rintro e w2 ⟨v2, rfl, hv2, hx2⟩
  obtain ⟨b, A, n, c, b', A', n', c', rfl, HA, HA'⟩ := hv2.parts
  have HR2 := Lib.hid (HR.out.ext (hx1.trans hx2))
  obtain ⟨k0, k1, k2, k3⟩ := HR2.out.four
  obtain ⟨f0, f1, f2, f3⟩ := HR2.out.free4
  go_wp2
  exact ret_frac rfl rfl rfl HR2.out hv2 (HX.out.trans (hx1.trans hx2)) (by omega) (fun v W' h1 h2 => ⟨v, rfl, h1, h2⟩)

theorem fsign_any (v : Value) (q : Rat) (w : World) (h : FracV w v q) {e : Nat} (hf : FitQ e q) (he : e ≤ 1000000) :
    Calls Tryz.prog 87 #[v] w fun e w' => e = .returned (.int .i64 q.num.sign) ∧ Ext w w' := by
  obtain ⟨b, A, n, c, b', A', n', c', rfl, H, H'⟩ := h.parts
  have FD := Lib.hid (hf.num he).wide
  clear h hf he
  go_enter Tryz.func87, Tryz.ntmps87
  go_wp2_with fail
  refine box1 (P := fun W => Calls _ _ _ W _) fun W HX HR => ?_
  refine (numSign_any _ q.num W (H.out.ext HX.out) FD.out).mono ?_
  rintro e w1 ⟨rfl, hx1⟩
  go_wp2
  go_ret
  exact ⟨rfl, HX.out.trans hx1⟩

set_option maxRecDepth 100000 in
set_option maxHeartbeats 4000000 in
theorem fneg_any (v : Value) (q : Rat) (w : World) (h : FracV w v q) {e : Nat} (hf : FitQ e q) (he : e ≤ 1000000) :
    Calls Tryz.prog 97 #[v] w fun e w' => ∃ v', e = .returned v' ∧ FracV w' v' (-q) ∧ Ext w w' := by
  obtain ⟨b, A, n, c, b', A', n', c', rfl, H, H'⟩ := h.parts
  have FD := Lib.hid (hf.num he)
  clear h hf he
  go_enter Tryz.func97, Tryz.ntmps97
  go_wp2_with fail
  refine box2 (P := fun W => Code.wp _ _ _ _ W) fun W HX0 HB HR => ?_
  obtain ⟨c0, c1, c2, c3⟩ := HB.out.four
  go_region_held3 (fun w' => w'.cell? ⟨w.heap.size, 0, none⟩ = some (.bool b) ∧ w'.cell? ⟨w.heap.size, 1, none⟩ = some (.slice A n c) ∧ w'.cell? ⟨w.heap.size, 2, none⟩ = some (.bool b') ∧ w'.cell? ⟨w.heap.size, 3, none⟩ = some (.slice A' n' c')) (first | with_reducible exact ⟨c0, c1, c2, c3⟩ | with_reducible exact HB.out.drew.four | with_reducible exact (HB.out.ext hy1).four | with_reducible exact ((HB.out.ext hy1).past4 (ne1 _) _ _ _ _).four)
    (first | (go_at_call 98; refine (numNeg_any _ q.num _ (H.out.ext (by exact HX0.out.drew)) FD.out).mono ?_; rintro e w1 ⟨v1, rfl, hv1, hx1⟩; obtain ⟨b1, A1, n1, c1', rfl, HV1⟩ := hv1.parts; have hy1 := (Ext.refl W).drew.trans hx1; have HR1 := Lib.hid (HR.out.ext hy1); obtain ⟨k0, k1, k2, k3⟩ := HR1.out.four; obtain ⟨f0, f1, f2, f3⟩ := HR1.out.free4))
  go_wp2
  exact ret_frac rfl rfl rfl HR1.out (.mk' (q := -q) HV1.out (H'.out.ext (HX0.out.trans hy1))) (HX0.out.trans hy1) (by omega) (fun v W' h1 h2 => ⟨v, rfl, h1, h2⟩)

/-- what New answers: the quotient in lowest terms -/
theorem divInt_parts (n d : Int) (hd : 0 < d) : (Rat.divInt n d).num = n / (Int.gcd n d : Nat) ∧ ((Rat.divInt n d).den : Int) = d / (Int.gcd n d : Nat) := by
  rw [Rat.num_divInt, Rat.den_divInt, if_neg (by omega), Int.sign_eq_one_of_pos hd, Int.one_mul, Int.gcd_comm d n]
  refine ⟨rfl, ?_⟩
  rw [Int.natCast_ediv]
  congr 1
  omega

/-- a store of two cells into a box: the world by a name -/
theorem put2 {P : World → Prop} {w : World} {g : Nat} {t : TypeId} {x0 x1 u0 u1 : Value} (ht : t ≠ 130) (hB : Blk w g t [x0, x1])
    (h : ∀ W, Hid (Kept 130 w W) → Hid (∀ k t' l, k ≠ g → Blk w k t' l → Blk W k t' l) → Hid (∀ a, Ext a w → a.heap.size ≤ g → Ext a W) → Hid (Blk W g t [u0, u1]) → P W) : P ((w.setCell ⟨g, 0, none⟩ u0).setCell ⟨g, 1, none⟩ u1) :=
  h _ (hB.kept2 ht 0 1 u0 u1) (fun _ _ _ hk hb => hb.past2 hk u0 u1) (fun _ hx hg => (hx.setCell hg _).setCell hg _) ((hB.set_ 0 u0).set_ 1 u1)

set_option maxRecDepth 100000 in
set_option maxHeartbeats 4000000 in
theorem fnew_pos (va vb : Value) (x y : Int) (w : World) (ha : Num w va x) (hb : Num w vb y) (fx : FitZ x) (fy : FitZ y) (hy : 0 < y) :
    Calls Tryz.prog 70 #[va, vb] w fun e w' => ∃ v', e = .returned v' ∧ FracV w' v' (Rat.divInt x y) ∧ Ext w w' := by
  obtain ⟨ba, Aa, na, ca, rfl, HA⟩ := ha.parts
  obtain ⟨bb, Ab, nb, cb, rfl, HB⟩ := hb.parts
  have FX := Lib.hid fx
  have FY := Lib.hid fy
  have HY := Lib.hid hy
  have hs : y.sign = 1 := Int.sign_eq_one_of_pos hy
  clear ha hb fx fy hy
  go_enter Tryz.func70, Tryz.ntmps70
  go_wp2_with fail
  refine box3 (P := fun W => Calls _ _ _ W _) fun W HX0 BA BB BR => ?_
  refine (numSign_any _ y W (HB.out.ext HX0.out) FY.out.wide).mono ?_
  rintro e w1 ⟨rfl, hx1⟩
  rw [hs]
  have BA1 := Lib.hid (BA.out.ext hx1)
  have BB1 := Lib.hid (BB.out.ext hx1)
  have BR1 := Lib.hid (BR.out.ext hx1)
  have HX1 := Lib.hid (HX0.out.trans hx1)
  obtain ⟨a0, a1⟩ := BA1.out.two
  obtain ⟨b0, b1⟩ := BB1.out.two
  clear hx1 BA BB BR HX0 hs
  go_wp2_with fail
  refine (numGcd_any _ _ x y w1 (HA.out.ext HX1.out) (HB.out.ext HX1.out) FX.out FY.out).mono ?_
  rintro e w2 ⟨v2, rfl, hv2, hx2⟩
  obtain ⟨bg, Ag, ng, cg, rfl, HG⟩ := hv2.parts
  go_wp2_with fail
  refine box1 (P := fun W => Code.wp _ _ _ _ W) fun W2 HX2 BG => ?_
  have BA2 := Lib.hid (BA1.out.ext (hx2.trans HX2.out))
  have BB2 := Lib.hid (BB1.out.ext (hx2.trans HX2.out))
  have BR2 := Lib.hid (BR1.out.ext (hx2.trans HX2.out))
  have HXW := Lib.hid (HX1.out.trans (hx2.trans HX2.out))
  have HGW := Lib.hid (hv2.ext HX2.out)
  have hgl : w.heap.size + 1 + 1 < w2.heap.size := (BR1.out.ext hx2).lt
  have HGL := Lib.hid hgl
  have hgp : 0 < Int.gcd x y := Nat.pos_of_ne_zero (fun h => by have := (Int.gcd_eq_zero_iff.1 h).2; have := HY.out; omega)
  have HGP := Lib.hid hgp
  have hgf : FitZ ((Int.gcd x y : Nat) : Int) := FY.out.le (by rw [Int.natAbs_natCast]; exact Nat.le_of_dvd (by have := HY.out; omega) (Int.gcd_dvd_natAbs_right x y))
  have FG := Lib.hid hgf
  clear BA1 BB1 BR1 hx2 hv2 HG hgl hgp hgf a0 a1 b0 b1
  obtain ⟨g0, g1⟩ := BG.out.two
  go_region_held3 (fun w' => w'.cell? ⟨w2.heap.size, 0, none⟩ = some (.bool bg) ∧ w'.cell? ⟨w2.heap.size, 1, none⟩ = some (.slice Ag ng cg)) (first | with_reducible exact ⟨g0, g1⟩ | with_reducible exact BG.out.drew.two | with_reducible exact (BG.out.ext hy3).two | with_reducible exact (BG.out.ext (hy3.trans hx4)).two)
    (first
      | (go_at_call 77; refine (of_any 1 _ (by decide) (by decide)).mono ?_; rintro e w3 ⟨v3, rfl, hv3, hx3⟩; have hy3 := (Ext.refl W2).drew.trans hx3)
      | (go_at_call 68; refine (numCompare_any _ _ (Int.gcd x y : Nat) 1 _ (HGW.out.ext (by exact hy3)) hv3 FG.out fitz_one).mono ?_; rintro e w4 ⟨rfl, hx4⟩))
  all_goals
    have BA4 := Lib.hid (BA2.out.ext (hy3.trans hx4))
    have BB4 := Lib.hid (BB2.out.ext (hy3.trans hx4))
    have BR4 := Lib.hid (BR2.out.ext (hy3.trans hx4))
    have BG4 := Lib.hid (BG.out.ext (hy3.trans hx4))
    have HX4 := Lib.hid (HXW.out.trans (hy3.trans hx4))
    have HG4 := Lib.hid (HGW.out.ext (hy3.trans hx4))
    clear BA2 BB2 BR2 BG HXW HGW hv3 hy3 hx3 hx4
    obtain ⟨a0, a1⟩ := BA4.out.two
    obtain ⟨b0, b1⟩ := BB4.out.two
    obtain ⟨g0, g1⟩ := BG4.out.two
    obtain ⟨k0, k1, k2, k3⟩ := BR4.out.four
    obtain ⟨f0, f1, f2, f3⟩ := BR4.out.free4
    have HD := Lib.hid (divInt_parts x y HY.out)
    by_cases hg1 : Int.gcd x y = 1
    · have ht : ((((Int.gcd x y : Nat) : Int) - 1).sign != 0) = false := by rw [hg1]; rfl
      have HG1 := Lib.hid hg1
      clear hg1
      go_wp2
      refine ret_frac rfl rfl rfl BR4.out (.mk' (q := Rat.divInt x y) ?_ ?_) HX4.out (by omega) (fun v W' h1 h2 => ⟨v, rfl, h1, h2⟩)
      · rw [HD.out.1, HG1.out]; simpa using HA.out.ext HX4.out
      · rw [HD.out.2, HG1.out]; simpa using HB.out.ext HX4.out
    · have ht : ((((Int.gcd x y : Nat) : Int) - 1).sign != 0) = true := by
        have : (((Int.gcd x y : Nat) : Int) - 1).sign ≠ 0 := by rw [Ne, Int.sign_eq_zero_iff_zero]; omega
        simpa using this
      clear hg1
      go_wp2_with fail
      refine (numDiv_any _ _ x (Int.gcd x y : Nat) w4 (HA.out.ext HX4.out) HG4.out FX.out FG.out (by have := HGP.out; omega)).mono ?_
      rintro e w5 ⟨q, r, rfl, hq, hr, hx5⟩
      obtain ⟨bq, Aq, nq, cq, rfl, HQ⟩ := hq.parts
      obtain ⟨br, Ar, nr, cr, rfl, _⟩ := hr.parts
      have BA5 := Lib.hid (BA4.out.ext hx5)
      obtain ⟨a0, a1⟩ := BA5.out.two
      have a2 := BA5.out.frozen 0
      have a3 := BA5.out.frozen 1
      have BB5 := Lib.hid (BB4.out.ext hx5)
      have BG5 := Lib.hid (BG4.out.ext hx5)
      have BR5 := Lib.hid (BR4.out.ext hx5)
      have HX5 := Lib.hid (HX4.out.trans hx5)
      have HG5 := Lib.hid (HG4.out.ext hx5)
      clear BA4 BB4 BG4 BR4 HX4 HG4 hq hr hx5 b0 b1 g0 g1 k0 k1 k2 k3 f0 f1 f2 f3
      go_upto_region 6 with fail
      refine put2 (P := fun W => Code.wp _ _ _ _ W) (by decide) BA5.out fun W6 HK6 HF6 HE6 BA6 => ?_
      have BB6 := Lib.hid (HF6.out _ _ _ (Ne.symm (ne1 _)) BB5.out)
      have BG6 := Lib.hid (HF6.out _ _ _ (by have := HGL.out; omega) BG5.out)
      have BR6 := Lib.hid (HF6.out _ _ _ (Ne.symm (ne2 _)) BR5.out)
      have HX6 := Lib.hid (HE6.out _ HX5.out (Nat.le_refl _))
      have HQ6 := Lib.hid (HQ.out.keep HK6.out)
      have HG6 := Lib.hid (HG5.out.keep HK6.out)
      obtain ⟨b0, b1⟩ := BB6.out.two
      obtain ⟨g0, g1⟩ := BG6.out.two
      clear a0 a1 a2 a3 BA5 BB5 BG5 BR5 HX5 HG5 HQ HK6 HF6 HE6
      go_wp2_with fail
      refine (numDiv_any _ _ y (Int.gcd x y : Nat) W6 (HB.out.ext HX6.out) HG6.out FY.out FG.out (by have := HGP.out; omega)).mono ?_
      rintro e w7 ⟨q7, r7, rfl, hq7, hr7, hx7⟩
      obtain ⟨bq7, Aq7, nq7, cq7, rfl, HQ7⟩ := hq7.parts
      obtain ⟨br7, Ar7, nr7, cr7, rfl, _⟩ := hr7.parts
      have BA7 := Lib.hid (BA6.out.ext hx7)
      have BB7 := Lib.hid (BB6.out.ext hx7)
      have BR7 := Lib.hid (BR6.out.ext hx7)
      have HX7 := Lib.hid (HX6.out.trans hx7)
      have HQ6' := Lib.hid (HQ6.out.ext hx7)
      obtain ⟨b0, b1⟩ := BB7.out.two
      have b2 := BB7.out.frozen 0
      have b3 := BB7.out.frozen 1
      clear BA6 BB6 BG6 BR6 HX6 HG6 HQ6 hq7 hr7 hx7 g0 g1
      go_upto_region 7 with fail
      refine put2 (P := fun W => Code.wp _ _ _ _ W) (by decide) BB7.out fun W8 HK8 HF8 HE8 BB8 => ?_
      have BA8 := Lib.hid (HF8.out _ _ _ (ne1 _) BA7.out)
      have BR8 := Lib.hid (HF8.out _ _ _ (Ne.symm (ne12 _)) BR7.out)
      have HX8 := Lib.hid (HE8.out _ HX7.out (by omega))
      have HN := Lib.hid (HQ6'.out.keep HK8.out)
      have HM := Lib.hid (HQ7.out.keep HK8.out)
      rw [← HD.out.1] at HN
      rw [← HD.out.2] at HM
      obtain ⟨a0, a1⟩ := BA8.out.two
      obtain ⟨b0, b1⟩ := BB8.out.two
      obtain ⟨k0, k1, k2, k3⟩ := BR8.out.four
      obtain ⟨f0, f1, f2, f3⟩ := BR8.out.free4
      clear b2 b3 BA7 BB7 BR7 HX7 HQ6' HQ7 HK8 HF8 HE8
      go_wp2
      exact ret_frac rfl rfl rfl BR8.out (.mk' (q := Rat.divInt x y) HN.out HM.out) HX8.out (by omega) (fun v W' h1 h2 => ⟨v, rfl, h1, h2⟩)
end Go.Proofs.YtkhmfgkbobblmaaGreatDoor
/- fraction: Add, Sub, Mul, Div, Compare, Floor. -/
namespace Go.Proofs.YtkhmfgkbobblmaaGreatDoor
open Go.RowKit

theorem q_den_pos (q : Rat) : 0 < (q.den : Int) := by have := q.den_pos; omega
theorem add_divInt (a b : Rat) : Rat.divInt (a.num * b.den + b.num * a.den) (a.den * b.den) = a + b := by
  rw [Rat.add_def', ← Rat.divInt_ofNat, Int.natCast_mul]
theorem mul_divInt (a b : Rat) : Rat.divInt (a.num * b.num) (a.den * b.den) = a * b := by
  rw [Rat.mul_def', ← Rat.divInt_ofNat, Int.natCast_mul]
theorem div_divInt (a b : Rat) : Rat.divInt (a.num * b.den) (a.den * b.num) = a / b := by
  rw [Rat.div_def, Rat.inv_def]
  conv => rhs; rw [← Rat.num_divInt_den a]
  rw [Rat.divInt_mul_divInt]
theorem divInt_fit {n d : Int} {e : Nat} (hd : 0 < d) (h1 : n.natAbs < 10 ^ e) (h2 : d.natAbs < 10 ^ e) : FitQ e (Rat.divInt n d) := by
  obtain ⟨p1, p2⟩ := divInt_parts n d hd
  refine ⟨?_, ?_⟩
  · rw [p1]
    refine Nat.lt_of_le_of_lt ?_ h1
    rw [Int.natAbs_ediv_of_dvd (Int.gcd_dvd_left ..)]
    exact Nat.div_le_self _ _
  · have : (Rat.divInt n d).den ≤ d.natAbs := by
      have : ((Rat.divInt n d).den : Int) ≤ d := by rw [p2]; exact Int.ediv_le_self _ (by omega)
      omega
    omega
theorem FitQ.add {a b : Rat} {d e : Nat} (ha : FitQ d a) (hb : FitQ e b) : FitQ (d + e + 1) (a + b) := by
  rw [← add_divInt]
  have hd := lt_mul_pow ha.1 hb.2
  have he := lt_mul_pow hb.1 ha.2
  have hq := lt_mul_pow ha.2 hb.2
  have hp : 10 ^ (d + e) < 10 ^ (d + e + 1) := Nat.pow_lt_pow_right (by decide) (by omega)
  refine divInt_fit (Int.mul_pos (q_den_pos a) (q_den_pos b)) ?_ ?_
  · have h1 : (a.num * b.den + b.num * a.den).natAbs ≤ a.num.natAbs * b.den + b.num.natAbs * a.den := by
      refine Nat.le_trans (Int.natAbs_add_le _ _) ?_
      rw [Int.natAbs_mul, Int.natAbs_mul, Int.natAbs_natCast, Int.natAbs_natCast]
      exact Nat.le_refl _
    rw [Nat.add_comm e d] at he
    rw [Nat.pow_succ]
    omega
  · rw [Int.natAbs_mul, Int.natAbs_natCast, Int.natAbs_natCast]; omega
theorem FitQ.mul {a b : Rat} {d e : Nat} (ha : FitQ d a) (hb : FitQ e b) : FitQ (d + e) (a * b) := by
  rw [← mul_divInt]
  have hd := lt_mul_pow ha.1 hb.1
  have hq := lt_mul_pow ha.2 hb.2
  refine divInt_fit (Int.mul_pos (q_den_pos a) (q_den_pos b)) ?_ ?_
  · rw [Int.natAbs_mul]; exact hd
  · rw [Int.natAbs_mul, Int.natAbs_natCast, Int.natAbs_natCast]; exact hq
theorem FitQ.neg {a : Rat} {d : Nat} (ha : FitQ d a) : FitQ d (-a) := ⟨by rw [Rat.neg_num, Int.natAbs_neg]; exact ha.1, by rw [Rat.neg_den]; exact ha.2⟩
theorem FitQ.sub {a b : Rat} {d e : Nat} (ha : FitQ d a) (hb : FitQ e b) : FitQ (d + e + 1) (a - b) := by
  rw [Rat.sub_eq_add_neg]; exact ha.add hb.neg
theorem FitQ.div {a b : Rat} {d e : Nat} (ha : FitQ d a) (hb : FitQ e b) (h0 : 0 < b.num) : FitQ (d + e) (a / b) := by
  rw [← div_divInt]
  have hd := lt_mul_pow ha.1 hb.2
  have hq := lt_mul_pow ha.2 hb.1
  refine divInt_fit (Int.mul_pos (q_den_pos a) h0) ?_ ?_
  · rw [Int.natAbs_mul, Int.natAbs_natCast]; exact hd
  · rw [Int.natAbs_mul, Int.natAbs_natCast]; exact hq
theorem FitZ.mul {x y : Int} {d e : Nat} (hx : x.natAbs < 10 ^ d) (hy : y.natAbs < 10 ^ e) (h : d + e ≤ 1000000) : FitZ (x * y) := ⟨d + e, h, by rw [Int.natAbs_mul]; exact lt_mul_pow hx hy⟩
theorem FitZ.add {x y : Int} {d e : Nat} (hx : x.natAbs < 10 ^ d) (hy : y.natAbs < 10 ^ e) (h : d + e + 1 ≤ 1000000) : FitZ (x + y) := ⟨d + e + 1, h, Nat.lt_of_le_of_lt (Int.natAbs_add_le _ _) (lt_add_pow hx hy)⟩
theorem whole_add {a b : Rat} (ha : a.den = 1) (hb : b.den = 1) : ((a.num + b.num : Int) : Rat) = a + b := by
  rw [← add_divInt, ha, hb, Rat.divInt_eq_div]
  simp only [Rat.intCast_add]
  grind
theorem whole_mul {a b : Rat} (ha : a.den = 1) (hb : b.den = 1) : ((a.num * b.num : Int) : Rat) = a * b := by
  rw [← mul_divInt, ha, hb, Rat.divInt_eq_div]
  simp only [Rat.intCast_mul]
  grind

set_option maxRecDepth 100000 in
set_option maxHeartbeats 4000000 in
theorem fdiv_any (va vb : Value) (p q : Rat) (w : World) (ha : FracV w va p) (hb : FracV w vb q) {d e : Nat} (fa : FitQ d p) (fb : FitQ e q) (he : d + e ≤ 1000000) (hq : 0 < q.num) :
    Calls Tryz.prog 41 #[va, vb] w fun e w' => ∃ v', e = .returned v' ∧ FracV w' v' (p / q) ∧ Ext w w' := by
  obtain ⟨ba, Aa, na, ca, bb, Ab, nb, cb, rfl, HA, HB⟩ := ha.parts
  obtain ⟨bc, Ac, nc, cc, bd, Ad, nd, cd, rfl, HC, HD⟩ := hb.parts
  have FA := Lib.hid (fa.num (by omega))
  have FB := Lib.hid (fa.den (by omega))
  have FC := Lib.hid (fb.num (by omega))
  have FD := Lib.hid (fb.den (by omega))
  have F1 := Lib.hid (FitZ.mul fa.1 (by simpa using fb.2 : ((q.den : Int)).natAbs < _) he)
  have F2 := Lib.hid (FitZ.mul (by simpa using fa.2 : ((p.den : Int)).natAbs < _) fb.1 he)
  have HQ := Lib.hid (Int.mul_pos (q_den_pos p) hq)
  clear ha hb fa fb he hq
  go_enter Tryz.func41, Tryz.ntmps41
  go_wp2_with fail
  refine box3 (P := fun W => Code.wp _ _ _ _ W) fun W HX BA BB BR => ?_
  obtain ⟨a0, a1, a2, a3⟩ := BA.out.four
  obtain ⟨b0, b1, b2, b3⟩ := BB.out.four
  go_region_held3 (fun w' => (w'.cell? ⟨w.heap.size, 0, none⟩ = some (.bool ba) ∧ w'.cell? ⟨w.heap.size, 1, none⟩ = some (.slice Aa na ca) ∧ w'.cell? ⟨w.heap.size, 2, none⟩ = some (.bool bb) ∧ w'.cell? ⟨w.heap.size, 3, none⟩ = some (.slice Ab nb cb)) ∧ w'.cell? ⟨w.heap.size + 1, 0, none⟩ = some (.bool bc) ∧ w'.cell? ⟨w.heap.size + 1, 1, none⟩ = some (.slice Ac nc cc) ∧ w'.cell? ⟨w.heap.size + 1, 2, none⟩ = some (.bool bd) ∧ w'.cell? ⟨w.heap.size + 1, 3, none⟩ = some (.slice Ad nd cd)) (first | with_reducible exact ⟨⟨a0, a1, a2, a3⟩, b0, b1, b2, b3⟩ | with_reducible exact ⟨BA.out.drew.four, BB.out.drew.four⟩ | with_reducible exact ⟨(BA.out.ext hy1).four, (BB.out.ext hy1).four⟩ | with_reducible exact ⟨(BA.out.ext hy2).four, (BB.out.ext hy2).four⟩ | with_reducible exact ⟨(BA.out.ext hy3).four, (BB.out.ext hy3).four⟩ | with_reducible exact ⟨((BA.out.ext hy3).past4 (ne2 _) _ _ _ _).four, ((BB.out.ext hy3).past4 (ne12 _) _ _ _ _).four⟩)
    (first
      | (go_at_call 67; first
          | ((with_reducible show Calls _ _ #[Value.agg #[Value.bool ba, _], _] _ _); refine (numMul_any _ _ p.num q.den _ (HA.out.ext (by exact HX.out.drew)) (HD.out.ext (by exact HX.out.drew)) FA.out FD.out).mono ?_; rintro e w1 ⟨v1, rfl, hv1, hx1⟩; have hy1 := (Ext.refl W).drew.trans hx1)
          | ((with_reducible show Calls _ _ #[Value.agg #[Value.bool bb, _], _] _ _); refine (numMul_any _ _ p.den q.num _ (HB.out.ext (by exact HX.out.trans hy1)) (HC.out.ext (by exact HX.out.trans hy1)) FB.out FC.out).mono ?_; rintro e w2 ⟨v2, rfl, hv2, hx2⟩; have hy2 := hy1.trans hx2))
      | (go_at_call 70; refine (fnew_pos _ _ _ _ _ (hv1.ext (by exact hx2)) hv2 F1.out F2.out HQ.out).mono ?_; rintro e w3 ⟨v3, rfl, hv3, hx3⟩; have hy3 := hy2.trans hx3; obtain ⟨r0, R0, r1, r2, s0, S0, s1, s2, rfl, HR1, HR2⟩ := (hv3).parts; have BR5 := Lib.hid (BR.out.ext hy3); obtain ⟨k0, k1, k2, k3⟩ := BR5.out.four; obtain ⟨f0, f1, f2, f3⟩ := BR5.out.free4))
  all_goals
    go_wp2
    refine ret_frac rfl rfl rfl BR5.out (.mk' HR1.out HR2.out) (HX.out.trans hy3) (by omega) (fun v W' h1 h2 => ⟨v, rfl, ?_, h2⟩)
    rw [← div_divInt]
    exact h1

/-- the sign of a difference -/
def cmpQ (p q : Rat) : Int := (p.num * q.den - q.num * p.den).sign
theorem sign_neg_iff (z : Int) : z.sign < 0 ↔ z < 0 := by
  rcases Int.lt_trichotomy z 0 with h | h | h
  · rw [Int.sign_eq_neg_one_of_neg h]; omega
  · subst h; simp
  · rw [Int.sign_eq_one_of_pos h]; omega
theorem sign_pos_iff (z : Int) : 0 < z.sign ↔ 0 < z := by
  rcases Int.lt_trichotomy z 0 with h | h | h
  · rw [Int.sign_eq_neg_one_of_neg h]; omega
  · subst h; simp
  · rw [Int.sign_eq_one_of_pos h]; omega
theorem cmpQ_lt {p q : Rat} : cmpQ p q < 0 ↔ p < q := by
  unfold cmpQ
  rw [sign_neg_iff, Rat.lt_iff]
  omega
theorem cmpQ_gt {p q : Rat} : 0 < cmpQ p q ↔ q < p := by
  unfold cmpQ
  rw [sign_pos_iff, Rat.lt_iff]
  omega
set_option maxRecDepth 100000 in
set_option maxHeartbeats 4000000 in
theorem fcompare_any (va vb : Value) (p q : Rat) (w : World) (ha : FracV w va p) (hb : FracV w vb q) {d e : Nat} (fa : FitQ d p) (fb : FitQ e q) (he : d + e ≤ 1000000) :
    Calls Tryz.prog 39 #[va, vb] w fun e w' => e = .returned (.int .i64 (cmpQ p q)) ∧ Ext w w' := by
  obtain ⟨ba, Aa, na, ca, bb, Ab, nb, cb, rfl, HA, HB⟩ := ha.parts
  obtain ⟨bc, Ac, nc, cc, bd, Ad, nd, cd, rfl, HC, HD⟩ := hb.parts
  have FA := Lib.hid (fa.num (by omega))
  have FB := Lib.hid (fa.den (by omega))
  have FC := Lib.hid (fb.num (by omega))
  have FD := Lib.hid (fb.den (by omega))
  have F1 := Lib.hid (FitZ.mul fa.1 (by simpa using fb.2 : ((q.den : Int)).natAbs < _) he)
  have F2 := Lib.hid (FitZ.mul fb.1 (by simpa using fa.2 : ((p.den : Int)).natAbs < _) (by omega))
  clear ha hb fa fb he
  go_enter Tryz.func39, Tryz.ntmps39
  go_wp2_with fail
  refine box2 (P := fun W => Code.wp _ _ _ _ W) fun W HX BA BB => ?_
  obtain ⟨a0, a1, a2, a3⟩ := BA.out.four
  obtain ⟨b0, b1, b2, b3⟩ := BB.out.four
  go_region_held3 (fun w' => (w'.cell? ⟨w.heap.size, 0, none⟩ = some (.bool ba) ∧ w'.cell? ⟨w.heap.size, 1, none⟩ = some (.slice Aa na ca) ∧ w'.cell? ⟨w.heap.size, 2, none⟩ = some (.bool bb) ∧ w'.cell? ⟨w.heap.size, 3, none⟩ = some (.slice Ab nb cb)) ∧ w'.cell? ⟨w.heap.size + 1, 0, none⟩ = some (.bool bc) ∧ w'.cell? ⟨w.heap.size + 1, 1, none⟩ = some (.slice Ac nc cc) ∧ w'.cell? ⟨w.heap.size + 1, 2, none⟩ = some (.bool bd) ∧ w'.cell? ⟨w.heap.size + 1, 3, none⟩ = some (.slice Ad nd cd)) (first | with_reducible exact ⟨⟨a0, a1, a2, a3⟩, b0, b1, b2, b3⟩ | with_reducible exact ⟨BA.out.drew.four, BB.out.drew.four⟩ | with_reducible exact ⟨(BA.out.ext hy1).four, (BB.out.ext hy1).four⟩ | with_reducible exact ⟨(BA.out.ext hy2).four, (BB.out.ext hy2).four⟩ | with_reducible exact ⟨(BA.out.ext hy3).four, (BB.out.ext hy3).four⟩)
    (first
      | (go_at_call 67; (with_reducible show Calls _ _ #[Value.agg #[Value.bool ba, _], _] _ _); refine (numMul_any _ _ p.num q.den _ (HA.out.ext (by exact HX.out.drew)) (HD.out.ext (by exact HX.out.drew)) FA.out FD.out).mono ?_; rintro e w1 ⟨v1, rfl, hv1, hx1⟩; have hy1 := (Ext.refl W).drew.trans hx1)
      | (go_at_call 67; (with_reducible show Calls _ _ #[Value.agg #[Value.bool bc, _], _] _ _); refine (numMul_any _ _ q.num p.den _ (HC.out.ext (by exact HX.out.trans hy1)) (HB.out.ext (by exact HX.out.trans hy1)) FC.out FB.out).mono ?_; rintro e w2 ⟨v2, rfl, hv2, hx2⟩; have hy2 := hy1.trans hx2)
      | (go_at_call 68; refine (numCompare_any _ _ _ _ _ (hv1.ext (by exact hx2)) hv2 F1.out F2.out).mono ?_; rintro e w3 ⟨rfl, hx3⟩; have hy3 := hy2.trans hx3))
  all_goals
    go_wp2
    go_ret
    exact ⟨rfl, HX.out.trans hy3⟩

set_option maxRecDepth 100000 in
set_option maxHeartbeats 8000000 in
theorem fmul_any (va vb : Value) (p q : Rat) (w : World) (ha : FracV w va p) (hb : FracV w vb q) {d e : Nat} (fa : FitQ d p) (fb : FitQ e q) (he : d + e + 1 ≤ 1000000) :
    Calls Tryz.prog 64 #[va, vb] w fun e w' => ∃ v', e = .returned v' ∧ FracV w' v' (p * q) ∧ Ext w w' := by
  have HVA := Lib.hid ha
  have HVB := Lib.hid hb
  have HFA := Lib.hid (And.intro fa (show d ≤ 1000000 by omega))
  have HFB := Lib.hid (And.intro fb (show e ≤ 1000000 by omega))
  obtain ⟨ba, Aa, na, ca, bb, Ab, nb, cb, rfl, HA, HB⟩ := ha.parts
  obtain ⟨bc, Ac, nc, cc, bd, Ad, nd, cd, rfl, HC, HD⟩ := hb.parts
  have FA := Lib.hid (fa.num (by omega))
  have FB := Lib.hid (fa.den (by omega))
  have FC := Lib.hid (fb.num (by omega))
  have FD := Lib.hid (fb.den (by omega))
  have F1 := Lib.hid (FitZ.mul fa.1 (by simpa using fb.2 : ((q.den : Int)).natAbs < _) (by omega))
  have F2 := Lib.hid (FitZ.mul fb.1 (by simpa using fa.2 : ((p.den : Int)).natAbs < _) (by omega))
  have F3 := Lib.hid (FitZ.mul (by simpa using fa.2 : ((p.den : Int)).natAbs < _) (by simpa using fb.2 : ((q.den : Int)).natAbs < _) (by omega))
  have F4 := Lib.hid (FitZ.mul fa.1 fb.1 (by omega))
  have HP := Lib.hid (Int.mul_pos (q_den_pos p) (q_den_pos q))
  clear ha hb fa fb he
  go_enter Tryz.func64, Tryz.ntmps64
  go_wp2_with fail
  refine box3 (P := fun W => Calls _ _ _ W _) fun W HX BA BB BR => ?_
  refine (whole_any _ p W (HVA.out.ext HX.out) HFA.out.1 HFA.out.2).mono ?_
  rintro e w1 ⟨rfl, hx1⟩
  have BA1 := Lib.hid (BA.out.ext hx1)
  have BB1 := Lib.hid (BB.out.ext hx1)
  have BR1 := Lib.hid (BR.out.ext hx1)
  have HX1 := Lib.hid (HX.out.trans hx1)
  obtain ⟨b0, b1, b2, b3⟩ := BB1.out.four
  clear BA BB BR HX hx1
  by_cases hp1 : p.den = 1
  · have hd1 : decide (p.den = 1) = true := decide_eq_true hp1
    have HP1 := Lib.hid hp1
    clear hp1
    go_wp2_with fail
    refine (whole_any _ q w1 (HVB.out.ext HX1.out) HFB.out.1 HFB.out.2).mono ?_
    rintro e w2 ⟨rfl, hx2⟩
    have BA2 := Lib.hid (BA1.out.ext hx2)
    have BB2 := Lib.hid (BB1.out.ext hx2)
    have BR2 := Lib.hid (BR1.out.ext hx2)
    have HX2 := Lib.hid (HX1.out.trans hx2)
    obtain ⟨a0, a1, a2, a3⟩ := BA2.out.four
    obtain ⟨b0, b1, b2, b3⟩ := BB2.out.four
    clear BA1 BB1 BR1 HX1 hx2
    by_cases hq1 : q.den = 1
    · have hd2 : decide (q.den = 1) = true := decide_eq_true hq1
      have HQ1 := Lib.hid hq1
      clear hq1
      go_wp2_with fail
      refine (numMul_any _ _ p.num q.num w2 (HA.out.ext HX2.out) (HC.out.ext HX2.out) FA.out FC.out).mono ?_
      rintro e w3 ⟨v3, rfl, hv3, hx3⟩
      go_wp2_with fail
      refine (fwhole_any _ _ w3 hv3).mono ?_
      rintro e w4 ⟨v4, rfl, hv4, hx4⟩
      obtain ⟨r0, R0, r1, r2, s0, S0, s1, s2, rfl, HR1, HR2⟩ := hv4.parts
      have BR5 := Lib.hid (BR2.out.ext (hx3.trans hx4))
      obtain ⟨k0, k1, k2, k3⟩ := BR5.out.four
      obtain ⟨f0, f1, f2, f3⟩ := BR5.out.free4
      go_wp2
      refine ret_frac rfl rfl rfl BR5.out (.mk' HR1.out HR2.out) (HX2.out.trans (hx3.trans hx4)) (by omega) (fun v W' h1 h2 => ⟨v, rfl, ?_, h2⟩)
      rw [← whole_mul HP1.out HQ1.out]
      exact h1
    · have hd2 : decide (q.den = 1) = false := decide_eq_false hq1
      clear hq1
      have BA := BA2
      have BB := BB2
      have BR := BR2
      have HX := HX2
      clear BA2 BB2 BR2 HX2
      go_wp2_with fail
      go_region_held3 (fun w' => (w'.cell? ⟨w.heap.size, 0, none⟩ = some (.bool ba) ∧ w'.cell? ⟨w.heap.size, 1, none⟩ = some (.slice Aa na ca) ∧ w'.cell? ⟨w.heap.size, 2, none⟩ = some (.bool bb) ∧ w'.cell? ⟨w.heap.size, 3, none⟩ = some (.slice Ab nb cb)) ∧ w'.cell? ⟨w.heap.size + 1, 0, none⟩ = some (.bool bc) ∧ w'.cell? ⟨w.heap.size + 1, 1, none⟩ = some (.slice Ac nc cc) ∧ w'.cell? ⟨w.heap.size + 1, 2, none⟩ = some (.bool bd) ∧ w'.cell? ⟨w.heap.size + 1, 3, none⟩ = some (.slice Ad nd cd)) (first | with_reducible exact ⟨⟨a0, a1, a2, a3⟩, b0, b1, b2, b3⟩ | with_reducible exact ⟨BA.out.drew.four, BB.out.drew.four⟩ | with_reducible exact ⟨(BA.out.ext hy3).four, (BB.out.ext hy3).four⟩ | with_reducible exact ⟨(BA.out.ext hy4).four, (BB.out.ext hy4).four⟩ | with_reducible exact ⟨(BA.out.ext hy5).four, (BB.out.ext hy5).four⟩ | with_reducible exact ⟨((BA.out.ext hy5).past4 (ne2 _) _ _ _ _).four, ((BB.out.ext hy5).past4 (ne12 _) _ _ _ _).four⟩)
        (first
          | (go_at_call 67; (with_reducible show Calls _ _ #[Value.agg #[Value.bool ba, _], _] _ _); refine (numMul_any _ _ p.num q.num _ (HA.out.ext (by exact HX.out.drew)) (HC.out.ext (by exact HX.out.drew)) FA.out FC.out).mono ?_; rintro e w3 ⟨v3, rfl, hv3, hx3⟩; have hy3 := (Ext.refl w2).drew.trans hx3)
          | (go_at_call 67; (with_reducible show Calls _ _ #[Value.agg #[Value.bool bb, _], _] _ _); refine (numMul_any _ _ p.den q.den _ (HB.out.ext (by exact HX.out.trans hy3)) (HD.out.ext (by exact HX.out.trans hy3)) FB.out FD.out).mono ?_; rintro e w4 ⟨v4, rfl, hv4, hx4⟩; have hy4 := hy3.trans hx4)
          | (go_at_call 70; refine (fnew_pos _ _ _ _ _ (hv3.ext (by exact hx4)) hv4 F4.out F3.out HP.out).mono ?_; rintro e w5 ⟨v5, rfl, hv5, hx5⟩; have hy5 := hy4.trans hx5; obtain ⟨r0, R0, r1, r2, s0, S0, s1, s2, rfl, HR1, HR2⟩ := (hv5).parts; have BR5 := Lib.hid (BR.out.ext hy5); obtain ⟨k0, k1, k2, k3⟩ := BR5.out.four; obtain ⟨f0, f1, f2, f3⟩ := BR5.out.free4))
      all_goals
        go_wp2
        refine ret_frac rfl rfl rfl BR5.out (.mk' HR1.out HR2.out) (HX.out.trans hy5) (by omega) (fun v W' h1 h2 => ⟨v, rfl, ?_, h2⟩)
        rw [← mul_divInt]
        exact h1
  · have hd1 : decide (p.den = 1) = false := decide_eq_false hp1
    clear hp1
    have BA := BA1
    have BB := BB1
    have BR := BR1
    have HX := HX1
    clear BA1 BB1 BR1 HX1
    obtain ⟨a0, a1, a2, a3⟩ := BA.out.four
    go_wp2_with fail
    go_region_held3 (fun w' => (w'.cell? ⟨w.heap.size, 0, none⟩ = some (.bool ba) ∧ w'.cell? ⟨w.heap.size, 1, none⟩ = some (.slice Aa na ca) ∧ w'.cell? ⟨w.heap.size, 2, none⟩ = some (.bool bb) ∧ w'.cell? ⟨w.heap.size, 3, none⟩ = some (.slice Ab nb cb)) ∧ w'.cell? ⟨w.heap.size + 1, 0, none⟩ = some (.bool bc) ∧ w'.cell? ⟨w.heap.size + 1, 1, none⟩ = some (.slice Ac nc cc) ∧ w'.cell? ⟨w.heap.size + 1, 2, none⟩ = some (.bool bd) ∧ w'.cell? ⟨w.heap.size + 1, 3, none⟩ = some (.slice Ad nd cd)) (first | with_reducible exact ⟨⟨a0, a1, a2, a3⟩, b0, b1, b2, b3⟩ | with_reducible exact ⟨BA.out.drew.four, BB.out.drew.four⟩ | with_reducible exact ⟨(BA.out.ext hy3).four, (BB.out.ext hy3).four⟩ | with_reducible exact ⟨(BA.out.ext hy4).four, (BB.out.ext hy4).four⟩ | with_reducible exact ⟨(BA.out.ext hy5).four, (BB.out.ext hy5).four⟩ | with_reducible exact ⟨((BA.out.ext hy5).past4 (ne2 _) _ _ _ _).four, ((BB.out.ext hy5).past4 (ne12 _) _ _ _ _).four⟩)
      (first
        | (go_at_call 67; (with_reducible show Calls _ _ #[Value.agg #[Value.bool ba, _], _] _ _); refine (numMul_any _ _ p.num q.num _ (HA.out.ext (by exact HX.out.drew)) (HC.out.ext (by exact HX.out.drew)) FA.out FC.out).mono ?_; rintro e w3 ⟨v3, rfl, hv3, hx3⟩; have hy3 := (Ext.refl w1).drew.trans hx3)
        | (go_at_call 67; (with_reducible show Calls _ _ #[Value.agg #[Value.bool bb, _], _] _ _); refine (numMul_any _ _ p.den q.den _ (HB.out.ext (by exact HX.out.trans hy3)) (HD.out.ext (by exact HX.out.trans hy3)) FB.out FD.out).mono ?_; rintro e w4 ⟨v4, rfl, hv4, hx4⟩; have hy4 := hy3.trans hx4)
        | (go_at_call 70; refine (fnew_pos _ _ _ _ _ (hv3.ext (by exact hx4)) hv4 F4.out F3.out HP.out).mono ?_; rintro e w5 ⟨v5, rfl, hv5, hx5⟩; have hy5 := hy4.trans hx5; obtain ⟨r0, R0, r1, r2, s0, S0, s1, s2, rfl, HR1, HR2⟩ := (hv5).parts; have BR5 := Lib.hid (BR.out.ext hy5); obtain ⟨k0, k1, k2, k3⟩ := BR5.out.four; obtain ⟨f0, f1, f2, f3⟩ := BR5.out.free4))
    all_goals
      go_wp2
      refine ret_frac rfl rfl rfl BR5.out (.mk' HR1.out HR2.out) (HX.out.trans hy5) (by omega) (fun v W' h1 h2 => ⟨v, rfl, ?_, h2⟩)
      rw [← mul_divInt]
      exact h1
theorem FitQ.addZ {p q : Rat} {d e : Nat} (fa : FitQ d p) (fb : FitQ e q) (he : d + e + 1 ≤ 1000000) : FitZ (p.num * q.den + q.num * p.den) := by
  refine ⟨d + e + 1, he, ?_⟩
  have h1 := lt_mul_pow fa.1 fb.2
  have h2 := lt_mul_pow fb.1 fa.2
  rw [Nat.add_comm e d] at h2
  refine Nat.lt_of_le_of_lt (Int.natAbs_add_le _ _) ?_
  rw [Int.natAbs_mul, Int.natAbs_mul, Int.natAbs_natCast, Int.natAbs_natCast, Nat.pow_succ]
  omega
set_option maxRecDepth 100000 in
set_option maxHeartbeats 8000000 in
theorem fadd_any (va vb : Value) (p q : Rat) (w : World) (ha : FracV w va p) (hb : FracV w vb q) {d e : Nat} (fa : FitQ d p) (fb : FitQ e q) (he : d + e + 1 ≤ 1000000) :
    Calls Tryz.prog 65 #[va, vb] w fun e w' => ∃ v', e = .returned v' ∧ FracV w' v' (p + q) ∧ Ext w w' := by
  have HVA := Lib.hid ha
  have HVB := Lib.hid hb
  have HFA := Lib.hid (And.intro fa (show d ≤ 1000000 by omega))
  have HFB := Lib.hid (And.intro fb (show e ≤ 1000000 by omega))
  obtain ⟨ba, Aa, na, ca, bb, Ab, nb, cb, rfl, HA, HB⟩ := ha.parts
  obtain ⟨bc, Ac, nc, cc, bd, Ad, nd, cd, rfl, HC, HD⟩ := hb.parts
  have FA := Lib.hid (fa.num (by omega))
  have FB := Lib.hid (fa.den (by omega))
  have FC := Lib.hid (fb.num (by omega))
  have FD := Lib.hid (fb.den (by omega))
  have F1 := Lib.hid (FitZ.mul fa.1 (by simpa using fb.2 : ((q.den : Int)).natAbs < _) (by omega))
  have F2 := Lib.hid (FitZ.mul fb.1 (by simpa using fa.2 : ((p.den : Int)).natAbs < _) (by omega))
  have F3 := Lib.hid (FitZ.mul (by simpa using fa.2 : ((p.den : Int)).natAbs < _) (by simpa using fb.2 : ((q.den : Int)).natAbs < _) (by omega))
  have F4 := Lib.hid (fa.addZ fb he)
  have HP := Lib.hid (Int.mul_pos (q_den_pos p) (q_den_pos q))
  clear ha hb fa fb he
  go_enter Tryz.func65, Tryz.ntmps65
  go_wp2_with fail
  refine box3 (P := fun W => Calls _ _ _ W _) fun W HX BA BB BR => ?_
  refine (whole_any _ p W (HVA.out.ext HX.out) HFA.out.1 HFA.out.2).mono ?_
  rintro e w1 ⟨rfl, hx1⟩
  have BA1 := Lib.hid (BA.out.ext hx1)
  have BB1 := Lib.hid (BB.out.ext hx1)
  have BR1 := Lib.hid (BR.out.ext hx1)
  have HX1 := Lib.hid (HX.out.trans hx1)
  obtain ⟨b0, b1, b2, b3⟩ := BB1.out.four
  clear BA BB BR HX hx1
  by_cases hp1 : p.den = 1
  · have hd1 : decide (p.den = 1) = true := decide_eq_true hp1
    have HP1 := Lib.hid hp1
    clear hp1
    go_wp2_with fail
    refine (whole_any _ q w1 (HVB.out.ext HX1.out) HFB.out.1 HFB.out.2).mono ?_
    rintro e w2 ⟨rfl, hx2⟩
    have BA2 := Lib.hid (BA1.out.ext hx2)
    have BB2 := Lib.hid (BB1.out.ext hx2)
    have BR2 := Lib.hid (BR1.out.ext hx2)
    have HX2 := Lib.hid (HX1.out.trans hx2)
    obtain ⟨a0, a1, a2, a3⟩ := BA2.out.four
    obtain ⟨b0, b1, b2, b3⟩ := BB2.out.four
    clear BA1 BB1 BR1 HX1 hx2
    by_cases hq1 : q.den = 1
    · have hd2 : decide (q.den = 1) = true := decide_eq_true hq1
      have HQ1 := Lib.hid hq1
      clear hq1
      go_wp2_with fail
      refine (numAdd_any _ _ p.num q.num w2 (HA.out.ext HX2.out) (HC.out.ext HX2.out) FA.out FC.out).mono ?_
      rintro e w3 ⟨v3, rfl, hv3, hx3⟩
      go_wp2_with fail
      refine (fwhole_any _ _ w3 hv3).mono ?_
      rintro e w4 ⟨v4, rfl, hv4, hx4⟩
      obtain ⟨r0, R0, r1, r2, s0, S0, s1, s2, rfl, HR1, HR2⟩ := hv4.parts
      have BR5 := Lib.hid (BR2.out.ext (hx3.trans hx4))
      obtain ⟨k0, k1, k2, k3⟩ := BR5.out.four
      obtain ⟨f0, f1, f2, f3⟩ := BR5.out.free4
      go_wp2
      refine ret_frac rfl rfl rfl BR5.out (.mk' HR1.out HR2.out) (HX2.out.trans (hx3.trans hx4)) (by omega) (fun v W' h1 h2 => ⟨v, rfl, ?_, h2⟩)
      rw [← whole_add HP1.out HQ1.out]
      exact h1
    · have hd2 : decide (q.den = 1) = false := decide_eq_false hq1
      clear hq1
      have BA := BA2
      have BB := BB2
      have BR := BR2
      have HX := HX2
      clear BA2 BB2 BR2 HX2
      go_wp2_with fail
      go_region_held3 (fun w' => (w'.cell? ⟨w.heap.size, 0, none⟩ = some (.bool ba) ∧ w'.cell? ⟨w.heap.size, 1, none⟩ = some (.slice Aa na ca) ∧ w'.cell? ⟨w.heap.size, 2, none⟩ = some (.bool bb) ∧ w'.cell? ⟨w.heap.size, 3, none⟩ = some (.slice Ab nb cb)) ∧ w'.cell? ⟨w.heap.size + 1, 0, none⟩ = some (.bool bc) ∧ w'.cell? ⟨w.heap.size + 1, 1, none⟩ = some (.slice Ac nc cc) ∧ w'.cell? ⟨w.heap.size + 1, 2, none⟩ = some (.bool bd) ∧ w'.cell? ⟨w.heap.size + 1, 3, none⟩ = some (.slice Ad nd cd)) (first | with_reducible exact ⟨⟨a0, a1, a2, a3⟩, b0, b1, b2, b3⟩ | with_reducible exact ⟨BA.out.drew.four, BB.out.drew.four⟩ | with_reducible exact ⟨(BA.out.ext hy3).four, (BB.out.ext hy3).four⟩ | with_reducible exact ⟨(BA.out.ext hy4).four, (BB.out.ext hy4).four⟩ | with_reducible exact ⟨(BA.out.ext hy5).four, (BB.out.ext hy5).four⟩ | with_reducible exact ⟨(BA.out.ext hy6).four, (BB.out.ext hy6).four⟩ | with_reducible exact ⟨(BA.out.ext hy7).four, (BB.out.ext hy7).four⟩ | with_reducible exact ⟨((BA.out.ext hy7).past4 (ne2 _) _ _ _ _).four, ((BB.out.ext hy7).past4 (ne12 _) _ _ _ _).four⟩)
        (first
          | (go_at_call 67; (with_reducible show Calls _ _ #[Value.agg #[Value.bool ba, _], _] _ _); refine (numMul_any _ _ p.num q.den _ (HA.out.ext (by exact HX.out.drew)) (HD.out.ext (by exact HX.out.drew)) FA.out FD.out).mono ?_; rintro e w3 ⟨v3, rfl, hv3, hx3⟩; have hy3 := (Ext.refl w2).drew.trans hx3)
          | (go_at_call 67; (with_reducible show Calls _ _ #[Value.agg #[Value.bool bc, _], _] _ _); refine (numMul_any _ _ q.num p.den _ (HC.out.ext (by exact HX.out.trans hy3)) (HB.out.ext (by exact HX.out.trans hy3)) FC.out FB.out).mono ?_; rintro e w4 ⟨v4, rfl, hv4, hx4⟩; have hy4 := hy3.trans hx4)
          | (go_at_call 92; refine (numAdd_any _ _ _ _ _ (hv3.ext (by exact hx4)) hv4 F1.out F2.out).mono ?_; rintro e w5 ⟨v5, rfl, hv5, hx5⟩; have hy5 := hy4.trans hx5)
          | (go_at_call 67; (with_reducible show Calls _ _ #[Value.agg #[Value.bool bb, _], _] _ _); refine (numMul_any _ _ p.den q.den _ (HB.out.ext (by exact HX.out.trans hy5)) (HD.out.ext (by exact HX.out.trans hy5)) FB.out FD.out).mono ?_; rintro e w6 ⟨v6, rfl, hv6, hx6⟩; have hy6 := hy5.trans hx6)
          | (go_at_call 70; refine (fnew_pos _ _ _ _ _ (hv5.ext (by exact hx6)) hv6 F4.out F3.out HP.out).mono ?_; rintro e w7 ⟨v7, rfl, hv7, hx7⟩; have hy7 := hy6.trans hx7; obtain ⟨r0, R0, r1, r2, s0, S0, s1, s2, rfl, HR1, HR2⟩ := (hv7).parts; have BR5 := Lib.hid (BR.out.ext hy7); obtain ⟨k0, k1, k2, k3⟩ := BR5.out.four; obtain ⟨f0, f1, f2, f3⟩ := BR5.out.free4))
      all_goals
        go_wp2
        refine ret_frac rfl rfl rfl BR5.out (.mk' HR1.out HR2.out) (HX.out.trans hy7) (by omega) (fun v W' h1 h2 => ⟨v, rfl, ?_, h2⟩)
        rw [← add_divInt]
        exact h1
  · have hd1 : decide (p.den = 1) = false := decide_eq_false hp1
    clear hp1
    have BA := BA1
    have BB := BB1
    have BR := BR1
    have HX := HX1
    clear BA1 BB1 BR1 HX1
    obtain ⟨a0, a1, a2, a3⟩ := BA.out.four
    go_wp2_with fail
    go_region_held3 (fun w' => (w'.cell? ⟨w.heap.size, 0, none⟩ = some (.bool ba) ∧ w'.cell? ⟨w.heap.size, 1, none⟩ = some (.slice Aa na ca) ∧ w'.cell? ⟨w.heap.size, 2, none⟩ = some (.bool bb) ∧ w'.cell? ⟨w.heap.size, 3, none⟩ = some (.slice Ab nb cb)) ∧ w'.cell? ⟨w.heap.size + 1, 0, none⟩ = some (.bool bc) ∧ w'.cell? ⟨w.heap.size + 1, 1, none⟩ = some (.slice Ac nc cc) ∧ w'.cell? ⟨w.heap.size + 1, 2, none⟩ = some (.bool bd) ∧ w'.cell? ⟨w.heap.size + 1, 3, none⟩ = some (.slice Ad nd cd)) (first | with_reducible exact ⟨⟨a0, a1, a2, a3⟩, b0, b1, b2, b3⟩ | with_reducible exact ⟨BA.out.drew.four, BB.out.drew.four⟩ | with_reducible exact ⟨(BA.out.ext hy3).four, (BB.out.ext hy3).four⟩ | with_reducible exact ⟨(BA.out.ext hy4).four, (BB.out.ext hy4).four⟩ | with_reducible exact ⟨(BA.out.ext hy5).four, (BB.out.ext hy5).four⟩ | with_reducible exact ⟨(BA.out.ext hy6).four, (BB.out.ext hy6).four⟩ | with_reducible exact ⟨(BA.out.ext hy7).four, (BB.out.ext hy7).four⟩ | with_reducible exact ⟨((BA.out.ext hy7).past4 (ne2 _) _ _ _ _).four, ((BB.out.ext hy7).past4 (ne12 _) _ _ _ _).four⟩)
      (first
        | (go_at_call 67; (with_reducible show Calls _ _ #[Value.agg #[Value.bool ba, _], _] _ _); refine (numMul_any _ _ p.num q.den _ (HA.out.ext (by exact HX.out.drew)) (HD.out.ext (by exact HX.out.drew)) FA.out FD.out).mono ?_; rintro e w3 ⟨v3, rfl, hv3, hx3⟩; have hy3 := (Ext.refl w1).drew.trans hx3)
        | (go_at_call 67; (with_reducible show Calls _ _ #[Value.agg #[Value.bool bc, _], _] _ _); refine (numMul_any _ _ q.num p.den _ (HC.out.ext (by exact HX.out.trans hy3)) (HB.out.ext (by exact HX.out.trans hy3)) FC.out FB.out).mono ?_; rintro e w4 ⟨v4, rfl, hv4, hx4⟩; have hy4 := hy3.trans hx4)
        | (go_at_call 92; refine (numAdd_any _ _ _ _ _ (hv3.ext (by exact hx4)) hv4 F1.out F2.out).mono ?_; rintro e w5 ⟨v5, rfl, hv5, hx5⟩; have hy5 := hy4.trans hx5)
        | (go_at_call 67; (with_reducible show Calls _ _ #[Value.agg #[Value.bool bb, _], _] _ _); refine (numMul_any _ _ p.den q.den _ (HB.out.ext (by exact HX.out.trans hy5)) (HD.out.ext (by exact HX.out.trans hy5)) FB.out FD.out).mono ?_; rintro e w6 ⟨v6, rfl, hv6, hx6⟩; have hy6 := hy5.trans hx6)
        | (go_at_call 70; refine (fnew_pos _ _ _ _ _ (hv5.ext (by exact hx6)) hv6 F4.out F3.out HP.out).mono ?_; rintro e w7 ⟨v7, rfl, hv7, hx7⟩; have hy7 := hy6.trans hx7; obtain ⟨r0, R0, r1, r2, s0, S0, s1, s2, rfl, HR1, HR2⟩ := (hv7).parts; have BR5 := Lib.hid (BR.out.ext hy7); obtain ⟨k0, k1, k2, k3⟩ := BR5.out.four; obtain ⟨f0, f1, f2, f3⟩ := BR5.out.free4))
    all_goals
      go_wp2
      refine ret_frac rfl rfl rfl BR5.out (.mk' HR1.out HR2.out) (HX.out.trans hy7) (by omega) (fun v W' h1 h2 => ⟨v, rfl, ?_, h2⟩)
      rw [← add_divInt]
      exact h1

set_option maxRecDepth 100000 in
set_option maxHeartbeats 8000000 in
theorem fsub_any (va vb : Value) (p q : Rat) (w : World) (ha : FracV w va p) (hb : FracV w vb q) {d e : Nat} (fa : FitQ d p) (fb : FitQ e q) (he : d + e + 1 ≤ 1000000) :
    Calls Tryz.prog 69 #[va, vb] w fun e w' => ∃ v', e = .returned v' ∧ FracV w' v' (p - q) ∧ Ext w w' := by
  have HVA := Lib.hid ha
  have HVB := Lib.hid hb
  have HFA := Lib.hid fa
  have HFB := Lib.hid fb
  have HE := Lib.hid he
  obtain ⟨ba, Aa, na, ca, bb, Ab, nb, cb, rfl, HA, HB⟩ := ha.parts
  obtain ⟨bc, Ac, nc, cc, bd, Ad, nd, cd, rfl, HC, HD⟩ := hb.parts
  clear ha hb fa fb he
  go_enter Tryz.func69, Tryz.ntmps69
  go_wp2_with fail
  refine box3 (P := fun W => Code.wp _ _ _ _ W) fun W HX BA BB BR => ?_
  obtain ⟨a0, a1, a2, a3⟩ := BA.out.four
  obtain ⟨b0, b1, b2, b3⟩ := BB.out.four
  go_region_held3 (fun w' => (w'.cell? ⟨w.heap.size, 0, none⟩ = some (.bool ba) ∧ w'.cell? ⟨w.heap.size, 1, none⟩ = some (.slice Aa na ca) ∧ w'.cell? ⟨w.heap.size, 2, none⟩ = some (.bool bb) ∧ w'.cell? ⟨w.heap.size, 3, none⟩ = some (.slice Ab nb cb)) ∧ w'.cell? ⟨w.heap.size + 1, 0, none⟩ = some (.bool bc) ∧ w'.cell? ⟨w.heap.size + 1, 1, none⟩ = some (.slice Ac nc cc) ∧ w'.cell? ⟨w.heap.size + 1, 2, none⟩ = some (.bool bd) ∧ w'.cell? ⟨w.heap.size + 1, 3, none⟩ = some (.slice Ad nd cd)) (first | with_reducible exact ⟨⟨a0, a1, a2, a3⟩, b0, b1, b2, b3⟩ | with_reducible exact ⟨BA.out.drew.four, BB.out.drew.four⟩ | with_reducible exact ⟨(BA.out.ext hy1).four, (BB.out.ext hy1).four⟩ | with_reducible exact ⟨(BA.out.ext hy2).four, (BB.out.ext hy2).four⟩ | with_reducible exact ⟨((BA.out.ext hy2).past4 (ne2 _) _ _ _ _).four, ((BB.out.ext hy2).past4 (ne12 _) _ _ _ _).four⟩)
    (first
      | (go_at_call 97; refine (fneg_any _ q _ (HVB.out.ext (by exact HX.out.drew)) HFB.out (by have := HE.out; omega)).mono ?_; rintro e w1 ⟨v1, rfl, hv1, hx1⟩; have hy1 := (Ext.refl W).drew.trans hx1)
      | (go_at_call 65; refine (fadd_any _ _ p (-q) _ (HVA.out.ext (by exact HX.out.trans hy1)) hv1 HFA.out HFB.out.neg HE.out).mono ?_; rintro e w2 ⟨v2, rfl, hv2, hx2⟩; have hy2 := hy1.trans hx2; obtain ⟨r0, R0, r1, r2, s0, S0, s1, s2, rfl, HR1, HR2⟩ := (hv2).parts; have BR5 := Lib.hid (BR.out.ext hy2); obtain ⟨k0, k1, k2, k3⟩ := BR5.out.four; obtain ⟨f0, f1, f2, f3⟩ := BR5.out.free4))
  all_goals
    go_wp2
    refine ret_frac rfl rfl rfl BR5.out (.mk' HR1.out HR2.out) (HX.out.trans hy2) (by omega) (fun v W' h1 h2 => ⟨v, rfl, ?_, h2⟩)
    rw [Rat.sub_eq_add_neg]
    exact h1
end Go.Proofs.YtkhmfgkbobblmaaGreatDoor
