/- joinlearnref01: Minus, Add, Sub. joinlearnref01: Mul. joinlearnref01: times. joinlearnref01: Quo. joinlearnref01: Gcd. -/
import Derived.Test.YthalpbjkkfkheaaGreatDoorRefX
import Derived.IntWalk
/- joinlearnref01: Minus, Add, Sub. -/
namespace Go.Proofs.YthalpbjkkfkheaaGreatDoor
open Go.RowKit

theorem BigV.inv {w : World} {b : Bool} {A : Option Addr} {n c : Nat} {z : Int} (h : BigV w (.agg #[.bool b, .slice A n c]) z) : b = decide (z < 0) ∧ n = (toL z.natAbs).length ∧ Cap A n c ∧ LmI w A (toL z.natAbs) := by
  obtain ⟨A', c', e, hc, hs⟩ := h
  simp at e
  obtain ⟨rfl, rfl, rfl, rfl⟩ := e
  exact ⟨rfl, rfl, hc, hs⟩
structure RBox3 (W : World) (g : Nat) (x0 x1 y0 y1 z0 z1 : Value) : Prop where
  a : Blk W g tBig [x0, x1]
  b : Blk W (g + 1) tBig [y0, y1]
  r : Blk W (g + 1 + 1) tBig [z0, z1]
theorem RBox3.new (w : World) (x0 x1 y0 y1 z0 z1 : Value) : RBox3 (((w.alloc (Obj.cells #[x0, x1] tBig)).alloc (Obj.cells #[y0, y1] tBig)).alloc (Obj.cells #[z0, z1] tBig)) w.heap.size x0 x1 y0 y1 z0 z1 :=
  ⟨((Blk.new' w tBig [x0, x1] _ rfl).alloc _).alloc _, (Blk.new' (w.alloc (Obj.cells #[x0, x1] tBig)) tBig [y0, y1] _ (by simp)).alloc _, Blk.new' ((w.alloc (Obj.cells #[x0, x1] tBig)).alloc (Obj.cells #[y0, y1] tBig)) tBig [z0, z1] _ (by simp)⟩
section
variable {W W' : World} {g : Nat} {x0 x1 y0 y1 z0 z1 : Value}
theorem RBox3.ext (h : RBox3 W g x0 x1 y0 y1 z0 z1) (hx : Ext W W') : RBox3 W' g x0 x1 y0 y1 z0 z1 := ⟨h.a.ext hx, h.b.ext hx, h.r.ext hx⟩
theorem RBox3.drew (h : RBox3 W g x0 x1 y0 y1 z0 z1) : RBox3 W.drew g x0 x1 y0 y1 z0 z1 := ⟨h.a, h.b, h.r⟩
theorem RBox3.drewN (h : RBox3 W g x0 x1 y0 y1 z0 z1) (n : Nat) : RBox3 (W.drewN n) g x0 x1 y0 y1 z0 z1 := ⟨h.a, h.b, h.r⟩
theorem RBox3.put (h : RBox3 W g x0 x1 y0 y1 z0 z1) (u v : Value) : RBox3 ((W.setCell ⟨g + 1 + 1, 0, none⟩ u).setCell ⟨g + 1 + 1, 1, none⟩ v) g x0 x1 y0 y1 u v :=
  ⟨(h.a.far (p := ⟨g + 1 + 1, 0, none⟩) (by show g ≠ g + 1 + 1; omega) u).far (p := ⟨g + 1 + 1, 1, none⟩) (by show g ≠ g + 1 + 1; omega) v, (h.b.far (p := ⟨g + 1 + 1, 0, none⟩) (by show g + 1 ≠ g + 1 + 1; omega) u).far (p := ⟨g + 1 + 1, 1, none⟩) (by show g + 1 ≠ g + 1 + 1; omega) v, (h.r.set_ 0 u).set_ 1 v⟩
/-- the cells that a region reads -/
theorem RBox3.cells (h : RBox3 W g x0 x1 y0 y1 z0 z1) : W.cell? ⟨g, 0, none⟩ = some x0 ∧ W.cell? ⟨g, 1, none⟩ = some x1 ∧ W.cell? ⟨g + 1, 0, none⟩ = some y0 ∧ W.cell? ⟨g + 1, 1, none⟩ = some y1 :=
  ⟨h.a.cell (i := 0) rfl, h.a.cell (i := 1) rfl, h.b.cell (i := 0) rfl, h.b.cell (i := 1) rfl⟩
/-- what the store of the result asks -/
theorem RBox3.res (h : RBox3 W g x0 x1 y0 y1 z0 z1) : W.cell? ⟨g + 1 + 1, 0, none⟩ = some z0 ∧ W.cell? ⟨g + 1 + 1, 1, none⟩ = some z1 ∧ W.frozen? ⟨g + 1 + 1, 0, none⟩ = false ∧ W.frozen? ⟨g + 1 + 1, 1, none⟩ = false :=
  ⟨h.r.cell (i := 0) rfl, h.r.cell (i := 1) rfl, h.r.frozen 0, h.r.frozen 1⟩
end


/-- limbs that a helper hands back, to be trimmed -/
def Limbs (w : World) (v : Value) (n : Nat) : Prop := ∃ A l c, v = .slice A l.length c ∧ Cap A l.length c ∧ Dig l ∧ LmI w A l ∧ l.length ≤ 100000000 ∧ val l = n
theorem Limbs.parts {w : World} {v : Value} {n : Nat} (h : Limbs w v n) : ∃ A m c, v = .slice A m c ∧ Hid (Limbs w (.slice A m c) n) := by
  obtain ⟨A, l, c, rfl, r⟩ := h
  exact ⟨A, _, c, rfl, ⟨A, l, c, rfl, r⟩⟩
theorem Limbs.ext {w w' : World} {v : Value} {n : Nat} (h : Limbs w v n) (hx : Ext w w') : Limbs w' v n := by
  obtain ⟨A, l, c, rfl, h1, h2, h3, r⟩ := h
  exact ⟨A, l, c, rfl, h1, h2, h3.ext hx, r⟩
theorem rtrim_at (neg : Bool) (s : Value) (n : Nat) (w : World) (h : Limbs w s n) :
    Calls Tryz.prog 71 #[.agg #[.bool neg, s]] w fun e w' => ∃ v', e = .returned v' ∧ BigV w' v' (signed neg n) ∧ Ext w w' := by
  obtain ⟨A, l, c, rfl, hc, hd, hs, hl, rfl⟩ := h
  exact rtrim_any _ neg l w ⟨A, c, rfl, hc, hd, hs⟩ hl
theorem rminus_at {w : World} {ba bb : Bool} {Aa Ab : Option Addr} {na ca nb cb : Nat} {x y : Int} (ha : BigV w (.agg #[.bool ba, .slice Aa na ca]) x) (hb : BigV w (.agg #[.bool bb, .slice Ab nb cb]) y) (fx : FitZ' x) (fy : FitZ' y) (hle : y.natAbs ≤ x.natAbs) :
    Calls Tryz.prog 85 #[.slice Aa na ca, .slice Ab nb cb] w fun e w' => ∃ v', e = .returned v' ∧ Limbs w' v' (x.natAbs - y.natAbs) ∧ Ext w w' := by
  obtain ⟨_, rfl, hcp, h1⟩ := ha.inv
  obtain ⟨_, rfl, _, h2⟩ := hb.inv
  unfold FitZ' Fit at fx fy
  refine (rminus_any Aa Ab ca cb _ _ w (by omega) (by omega) hcp (toL_canon _) (toL_canon _) (by rw [val_toL, val_toL]; exact hle) h1 h2).mono ?_
  rintro e w' ⟨A, r, c, hc, _, hr, rfl, hd, hv, hs, hx⟩
  exact ⟨_, rfl, ⟨A, r, c, rfl, hc, hd, hs, by omega, by rw [hv, val_toL, val_toL]⟩, hx⟩
theorem rsize_at {w : World} {ba bb : Bool} {Aa Ab : Option Addr} {na ca nb cb : Nat} {x y : Int} (ha : BigV w (.agg #[.bool ba, .slice Aa na ca]) x) (hb : BigV w (.agg #[.bool bb, .slice Ab nb cb]) y) (fx : FitZ' x) (fy : FitZ' y) :
    Calls Tryz.prog 61 #[.slice Aa na ca, .slice Ab nb cb] w fun e w' => e = .returned (.int .i64 (cmpN x.natAbs y.natAbs)) ∧ ∃ n, w' = w.drewN n := by
  obtain ⟨_, rfl, _, h1⟩ := ha.inv
  obtain ⟨_, rfl, _, h2⟩ := hb.inv
  unfold FitZ' Fit at fx fy
  have := rsize_any Aa Ab ca cb _ _ w (by omega) (by omega) (toL_canon x.natAbs) (toL_canon y.natAbs) h1 h2
  rwa [val_toL, val_toL] at this
theorem toL_pos {n : Nat} : decide (0 < (toL n).length) = decide (0 < n) := by
  rcases Nat.eq_zero_or_pos n with h | h
  · subst h; rfl
  · have : (toL n).length ≠ 0 := fun h0 => by have := toL_eq_nil.1 (List.eq_nil_of_length_eq_zero h0); omega
    simp; omega
end Go.Proofs.YthalpbjkkfkheaaGreatDoor
/- joinlearnref01: Mul. -/
namespace Go.Proofs.YthalpbjkkfkheaaGreatDoor
open Go.RowKit

theorem mul_outer2 {p r a b : List Nat} {i k : Nat} (hk : b.length ≤ k) (hr : r.length = i + b.length) (hv : val r = val (a.take i) * val b)
    (h : val p + B9 ^ (i + k) * 0 = val (r.take (i + k)) + B9 ^ i * (limb a i * val (b.take k))) : val p = val (a.take (i + 1)) * val b := by
  rw [List.take_of_length_le (by omega), List.take_of_length_le hk, hv, Nat.mul_zero, Nat.add_zero] at h
  rw [h, val_take_getD a i, Nat.add_mul, Nat.mul_assoc]
theorem make_ints (m1 m2 n : Nat) (e : n = m1 + m2 + 1) (h : n ≤ 1000000000) (w : World) :
    (Instr.makeSlice tIs (.int .i64 ((m1 : Int) + m2 + 1)) (.int .i64 ((m1 : Int) + m2 + 1))).run Tryz.prog w = .ok (.slice (some ⟨w.heap.size, 0, none⟩) n n) (w.alloc (.cells (i64s (pad [] n)).toArray tI)) := by
  obtain ⟨i0, hi, hz0, hz1, hz2⟩ := info_parts int_info
  have e' : ((m1 : Int) + m2 + 1) = (n : Int) := by omega
  rw [e']
  have hr := run_make (P := Tryz.prog) w tIs tI i0 (.int .i64 0) Tryz.underlying22 hi hz0 .i64 .i64 (n : Int) (n : Int) (by omega) (Int.le_refl _) (by rw [hz2]; omega) (by omega)
  simp only [Int.toNat_natCast, hz1, Nat.mul_one, Value.cells, madeCells_one] at hr
  rw [hr, pad_nil, i64s, List.map_replicate]
  rfl
theorem ilimb_at {w : World} {g i : Nat} {l : List Nat} (h : Blk w g tI (i64s l)) (hi : i < l.length) : w.cell? ⟨g, i, none⟩ = some (.int .i64 (limb l i : Nat)) :=
  h.cell (by rw [i64s_get hi, limb_of hi])
theorem ilimb_set {w : World} {g i x : Nat} {l : List Nat} {z : Int} (h : Blk w g tI (i64s l)) (hz : z = x) : Blk (w.setCell ⟨g, i, none⟩ (.int .i64 z)) g tI (i64s (l.set i x)) := by
  have := h.set_ i (.int .i64 z)
  rw [i64s, List.map_set, ← i64s, ← hz]
  exact this
theorem rbox4 {P : World → Prop} {w : World} {x0 x1 y0 y1 z0 z1 : Value} {t : TypeId} {l : List Value} (h : ∀ W, Hid (Ext w W) → Hid (RBox3 W w.heap.size x0 x1 y0 y1 z0 z1) → Hid (Blk W (w.heap.size + 1 + 1 + 1) t l) → P W) :
    P ((((w.alloc (.cells #[x0, x1] tBig)).alloc (.cells #[y0, y1] tBig)).alloc (.cells #[z0, z1] tBig)).alloc (.cells l.toArray t)) :=
  h _ (((((Ext.refl w).alloc _).alloc _).alloc _).alloc _) ((RBox3.new w x0 x1 y0 y1 z0 z1).ext ((Ext.refl _).alloc _)) (Blk.new' (((w.alloc (.cells #[x0, x1] tBig)).alloc (.cells #[y0, y1] tBig)).alloc (.cells #[z0, z1] tBig)) t l _ (by simp))
/-- mul's boxes and its row, below which nothing turns -/
abbrev MBox (W : World) (g : Nat) (ba : Bool) (Aa : Option Addr) (na ca : Nat) (bb : Bool) (Ab : Option Addr) (nb cb : Nat) : Prop := RBox3 W g (.bool ba) (.slice Aa na ca) (.bool bb) (.slice Ab nb cb) (.bool false) (.slice none 0 0)
theorem RBox3.setRow {W : World} {g : Nat} {x0 x1 y0 y1 z0 z1 : Value} (h : RBox3 W g x0 x1 y0 y1 z0 z1) (i : Nat) (u : Value) : RBox3 (W.setCell ⟨g + 1 + 1 + 1, i, none⟩ u) g x0 x1 y0 y1 z0 z1 :=
  ⟨h.a.far (p := ⟨g + 1 + 1 + 1, i, none⟩) (by show g ≠ g + 1 + 1 + 1; omega) u, h.b.far (p := ⟨g + 1 + 1 + 1, i, none⟩) (by show g + 1 ≠ g + 1 + 1 + 1; omega) u, h.r.far (p := ⟨g + 1 + 1 + 1, i, none⟩) (by show g + 1 + 1 ≠ g + 1 + 1 + 1; omega) u⟩

end Go.Proofs.YthalpbjkkfkheaaGreatDoor
/- joinlearnref01: times. -/
namespace Go.Proofs.YthalpbjkkfkheaaGreatDoor
open Go.RowKit

/-- the slice v holds the limbs of n -/
def NatI (w : World) (v : Value) (n : Nat) : Prop := ∃ A c, v = .slice A (toL n).length c ∧ Cap A (toL n).length c ∧ LmI w A (toL n)
theorem NatI.ext {w w' : World} {v : Value} {n : Nat} (h : NatI w v n) (hx : Ext w w') : NatI w' v n := by
  obtain ⟨A, c, rfl, hc, hs⟩ := h
  exact ⟨A, c, rfl, hc, hs.ext hx⟩
theorem NatI.parts {w : World} {v : Value} {n : Nat} (h : NatI w v n) : ∃ A m c, v = .slice A m c ∧ m = (toL n).length ∧ Hid (NatI w (.slice A m c) n) := by
  obtain ⟨A, c, rfl, r⟩ := h
  exact ⟨A, _, c, rfl, rfl, ⟨A, c, rfl, r⟩⟩
theorem BigV.nat {w : World} {b : Bool} {A : Option Addr} {m c : Nat} {z : Int} (h : BigV w (.agg #[.bool b, .slice A m c]) z) : NatI w (.slice A m c) z.natAbs := by
  obtain ⟨_, rfl, hc, hs⟩ := h.inv
  exact ⟨A, c, rfl, hc, hs⟩
theorem NatI.limbs {w : World} {v : Value} {n : Nat} (h : NatI w v n) (hf : Fit n) : Limbs w v n := by
  obtain ⟨A, c, rfl, hc, hs⟩ := h
  unfold Fit at hf
  exact ⟨A, toL n, c, rfl, hc, (toL_canon n).1, hs, by omega, val_toL n⟩
theorem NatI.nil (w : World) : NatI w (.slice none 0 0) 0 := ⟨none, 0, rfl, ⟨Nat.le_refl _, fun _ => rfl⟩, Sl.nil⟩
theorem field_L (b : Bool) (A : Option Addr) (n c : Nat) : ∀ w : World, (Instr.field tBig (.agg #[.bool b, .slice A n c]) 1).run Tryz.prog w = .ok (.slice A n c) w := fun _ => by kernel_rfl
theorem times_round {r a : List Nat} {k c n t : Nat} (hr : r.length = k) (h : val r + B9 ^ k * c = val (a.take k) * n) (ht : t = c + limb a k * n) :
    val (r ++ [t % B9]) + B9 ^ (k + 1) * (t / B9) = val (a.take (k + 1)) * n := by
  rw [val_snoc, hr, val_take_getD a k, Nat.pow_succ, Nat.mul_assoc, Nat.add_assoc, ← Nat.mul_add, Nat.mod_add_div, ht, Nat.mul_add, Nat.add_mul, ← h]
  rw [Nat.mul_assoc]
  omega
theorem rsize_nat {w : World} {va vb : Value} {a b : Nat} (ha : NatI w va a) (hb : NatI w vb b) (fa : Fit a) (fb : Fit b) :
    Calls Tryz.prog 61 #[va, vb] w fun e w' => e = .returned (.int .i64 (cmpN a b)) ∧ ∃ n, w' = w.drewN n := by
  obtain ⟨Aa, ca, rfl, _, h1⟩ := ha
  obtain ⟨Ab, cb, rfl, _, h2⟩ := hb
  unfold Fit at fa fb
  have := rsize_any Aa Ab ca cb _ _ w (by omega) (by omega) (toL_canon a) (toL_canon b) h1 h2
  rwa [val_toL, val_toL] at this
theorem rminus_nat {w : World} {va vb : Value} {a b : Nat} (ha : NatI w va a) (hb : NatI w vb b) (fa : Fit a) (fb : Fit b) (hle : b ≤ a) :
    Calls Tryz.prog 85 #[va, vb] w fun e w' => ∃ v', e = .returned v' ∧ Limbs w' v' (a - b) ∧ Ext w w' := by
  obtain ⟨Aa, ca, rfl, hcp, h1⟩ := ha
  obtain ⟨Ab, cb, rfl, _, h2⟩ := hb
  unfold Fit at fa fb
  refine (rminus_any Aa Ab ca cb _ _ w (by omega) (by omega) hcp (toL_canon _) (toL_canon _) (by rw [val_toL, val_toL]; exact hle) h1 h2).mono ?_
  rintro e w' ⟨A, r, c, hc, _, hr, rfl, hd, hv, hs, hx⟩
  exact ⟨_, rfl, ⟨A, r, c, rfl, hc, hd, hs, by omega, by rw [hv, val_toL, val_toL]⟩, hx⟩

set_option maxRecDepth 100000 in
set_option maxHeartbeats 8000000 in
theorem rtimes_any (va : Value) (an n : Nat) (w : World) (ha : NatI w va an) (hf : Fit an) (hn : n < 1000000000) :
    Calls Tryz.prog 84 #[va, .int .i64 n] w fun e w' => ∃ v', e = .returned v' ∧ NatI w' v' (an * n) ∧ Ext w w' := by
  obtain ⟨A1, c1, rfl, _, s1⟩ := ha
  have S1 := Lib.hid s1
  have CA := Lib.hid (toL_canon an)
  have VA := Lib.hid (val_toL an)
  unfold Fit at hf
  generalize toL an = a at *
  clear s1
  go_enter Tryz.func84, Tryz.ntmps84
  go_wp2
  go_loopw [5, 6, 7] (fun v5 v6 v7 wr => ∃ (k c : Nat) (r : List Nat), k ≤ a.length + 1 ∧ (k = a.length + 1 → c = 0) ∧ v7 = .int .i64 k ∧ v6 = .int .i64 c ∧ c < 1000000000 ∧ r.length = k ∧ Dig r ∧ Hid (val r + B9 ^ k * c = val (a.take k) * n) ∧ Hid (wr.ownsRow w.heap.size tI 1 v5 k (i64s r)) ∧ Hid (Ext w wr)) (fun _ _ v7 _ => a.length + 1 - (RowKit.intOf v7).toNat)
  case atStart => exact ⟨0, 0, [], Nat.zero_le _, by omega, rfl, rfl, by omega, rfl, Dig.nil, by simp [Hid], World.ownsRow_nil _ _ _ _, Ext.refl w⟩
  case round =>
    obtain ⟨k, c, r, hk, hkc, rfl, rfl, hc, hr, hd, HV, HO, HX⟩ := hrel
    have HR := Lib.hid hr
    have HD := Lib.hid hd
    clear hr hd
    obtain ⟨t, ht⟩ : ∃ t, t = c + limb a k * n := ⟨_, rfl⟩
    have HA := Lib.hid (times_round HR.out HV.out ht)
    by_cases hka : k < a.length
    · obtain ⟨g1, o1, rfl, _, hcell1⟩ := (S1.out.ext HX.out).at_ (i64s_get hka)
      rw [← limb_of hka] at hcell1
      have hxa := CA.out.1.getD k
      have hxy := mul_limb_le hxa (show n < B9 from hn)
      have hxi : (limb a k : Int) * (n : Int) ≤ 999999998000000001 := by rw [← Int.natCast_mul]; omega
      have hxi0 : 0 ≤ (limb a k : Int) * (n : Int) := Int.mul_nonneg (by omega) (by omega)
      have HTI : Hid ((c : Int) + (limb a k : Int) * (n : Int) = t) := by rw [Hid, ht, Int.natCast_add, Int.natCast_mul]
      have ht1 : t ≤ 999999999999999999 := by omega
      unfold B9 at hxa
      clear ht hxy
      generalize limb a k = x at *
      have hp1 : ((c : Int) + x * n) % 1000000000 = ((t % B9 : Nat) : Int) := by rw [HTI.out]; unfold B9; omega
      have hq1 : ((c : Int) + x * n) / 1000000000 = ((t / B9 : Nat) : Int) := by rw [HTI.out]; unfold B9; omega
      have htq : t / B9 < 1000000000 := by unfold B9; omega
      have htp : t % B9 < 1000000000 := Nat.mod_lt _ (by decide)
      have HDS := Lib.hid (HD.out.snoc (x := t % B9) (Nat.mod_lt _ (by decide)))
      generalize t % B9 = p at *
      generalize t / B9 = q at *
      go_wp2_with (at_builtin; refine wpList_app1 rfl _ _ tIs rfl w.heap.size int_slice _ _ _ rfl HO.out #[.int .i64 (p : Int)] 1 1 rfl rfl rfl (by omega) HX.out.size ?_)
      intro v' w3 ho3 hg3 _
      have HX3 : Hid (Ext w w3) := Below.grown HX.out hg3 HX.out.size (fun k hk => (HO.out.lt k hk).1)
      have HO3 : Hid (w3.ownsRow w.heap.size tI 1 v' (k + 1) (i64s (r ++ [p]))) := by
        rw [Hid, i64s_snoc]
        exact ho3
      clear ho3 hg3 hp1
      go_wp2
      go_roundw
      case rel => exact ⟨k + 1, q, r ++ [p], by omega, by omega, by go_num, by first | rfl | exact congrArg _ hq1 | exact congrArg _ (by omega), htq, by simp [HR.out], HDS.out, HA, HO3, HX3⟩
      case measure => simp [RowKit.intOf]; omega
    · have hz := limb_beyond (l := a) (k := k) (by omega)
      rw [hz, Nat.zero_mul, Nat.add_zero] at ht
      by_cases hc0 : 0 < c
      · have HTI : Hid ((c : Int) = t) := by rw [Hid, ht]
        have HQ0 : Hid (t / B9 = 0) := by rw [ht]; unfold Hid B9; omega
        have ht1 : t ≤ 999999999999999999 := by omega
        clear ht hz
        have hp1 : (c : Int) % 1000000000 = ((t % B9 : Nat) : Int) := by rw [HTI.out]; unfold B9; omega
        have hq1 : (c : Int) / 1000000000 = ((t / B9 : Nat) : Int) := by rw [HTI.out]; unfold B9; omega
        have htq : t / B9 < 1000000000 := by unfold B9; omega
        have htp : t % B9 < 1000000000 := Nat.mod_lt _ (by decide)
        have HDS := Lib.hid (HD.out.snoc (x := t % B9) (Nat.mod_lt _ (by decide)))
        generalize t % B9 = p at *
        generalize t / B9 = q at *
        go_wp2_with (at_builtin; refine wpList_app1 rfl _ _ tIs rfl w.heap.size int_slice _ _ _ rfl HO.out #[.int .i64 (p : Int)] 1 1 rfl rfl rfl (by omega) HX.out.size ?_)
        intro v' w3 ho3 hg3 _
        have HX3 : Hid (Ext w w3) := Below.grown HX.out hg3 HX.out.size (fun k hk => (HO.out.lt k hk).1)
        have HO3 : Hid (w3.ownsRow w.heap.size tI 1 v' (k + 1) (i64s (r ++ [p]))) := by
          rw [Hid, i64s_snoc]
          exact ho3
        clear ho3 hg3 hp1
        go_wp2
        go_roundw
        case rel => exact ⟨k + 1, q, r ++ [p], by omega, (fun _ => HQ0.out), by go_num, by first | rfl | exact congrArg _ hq1 | exact congrArg _ (by omega), htq, by simp [HR.out], HDS.out, HA, HO3, HX3⟩
        case measure => simp [RowKit.intOf]; omega
      · obtain rfl : c = 0 := by omega
        have HE : Hid (val r = an * n) := by
          have := HV.out
          rw [List.take_of_length_le (by omega), VA.out] at this
          rw [Hid]
          omega
        obtain ⟨A, c', rfl, hc', _, hsl⟩ := own_parts HO.out
        have HLM : Hid (Limbs wr (.slice A k c') (an * n)) := by
          have e := HR.out
          subst e
          exact ⟨A, r, c', rfl, own_cap HO.out, HD.out, hsl, by omega, HE.out⟩
        clear hsl ht hz HA
        go_wp2_with fail
        refine (rtrim_at false _ _ wr HLM.out).mono ?_
        rintro e w2 ⟨v2, rfl, hv2, hx2⟩
        obtain ⟨b2, A2, n2, c2', rfl, HV2⟩ := hv2.parts
        have HN2 := Lib.hid HV2.out.nat
        rw [signed_natAbs] at HN2
        clear hv2
        have hfd := field_L b2 A2 n2 c2'
        go_wp2
        go_ret
        exact ⟨_, rfl, HN2.out, HX.out.trans hx2⟩
end Go.Proofs.YthalpbjkkfkheaaGreatDoor
/- joinlearnref01: Quo. -/
namespace Go.Proofs.YthalpbjkkfkheaaGreatDoor
open Go.RowKit

theorem rbox5 {P : World → Prop} {w : World} {a0 a1 b0 b1 c0 c1 d0 d1 : Value} {t : TypeId} {l : List Value} (h : ∀ W, Hid (Ext w W) → Hid (Blk W w.heap.size tBig [a0, a1]) → Hid (Blk W (w.heap.size + 1) tBig [b0, b1]) → Hid (Blk W (w.heap.size + 1 + 1) tBig [c0, c1]) → Hid (Blk W (w.heap.size + 1 + 1 + 1) tBig [d0, d1]) → Hid (Blk W (w.heap.size + 1 + 1 + 1 + 1) t l) → P W) :
    P (((((w.alloc (.cells #[a0, a1] tBig)).alloc (.cells #[b0, b1] tBig)).alloc (.cells #[c0, c1] tBig)).alloc (.cells #[d0, d1] tBig)).alloc (.cells l.toArray t)) := by
  have h4 : ∀ W, Blk W w.heap.size tBig [a0, a1] ∧ Blk W (w.heap.size + 1) tBig [b0, b1] ∧ Blk W (w.heap.size + 1 + 1) tBig [c0, c1] → ∀ o, Blk (W.alloc o) w.heap.size tBig [a0, a1] ∧ Blk (W.alloc o) (w.heap.size + 1) tBig [b0, b1] ∧ Blk (W.alloc o) (w.heap.size + 1 + 1) tBig [c0, c1] := fun W hW o => ⟨hW.1.alloc o, hW.2.1.alloc o, hW.2.2.alloc o⟩
  have h3 : Blk (((w.alloc (.cells #[a0, a1] tBig)).alloc (.cells #[b0, b1] tBig)).alloc (.cells #[c0, c1] tBig)) w.heap.size tBig [a0, a1] ∧ Blk (((w.alloc (.cells #[a0, a1] tBig)).alloc (.cells #[b0, b1] tBig)).alloc (.cells #[c0, c1] tBig)) (w.heap.size + 1) tBig [b0, b1] ∧ Blk (((w.alloc (.cells #[a0, a1] tBig)).alloc (.cells #[b0, b1] tBig)).alloc (.cells #[c0, c1] tBig)) (w.heap.size + 1 + 1) tBig [c0, c1] :=
    ⟨((Blk.new w tBig [a0, a1]).alloc _).alloc _, (Blk.new' (w.alloc (.cells #[a0, a1] tBig)) tBig [b0, b1] _ (by simp)).alloc _, Blk.new' ((w.alloc (.cells #[a0, a1] tBig)).alloc (.cells #[b0, b1] tBig)) tBig [c0, c1] _ (by simp)⟩
  have h5 := h4 _ (h4 _ h3 (.cells #[d0, d1] tBig)) (.cells l.toArray t)
  refine h _ ((((((Ext.refl w).alloc _).alloc _).alloc _).alloc _).alloc _) h5.1 h5.2.1 h5.2.2 ?_ ?_
  · exact (Blk.new' (((w.alloc (.cells #[a0, a1] tBig)).alloc (.cells #[b0, b1] tBig)).alloc (.cells #[c0, c1] tBig)) tBig [d0, d1] _ (by simp)).alloc _
  · exact Blk.new' ((((w.alloc (.cells #[a0, a1] tBig)).alloc (.cells #[b0, b1] tBig)).alloc (.cells #[c0, c1] tBig)).alloc (.cells #[d0, d1] tBig)) t l _ (by simp)
theorem make_int1 (n : Nat) (h : n ≤ 1000000000) (w : World) :
    (Instr.makeSlice tIs (.int .i64 (n : Int)) (.int .i64 (n : Int))).run Tryz.prog w = .ok (.slice (some ⟨w.heap.size, 0, none⟩) n n) (w.alloc (.cells (i64s (List.replicate n 0)).toArray tI)) := by
  obtain ⟨i0, hi, hz0, hz1, hz2⟩ := info_parts int_info
  have hr := run_make (P := Tryz.prog) w tIs tI i0 (.int .i64 0) Tryz.underlying22 hi hz0 .i64 .i64 (n : Int) (n : Int) (by omega) (Int.le_refl _) (by rw [hz2]; omega) (by omega)
  simp only [Int.toNat_natCast, hz1, Nat.mul_one, Value.cells, madeCells_one] at hr
  rw [hr, i64s, List.map_replicate]
  rfl
theorem Blk.below {B : Nat} {W wr : World} {g : Nat} {t : TypeId} {l : List Value} (h : Blk W g t l) (hb : Below B W wr) (hg : g < B) : Blk wr g t l := (hb.block g hg).trans h
/-- a slice of its own, of one element -/
theorem own_one (w : World) (e : TypeId) (u : Value) (base : Nat) (hb : base ≤ w.heap.size) : (w.alloc (.cells #[u] e)).ownsRow base e 1 (.slice (some ⟨w.heap.size, 0, none⟩) 1 1) 1 [u] :=
  ⟨rfl, .inr ⟨w.heap.size, 1, #[u], rfl, hb, heap_alloc_new w _, Nat.le_refl _, by unfold maxLen; omega, rfl, rfl⟩⟩
/-- the slice v holds the limbs of n, in a block from B on -/
def NatF (w : World) (B : Nat) (v : Value) (n : Nat) : Prop := ∃ A m c, v = .slice A m c ∧ NatI w (.slice A m c) n ∧ ∀ ad, A = some ad → B ≤ ad.block
theorem NatF.nil (w : World) (B : Nat) : NatF w B (.slice none 0 0) 0 := ⟨none, 0, 0, rfl, NatI.nil w, fun _ h => by cases h⟩
theorem NatF.ext {w w' : World} {B : Nat} {v : Value} {n : Nat} (h : NatF w B v n) (hx : Ext w w') : NatF w' B v n := by
  obtain ⟨A, m, c, rfl, h1, h2⟩ := h
  exact ⟨A, m, c, rfl, h1.ext hx, h2⟩
theorem NatF.far {w : World} {B : Nat} {v : Value} {n : Nat} (h : NatF w B v n) {p : Addr} (hp : p.block < B) (u : Value) : NatF (w.setCell p u) B v n := by
  obtain ⟨A, m, c, rfl, ⟨A', c', e, hc, hs⟩, h2⟩ := h
  injection e with e1 e2 e3
  subst e1 e2 e3
  refine ⟨A, _, c, rfl, ⟨A, c, rfl, hc, ?_⟩, h2⟩
  intro j u' hu
  obtain ⟨g, o, cur, fr, hA, hb, hcu⟩ := hs j u' hu
  have hB := h2 _ hA
  exact ⟨g, o, cur, fr, hA, (Below.heap_setCell w p u g (by show g ≠ p.block; have : B ≤ g := hB; omega)).trans hb, hcu⟩
theorem rminus_natF {w : World} {va vb : Value} {a b : Nat} (ha : NatI w va a) (hb : NatI w vb b) (fa : Fit a) (fb : Fit b) (hle : b ≤ a) :
    Calls Tryz.prog 85 #[va, vb] w fun e w' => ∃ A l c, e = .returned (.slice A l.length c) ∧ Cap A l.length c ∧ (∀ ad, A = some ad → w.heap.size ≤ ad.block) ∧ Dig l ∧ LmI w' A l ∧ l.length ≤ 100000000 ∧ val l = a - b ∧ Ext w w' := by
  obtain ⟨Aa, ca, rfl, hcp, h1⟩ := ha
  obtain ⟨Ab, cb, rfl, _, h2⟩ := hb
  unfold Fit at fa fb
  refine (rminus_any Aa Ab ca cb _ _ w (by omega) (by omega) hcp (toL_canon _) (toL_canon _) (by rw [val_toL, val_toL]; exact hle) h1 h2).mono ?_
  rintro e w' ⟨A, r, c, hc, hfr, hr, rfl, hd, hv, hs, hx⟩
  exact ⟨A, r, c, rfl, hc, hfr, hd, hs, by omega, by rw [hv, val_toL, val_toL], hx⟩
/-- quo's boxes: two arguments and two results -/
structure QBox (W : World) (g : Nat) (x0 x1 y0 y1 q0 q1 r0 r1 : Value) : Prop where
  a : Blk W g tBig [x0, x1]
  b : Blk W (g + 1) tBig [y0, y1]
  q : Blk W (g + 1 + 1) tBig [q0, q1]
  r : Blk W (g + 1 + 1 + 1) tBig [r0, r1]
section
variable {W W' : World} {g : Nat} {x0 x1 y0 y1 q0 q1 r0 r1 : Value}
theorem QBox.ext (h : QBox W g x0 x1 y0 y1 q0 q1 r0 r1) (hx : Ext W W') : QBox W' g x0 x1 y0 y1 q0 q1 r0 r1 := ⟨h.a.ext hx, h.b.ext hx, h.q.ext hx, h.r.ext hx⟩
theorem QBox.drew (h : QBox W g x0 x1 y0 y1 q0 q1 r0 r1) : QBox W.drew g x0 x1 y0 y1 q0 q1 r0 r1 := ⟨h.a, h.b, h.q, h.r⟩
theorem QBox.putq (h : QBox W g x0 x1 y0 y1 q0 q1 r0 r1) (u v : Value) : QBox ((W.setCell ⟨g + 1 + 1, 0, none⟩ u).setCell ⟨g + 1 + 1, 1, none⟩ v) g x0 x1 y0 y1 u v r0 r1 :=
  ⟨h.a.past2 (by omega) u v, h.b.past2 (by omega) u v, (h.q.set_ 0 u).set_ 1 v, h.r.past2 (by omega) u v⟩
theorem QBox.putr (h : QBox W g x0 x1 y0 y1 q0 q1 r0 r1) (u v : Value) : QBox ((W.setCell ⟨g + 1 + 1 + 1, 0, none⟩ u).setCell ⟨g + 1 + 1 + 1, 1, none⟩ v) g x0 x1 y0 y1 q0 q1 u v :=
  ⟨h.a.past2 (by omega) u v, h.b.past2 (by omega) u v, h.q.past2 (by omega) u v, (h.r.set_ 0 u).set_ 1 v⟩
theorem QBox.cells (h : QBox W g x0 x1 y0 y1 q0 q1 r0 r1) : W.cell? ⟨g, 0, none⟩ = some x0 ∧ W.cell? ⟨g + 1, 0, none⟩ = some y0 := ⟨h.a.cell (i := 0) rfl, h.b.cell (i := 0) rfl⟩
theorem QBox.resq (h : QBox W g x0 x1 y0 y1 q0 q1 r0 r1) : W.cell? ⟨g + 1 + 1, 0, none⟩ = some q0 ∧ W.cell? ⟨g + 1 + 1, 1, none⟩ = some q1 ∧ W.frozen? ⟨g + 1 + 1, 0, none⟩ = false ∧ W.frozen? ⟨g + 1 + 1, 1, none⟩ = false := ⟨h.q.cell (i := 0) rfl, h.q.cell (i := 1) rfl, h.q.frozen 0, h.q.frozen 1⟩
theorem QBox.resr (h : QBox W g x0 x1 y0 y1 q0 q1 r0 r1) : W.cell? ⟨g + 1 + 1 + 1, 0, none⟩ = some r0 ∧ W.cell? ⟨g + 1 + 1 + 1, 1, none⟩ = some r1 ∧ W.frozen? ⟨g + 1 + 1 + 1, 0, none⟩ = false ∧ W.frozen? ⟨g + 1 + 1 + 1, 1, none⟩ = false := ⟨h.r.cell (i := 0) rfl, h.r.cell (i := 1) rfl, h.r.frozen 0, h.r.frozen 1⟩
end
theorem load_big {w : World} {g : Nat} {b : Bool} {A : Option Addr} {n c : Nat} (hB : Blk w g tBig [.bool b, .slice A n c]) : (loadVar tBig ⟨g, 0, none⟩).run Tryz.prog w = .ok (.agg #[.bool b, .slice A n c]) w :=
  run_loadVar_row w g tBig tBig #[.bool b, .slice A n c] (0, 0) _ hB Tryz.underlying94 rfl (by kernel_rfl)
/-- what Quo answers -/
def QuoOf (q r : Int) (w : World) (e : Ending) (w' : World) : Prop := ∃ v1 v2, e = .returned (.tuple #[v1, v2]) ∧ BigV w' v1 q ∧ BigV w' v2 r ∧ Ext w w'
theorem ret_quo {fn : Func} {t t' g : Nat} {w w1 : World} {b1 b2 : Bool} {A1 A2 : Option Addr} {n1 c1 n2 c2 : Nat} {x y : Int} {a : Act} {x0 x1 y0 y1 : Value} (hres : fn.results = #[.cell t tBig, .cell t' tBig]) (ht : a.tmps.getD t undef = .pointer (some ⟨g, 0, none⟩)) (ht' : a.tmps.getD t' undef = .pointer (some ⟨g + 1, 0, none⟩)) (hd : a.defers = [])
    (hB : Blk w1 g tBig [x0, x1]) (hB' : Blk w1 (g + 1) tBig [y0, y1]) (H1 : BigV w1 (.agg #[.bool b1, .slice A1 n1 c1]) x) (H2 : BigV w1 (.agg #[.bool b2, .slice A2 n2 c2]) y) (hx : Ext w w1) (hg : w.heap.size ≤ g) :
    bodyPost Tryz.prog fn (QuoOf x y w) .ret a ((((w1.setCell ⟨g, 0, none⟩ (.bool b1)).setCell ⟨g, 1, none⟩ (.slice A1 n1 c1)).setCell ⟨g + 1, 0, none⟩ (.bool b2)).setCell ⟨g + 1, 1, none⟩ (.slice A2 n2 c2)) := by
  have hB2 : Blk ((w1.setCell ⟨g, 0, none⟩ (.bool b1)).setCell ⟨g, 1, none⟩ (.slice A1 n1 c1)) g tBig [.bool b1, .slice A1 n1 c1] := (hB.set_ 0 (.bool b1)).set_ 1 (.slice A1 n1 c1)
  have hC2 : Blk ((w1.setCell ⟨g, 0, none⟩ (.bool b1)).setCell ⟨g, 1, none⟩ (.slice A1 n1 c1)) (g + 1) tBig [y0, y1] := hB'.past2 (by omega) _ _
  have hK1 := hB.kept2 (t := tI) (by decide) 0 1 (.bool b1) (.slice A1 n1 c1)
  have hX1 : Ext w ((w1.setCell ⟨g, 0, none⟩ (.bool b1)).setCell ⟨g, 1, none⟩ (.slice A1 n1 c1)) := (hx.setCell hg _).setCell hg _
  generalize (w1.setCell ⟨g, 0, none⟩ (.bool b1)).setCell ⟨g, 1, none⟩ (.slice A1 n1 c1) = W2 at *
  have hB3 : Blk ((W2.setCell ⟨g + 1, 0, none⟩ (.bool b2)).setCell ⟨g + 1, 1, none⟩ (.slice A2 n2 c2)) g tBig [.bool b1, .slice A1 n1 c1] := hB2.past2 (by omega) _ _
  have hC3 : Blk ((W2.setCell ⟨g + 1, 0, none⟩ (.bool b2)).setCell ⟨g + 1, 1, none⟩ (.slice A2 n2 c2)) (g + 1) tBig [.bool b2, .slice A2 n2 c2] := (hC2.set_ 0 (.bool b2)).set_ 1 (.slice A2 n2 c2)
  have hK2 := hC2.kept2 (t := tI) (by decide) 0 1 (.bool b2) (.slice A2 n2 c2)
  exact bodyPost_ret (results_cell2 hres a.tmps _ g (g + 1) _ _ ht ht' (load_big hB3) (load_big hC3)) hd ⟨_, _, rfl, H1.keep (hK1.trans hK2), H2.keep (hK1.trans hK2), (hX1.setCell (show w.heap.size ≤ g + 1 by omega) _).setCell (show w.heap.size ≤ g + 1 by omega) _⟩
/-- the digit's bounds at the start of the search -/
theorem quo_start {R Y : Nat} (hY : 0 < Y) (h1 : Y ≤ R) (h2 : R < B9 * Y) : ∃ T s : Nat, ∃ n, (toL Y).length = n + 1 ∧ s = limb (toL Y) n ∧ 0 < s ∧ s < B9 ∧ T = limb (toL R) n + limb (toL R) (n + 1) * B9 ∧ limb (toL R) n < B9 ∧ limb (toL R) (n + 1) < B9 ∧ n < (toL R).length ∧ (toL R).length ≤ n + 2 ∧ Y * (T / (s + 1)) ≤ R ∧ R < Y * (T / s + 1) ∧ R < Y * B9 := by
  have hne : toL Y ≠ [] := fun h => by have := toL_eq_nil.1 h; omega
  have hlp : 0 < (toL Y).length := List.length_pos_iff.2 hne
  obtain ⟨n, hn⟩ : ∃ n, (toL Y).length = n + 1 := ⟨(toL Y).length - 1, by omega⟩
  have hl := quo_len (toL_canon R) (toL_canon Y) (by rw [val_toL, val_toL]; exact h1) (by rw [val_toL, val_toL]; exact h2)
  have hs0 : 0 < limb (toL Y) n := by
    have := (toL_canon Y).2.last hlp
    rw [limb_of (by omega)]
    have e : (toL Y)[(toL Y).length - 1] = (toL Y)[n]'(by omega) := by congr 1; omega
    rw [e] at this
    omega
  have hb := top_bounds (toL_canon Y).1 (k := n) (by omega) (by omega)
  rw [limb_beyond (l := toL Y) (k := n + 1) (by omega), Nat.zero_mul, Nat.add_zero, val_toL] at hb
  have ht := top_bounds (toL_canon R).1 (k := n) (by omega) (by omega)
  rw [val_toL] at ht
  have he := quo_est hb.1 hb.2 ht.1 ht.2 hs0
  exact ⟨_, _, n, hn, rfl, hs0, (toL_canon Y).1.getD n, rfl, (toL_canon R).1.getD n, (toL_canon R).1.getD (n + 1), by omega, by omega, he.1, he.2, by rw [Nat.mul_comm]; exact h2⟩

theorem fit_b9 {Y R : Nat} (h : ∃ e, e ≤ 1000000 ∧ Y < 10 ^ e) (hR : R ≤ B9 * Y) : Fit R := by
  obtain ⟨e, he, hY⟩ := h
  refine Fit.of_lt (e := 9 + e + 1) ?_ (by omega)
  have h1 : B9 * Y ≤ B9 * 10 ^ e := Nat.mul_le_mul_left _ (Nat.le_of_lt hY)
  have h2 : B9 * 10 ^ e = 10 ^ (9 + e) := by rw [Nat.pow_add]; rfl
  have h3 : 10 ^ (9 + e) < 10 ^ (9 + e + 1) := Nat.pow_lt_pow_right (by decide) (by omega)
  omega
set_option maxRecDepth 100000 in
set_option maxHeartbeats 16000000 in
theorem rquo_any (va vb : Value) (x y : Int) (w : World) (ha : BigV w va x) (hb : BigV w vb y) (fx : FitZ x) (fy : FitZ y) (hy : y ≠ 0) :
    Calls Tryz.prog 72 #[va, vb] w (QuoOf (signed (decide (x < 0) != decide (y < 0)) (x.natAbs / y.natAbs)) (signed (decide (x < 0)) (x.natAbs % y.natAbs)) w) := by
  have HNA := Lib.hid ha
  have HNB := Lib.hid hb
  obtain ⟨Aa, ca, rfl, hca, sa⟩ := ha
  obtain ⟨Ab, cb, rfl, hcb, sb⟩ := hb
  have S1 := Lib.hid sa
  have CA := Lib.hid (toL_canon x.natAbs)
  have VA := Lib.hid (val_toL x.natAbs)
  have hla := fx.fit
  have hlb := fy.fit
  have FA := Lib.hid hla
  have FB := Lib.hid hlb
  have HFY : Hid (FitZ y) := fy
  unfold Hid FitZ at HFY
  have HFY := Lib.hid HFY
  unfold Fit at hla hlb
  have hY0 : 0 < y.natAbs := by omega
  have hmk := make_int1 (toL x.natAbs).length (by omega)
  have HNY := Lib.hid HNB.out.nat
  generalize x.natAbs = X at *
  generalize y.natAbs = Y at *
  generalize toL X = a at *
  generalize hnb : (toL Y).length = nb at *
  have HNBL := Lib.hid hnb
  generalize decide (x < 0) = na at *
  generalize decide (y < 0) = nby at *
  clear sa sb hca hcb hnb HNA HNB
  go_enter Tryz.func72, Tryz.ntmps72
  go_wp2_with fail
  clear hmk
  refine rbox5 (P := fun W => Code.wp _ _ _ _ W) fun W HX BA BB BQ BR BROW => ?_
  go_loopw [6, 8, 9, 10, 11, 12, 13] (fun v6 v8 _ _ _ _ _ wr => ∃ (m R : Nat) (q : List Nat), m ≤ a.length ∧ v8 = .int .i64 ((m : Int) - 1) ∧ Hid (NatF wr (w.heap.size + 1 + 1 + 1 + 1 + 1) v6 R) ∧ R < Y ∧ Dig q ∧ q.length = a.length - m ∧ Hid (val (a.drop m) = val q * Y + R) ∧ Hid (Blk wr (w.heap.size + 1 + 1 + 1 + 1) tI (i64s (List.replicate m 0 ++ q))) ∧ Hid (Below (w.heap.size + 1 + 1 + 1 + 1) W wr)) (fun _ v8 _ _ _ _ _ _ => (RowKit.intOf v8 + 1).toNat)
  case atStart => exact ⟨a.length, 0, [], Nat.le_refl _, rfl, NatF.nil _ _, hY0, Dig.nil, by simp, by simp [Hid], by simpa [Hid] using BROW.out, Below.refl _ _⟩
  case round =>
    obtain ⟨m, R, q, hm, rfl, HR, hRY, hdq, hql, HV, HROW, HBL⟩ := hrel
    have HDQ := Lib.hid hdq
    have HQL := Lib.hid hql
    clear hdq hql
    have BA1 := Lib.hid (BA.out.below HBL.out (by omega))
    have BB1 := Lib.hid (BB.out.below HBL.out (by omega))
    have HXW : Hid (Ext w wr) := Below.trans HX.out (HBL.out.mono (by omega))
    obtain ⟨a0, a1⟩ := BA1.out.two
    obtain ⟨b0, b1⟩ := BB1.out.two
    have hsz : w.heap.size + 1 + 1 + 1 + 1 + 1 ≤ wr.heap.size := by have := HROW.out.lt; omega
    rcases Nat.eq_zero_or_pos m with rfl | hm0
    · have hEQ : val q = X / Y ∧ R = X % Y := by
        have h1 := HV.out
        rw [List.drop_zero, VA.out] at h1
        rw [h1, Nat.add_comm, Nat.add_mul_div_right _ _ hY0, Nat.div_eq_of_lt hRY, Nat.add_mul_mod_self_right, Nat.mod_eq_of_lt hRY]
        exact ⟨by omega, rfl⟩
      have HEQ := Lib.hid hEQ
      obtain ⟨AR, mR, cR, rfl, hNR, _⟩ := HR.out
      have HLR : Hid (Limbs wr (.slice AR mR cR) (X % Y)) := by rw [Hid, ← HEQ.out.2]; exact hNR.limbs (FB.out.le (by omega))
      have HLQ : Hid (Limbs wr (.slice (some ⟨w.heap.size + 1 + 1 + 1 + 1, 0, none⟩) a.length a.length) (X / Y)) := by
        have h1 := HROW.out.sl 0
        rw [List.replicate_zero, List.nil_append, List.drop_zero] at h1
        have h2 : q.length = a.length := by rw [HQL.out]; omega
        exact ⟨_, q, a.length, by rw [h2], ⟨by omega, fun h => by cases h⟩, HDQ.out, h1, by omega, HEQ.out.1⟩
      have H0 : Hid (QBox wr w.heap.size (.bool na) (.slice Aa a.length ca) (.bool nby) (.slice Ab nb cb) (.bool false) (.slice none 0 0) (.bool false) (.slice none 0 0)) := ⟨BA1.out, BB1.out, BQ.out.below HBL.out (by omega), BR.out.below HBL.out (by omega)⟩
      clear hEQ hNR a0 a1 b0 b1
      go_wp2_with fail
      obtain ⟨c0, c1⟩ := H0.out.cells
      go_region_held3 (fun w' => w'.cell? ⟨w.heap.size, 0, none⟩ = some (.bool na) ∧ w'.cell? ⟨w.heap.size + 1, 0, none⟩ = some (.bool nby)) (first | with_reducible exact ⟨c0, c1⟩ | with_reducible exact H0.out.drew.cells | with_reducible exact (H0.out.drew.ext hx1).cells | with_reducible exact H3.out.cells | with_reducible exact (H3.out.putq _ _).cells | with_reducible exact ((H3.out.putq _ _).putr _ _).cells)
        (first
          | (go_at_call 71; (with_reducible show Calls _ _ #[Value.agg #[_, Value.slice (some ⟨w.heap.size + 1 + 1 + 1 + 1, 0, none⟩) _ _]] _ _); refine (rtrim_at (na != nby) _ _ _ (HLQ.out.ext (by exact (Ext.refl _).drew))).mono ?_; rintro e w1 ⟨v1, rfl, hv1, hx1⟩; obtain ⟨b1, A1, n1, c1', rfl, HV1⟩ := hv1.parts)
          | (go_at_call 71; (with_reducible show Calls _ _ #[Value.agg #[_, Value.slice AR mR cR]] _ _); refine (rtrim_at na _ _ _ (HLR.out.ext (by exact (Ext.refl _).drew.trans hx1))).mono ?_; rintro e w2 ⟨v2, rfl, hv2, hx2⟩; obtain ⟨b2, A2, n2, c2', rfl, HV2⟩ := hv2.parts; have H3 := Lib.hid (H0.out.drew.ext (hx1.trans hx2)); obtain ⟨k0, k1, k2, k3⟩ := H3.out.resq; obtain ⟨l0, l1, l2, l3⟩ := H3.out.resr; have HV1' := Lib.hid (HV1.out.ext hx2); clear hv2))
      go_wp2
      exact ret_quo rfl rfl rfl rfl H3.out.q H3.out.r HV1'.out HV2.out (HXW.out.trans ((Ext.refl _).drew.trans (hx1.trans hx2))) (by omega)
    · obtain ⟨k, rfl⟩ : ∃ k, m = k + 1 := ⟨m - 1, by omega⟩
      obtain ⟨g1, o1, rfl, _, hcella⟩ := (S1.out.ext HXW.out).at_ (i64s_get (show k < a.length by omega))
      rw [← limb_of (show k < a.length by omega)] at hcella
      obtain ⟨AR, mR, cR, rfl, ⟨AR', cR', e, hcR, hsR⟩, hfR⟩ := HR.out
      injection e with e1 e2 e3
      subst e1 e2 e3
      have HSR := Lib.hid hsR
      have HCR := Lib.hid hcR
      have hFR : Fit R := FB.out.le (by omega)
      have hFR' := hFR
      unfold Fit at hFR'
      clear hsR hcR hfR
      go_wp2_with (at_builtin; refine wpList_app rfl (.tmp 31) (.tmp 32) tIs rfl wr.heap.size int_slice _ 1 _ rfl (own_one wr tI (.int .i64 (limb a k : Nat)) _ (Nat.le_refl _)) AR (toL R).length cR (i64s (toL R)) rfl HCR.out.2 (by rw [i64s_length]; omega) (HSR.out.ext ((Ext.refl _).alloc _)) (by intro u hu; simp [i64s] at hu; obtain ⟨x, _, rfl⟩ := hu; rfl) (by omega) (by simp) ?_)
      intro v1 w1 ho1 hg1 _
      have HX1 : Hid (Ext wr w1) := Below.grown ((Ext.refl wr).alloc _) hg1 (by simp) (fun k hk => by simp [Value.ownBlock] at hk; omega)
      have ho1' : w1.ownsRow wr.heap.size tI 1 v1 ((toL R).length + 1) (i64s (limb a k :: toL R)) := by rw [Nat.add_comm]; exact ho1
      obtain ⟨A1, c1, rfl, hc1, _, hsl1⟩ := own_parts ho1'
      have HCP1 := Lib.hid (own_cap ho1')
      have HFR1 := Lib.hid (own_fresh ho1')
      have HSL1 := Lib.hid hsl1
      have HDL1 : Hid (Dig (limb a k :: toL R)) := Dig.cons (CA.out.1.getD k) (toL_canon R).1
      clear ho1 ho1' hg1 hsl1
      go_wp2_with fail
      refine (rtrim_full A1 c1 false (limb a k :: toL R) w1 HCP1.out HDL1.out HSL1.out (by rw [List.length_cons]; omega)).mono ?_
      rintro e w2 ⟨b2, n2, rfl, hv2, hx2⟩
      have HN2 := Lib.hid hv2.nat
      rw [signed_natAbs, val_cons, val_toL] at HN2
      have hR1 : limb a k + B9 * R < B9 * Y := by
        have h1 := CA.out.1.getD k
        have h2 : B9 * (R + 1) ≤ B9 * Y := Nat.mul_le_mul_left _ hRY
        rw [Nat.mul_add] at h2
        omega
      have HRB := Lib.hid hR1
      obtain ⟨R1, hR1e⟩ : ∃ R1, R1 = limb a k + B9 * R := ⟨_, rfl⟩
      rw [← hR1e] at HN2 HRB
      have HR1E := Lib.hid hR1e
      have HFR1B : Hid (Fit R1) := fit_b9 HFY.out (Nat.le_of_lt HRB.out)
      have HXR := Lib.hid (HX1.out.trans hx2)
      have BB2 := Lib.hid (BB1.out.ext HXR.out)
      obtain ⟨b0, b1⟩ := BB2.out.two
      have hfd := field_L b2 A1 n2 c1
      clear hv2 hx2 hR1 hR1e a0 a1 hcella
      go_wp2
      go_quiet (fail)
      have HXR : Hid (Ext wr (w2.drewN nq)) := HXR.out.drewN nq
      have HN3 : Hid (NatI (w2.drewN nq) (.slice A1 n2 c1) R1) := HN2.out.ext ((Ext.refl _).drewN nq)
      have BB3 : Hid (Blk (w2.drewN nq) (w.heap.size + 1) tBig [.bool nby, .slice Ab nb cb]) := BB2.out.drewN nq
      clear hfd b0 b1 BB2 HN2
      generalize w2.drewN nq = w3 at *
      obtain ⟨b0, b1⟩ := BB3.out.two
      go_wp2_with fail
      refine (rsize_nat HN3.out (HNY.out.ext (HXW.out.trans HXR.out)) HFR1B.out FB.out).mono ?_
      rintro e w4 ⟨rfl, nn, rfl⟩
      have HXR : Hid (Ext wr (w3.drewN nn)) := HXR.out.drewN nn
      have HNF : Hid (NatF (w3.drewN nn) (w.heap.size + 1 + 1 + 1 + 1 + 1) (.slice A1 n2 c1) R1) := ⟨A1, n2, c1, rfl, HN3.out.ext ((Ext.refl _).drewN nn), fun ad h => Nat.le_trans hsz (HFR1.out ad h)⟩
      have HNI : Hid (NatI (w3.drewN nn) (.slice A1 n2 c1) R1) := HN3.out.ext ((Ext.refl _).drewN nn)
      have BB4 : Hid (Blk (w3.drewN nn) (w.heap.size + 1) tBig [.bool nby, .slice Ab nb cb]) := BB3.out.drewN nn
      have HRW4 : Hid (Blk (w3.drewN nn) (w.heap.size + 1 + 1 + 1 + 1) tI (i64s (List.replicate (k + 1) 0 ++ q))) := HROW.out.ext HXR.out
      have HBL4 : Hid (Below (w.heap.size + 1 + 1 + 1 + 1) W (w3.drewN nn)) := HBL.out.trans (HXR.out.mono (by omega))
      have HNY4 : Hid (NatI (w3.drewN nn) (.slice Ab nb cb) Y) := HNY.out.ext (HXW.out.trans HXR.out)
      clear b0 b1 BB3 HN3 HROW HBL HR HSR HCR HX1 HSL1 BA1 BB1
      generalize w3.drewN nn = w4 at *
      obtain ⟨b0, b1⟩ := BB4.out.two
      by_cases hlt : R1 < Y
      · have hcm : decide ((0 : Int) ≤ cmpN R1 Y) = false := by rw [cmpN_lt hlt]; rfl
        generalize cmpN R1 Y = cm at *
        have HLO : Hid (Y * 0 ≤ R1) := by rw [Hid]; omega
        have HHI : Hid (R1 < Y * (0 + 1)) := by rw [Hid]; omega
        go_wp2_with fail
        clear b0 b1
        obtain ⟨wo, hwo⟩ : ∃ wo : World, wo = w4 := ⟨_, rfl⟩
        have HXO : Hid (Ext wo w4) := by rw [hwo]; exact Ext.refl _
        have BB4 : Hid (Blk wo (w.heap.size + 1) tBig [.bool nby, .slice Ab (nb) cb]) := by rw [hwo]; exact BB4.out
        have HNF : Hid (NatF wo (w.heap.size + 1 + 1 + 1 + 1 + 1) (.slice A1 n2 c1) R1) := by rw [hwo]; exact HNF.out
        have HNI : Hid (NatI wo (.slice A1 n2 c1) R1) := by rw [hwo]; exact HNI.out
        have HRW4 : Hid (Blk wo (w.heap.size + 1 + 1 + 1 + 1) tI (i64s (List.replicate (k + 1) 0 ++ q))) := by rw [hwo]; exact HRW4.out
        have HBL4 : Hid (Below (w.heap.size + 1 + 1 + 1 + 1) W wo) := by rw [hwo]; exact HBL4.out
        have HNY4 : Hid (NatI wo (.slice Ab (nb) cb) Y) := by rw [hwo]; exact HNY4.out
        have hszo : w.heap.size + 1 + 1 + 1 + 1 + 1 ≤ wo.heap.size := by have := HRW4.out.lt; omega
        clear hwo
        go_loopw [9, 10, 13] (fun v9 v10 _ ws => ∃ (l h : Nat), v9 = .int .i64 l ∧ v10 = .int .i64 h ∧ l ≤ h ∧ h < 1000000000 ∧ Hid (Y * l ≤ R1) ∧ Hid (R1 < Y * (h + 1)) ∧ Hid (Ext wo ws)) (fun v9 v10 _ _ => (RowKit.intOf v10).toNat - (RowKit.intOf v9).toNat)
        case atStart => exact ⟨0, 0, rfl, rfl, by omega, by omega, HLO, HHI, HXO⟩
        case round =>
          obtain ⟨l, h, rfl, rfl, hlh, hhB, HL, HH, HXS⟩ := hrel
          obtain ⟨b0, b1⟩ := (BB4.out.ext HXS.out).two
          by_cases hll : l < h
          · obtain ⟨md, hmd⟩ : ∃ md : Nat, md = (l + h + 1) / 2 := ⟨_, rfl⟩
            have hmi : ((l : Int) + h + 1) / 2 = (md : Int) := by omega
            have hmd1 : l < md := by omega
            have hmd2 : md ≤ h := by omega
            clear hmd
            go_wp2_with fail
            refine (rtimes_any _ Y md wr (HNY4.out.ext HXS.out) FB.out (by omega)).mono ?_
            rintro e w6 ⟨v6, rfl, hv6, hx6⟩
            obtain ⟨A6, m6, c6, rfl, hm6, HV6⟩ := hv6.parts
            clear hm6
            have HFM : Hid (Fit (Y * md)) := fit_b9 HFY.out (by rw [Nat.mul_comm]; exact Nat.mul_le_mul_right _ (Nat.le_of_lt (show md < B9 by unfold B9; omega)))
            have HX6 := Lib.hid (HXS.out.trans hx6)
            clear hx6 hv6 b0 b1
            go_wp2_with fail
            refine (rsize_nat HV6.out (HNI.out.ext HX6.out) HFM.out HFR1B.out).mono ?_
            rintro e w7 ⟨rfl, nn7, rfl⟩
            have HX7 : Hid (Ext wo (w6.drewN nn7)) := HX6.out.drewN nn7
            clear HX6 HXS HV6 HFM
            generalize w6.drewN nn7 = w7 at *
            by_cases hc : Y * md ≤ R1
            · have hcm : decide (cmpN (Y * md) R1 ≤ 0) = true := by unfold cmpN; split; rfl; rw [if_neg (by omega)]; rfl
              have HC := Lib.hid hc
              generalize cmpN (Y * md) R1 = cm at *
              clear hc
              go_wp2
              go_roundw
              case rel => exact ⟨md, h, rfl, rfl, hmd2, hhB, HC, HH, HX7⟩
              case measure => simp [RowKit.intOf]; omega
            · have hcm : decide (cmpN (Y * md) R1 ≤ 0) = false := by rw [cmpN_gt (by omega)]; rfl
              have HC : Hid (R1 < Y * ((md - 1) + 1)) := by rw [Hid, Nat.sub_add_cancel (by omega)]; omega
              generalize cmpN (Y * md) R1 = cm at *
              clear hc
              go_wp2
              go_roundw
              case rel => exact ⟨l, md - 1, rfl, congrArg _ (by omega), by omega, by omega, HL, HC, HX7⟩
              case measure => simp [RowKit.intOf]; omega
          · obtain rfl : l = h := by omega
            have HRWS := Lib.hid (HRW4.out.ext HXS.out)
            have e3 : List.replicate (k + 1) 0 ++ q = List.replicate k 0 ++ (0 :: q) := by rw [List.replicate_succ']; simp
            have hcell3 : wr.cell? ⟨w.heap.size + 1 + 1 + 1 + 1, k, none⟩ = some (.int .i64 0) := by
              have := ilimb_at (i := k) HRWS.out (by simp; omega)
              rw [this, e3, limb_mid _ _ _ _ (by simp)]
              rfl
            have hfr3 := HRWS.out.frozen k
            have HRW5 := Lib.hid (ilimb_set (i := k) (x := l) HRWS.out (z := (l : Int)) rfl)
            rw [e3, set_mid _ _ _ _ _ (by simp)] at HRW5
            have HBL5 : Hid (Below (w.heap.size + 1 + 1 + 1 + 1) W (wr.setCell ⟨w.heap.size + 1 + 1 + 1 + 1, k, none⟩ (.int .i64 (l : Int)))) := (HBL4.out.trans (HXS.out.mono (by omega))).setCell (p := ⟨w.heap.size + 1 + 1 + 1 + 1, k, none⟩) (Nat.le_refl _) _
            have HNF5 := Lib.hid ((HNF.out.ext HXS.out).far (p := ⟨w.heap.size + 1 + 1 + 1 + 1, k, none⟩) (by show w.heap.size + 1 + 1 + 1 + 1 < w.heap.size + 1 + 1 + 1 + 1 + 1; omega) (.int .i64 (l : Int)))
            have HXW5 : Hid (Ext w (wr.setCell ⟨w.heap.size + 1 + 1 + 1 + 1, k, none⟩ (.int .i64 (l : Int)))) := Below.trans HX.out (HBL5.out.mono (by omega))
            have HVQ : Hid (val (a.drop k) = val (l :: q) * Y + (R1 - Y * l)) := by rw [Hid, HR1E.out]; exact quo_step (by omega) HV.out (by rw [← HR1E.out]; exact HL.out)
            have hRl : R1 - Y * l < Y := by have h1 := HH.out; have h2 := HL.out; rw [Nat.mul_add, Nat.mul_one] at h1; omega
            have HDQ5 := Lib.hid (HDQ.out.cons (show l < B9 from hhB))
            have HQL5 : Hid ((l :: q).length = a.length - k) := by rw [Hid, List.length_cons, HQL.out]; omega
            clear e3 hll
            rcases Nat.eq_zero_or_pos l with rfl | hl0
            · rw [Nat.mul_zero, Nat.sub_zero] at HVQ hRl
              go_wp2
              go_roundw
              case rel => exact ⟨k, R1, 0 :: q, by omega, congrArg _ (by omega), HNF5, hRl, HDQ5.out, HQL5.out, HVQ, HRW5, HBL5⟩
              case measure => simp [RowKit.intOf]
            · go_upto_region 20 with fail
              clear hcell3 hfr3
              have HNY5 := Lib.hid (HNY.out.ext HXW5.out)
              have BB5 := Lib.hid (BB.out.below HBL5.out (by omega))
              generalize wr.setCell ⟨w.heap.size + 1 + 1 + 1 + 1, k, none⟩ (.int .i64 (l : Int)) = w5 at *
              obtain ⟨b0, b1⟩ := BB5.out.two
              go_wp2_with fail
              refine (rtimes_any _ Y l w5 HNY5.out FB.out (by omega)).mono ?_
              rintro e w6 ⟨v6, rfl, hv6, hx6⟩
              obtain ⟨A6, m6, c6, rfl, hm6, HV6⟩ := hv6.parts
              clear hm6 hv6
              go_wp2_with fail
              obtain ⟨AN, mN, cN, eN, hNI, hNF⟩ := HNF5.out
              injection eN with e1 e2 e3
              subst e1 e2 e3
              refine (rminus_natF (hNI.ext hx6) HV6.out HFR1B.out (HFR1B.out.le HL.out) HL.out).mono ?_
              rintro e w7 ⟨A7, l7, c7, rfl, hcp7, hfr7, hd7, hs7, hl7, hv7, hx7⟩
              have HX7 := Lib.hid (hx6.trans hx7)
              have hsz5 : w.heap.size + 1 + 1 + 1 + 1 + 1 ≤ w6.heap.size := by have := HRW5.out.lt; have := hx6.size; omega
              clear hNI hNF hx6 HV6
              go_wp2_with fail
              refine (rtrim_full A7 c7 false l7 w7 hcp7 hd7 hs7 hl7).mono ?_
              rintro e w8 ⟨b8, n8, rfl, hv8, hx8⟩
              have HN8 := Lib.hid hv8.nat
              rw [signed_natAbs, hv7] at HN8
              have HNF8 : Hid (NatF w8 (w.heap.size + 1 + 1 + 1 + 1 + 1) (.slice A7 n8 c7) (R1 - Y * l)) := ⟨A7, n8, c7, rfl, HN8.out, fun ad h => Nat.le_trans hsz5 (hfr7 ad h)⟩
              have HX8 := Lib.hid (HX7.out.trans hx8)
              have hfd := field_L b8 A7 n8 c7
              have HRW8 := Lib.hid (HRW5.out.ext HX8.out)
              have HBL8 : Hid (Below (w.heap.size + 1 + 1 + 1 + 1) W w8) := HBL5.out.trans (HX8.out.mono (by have := HRW5.out.lt; omega))
              clear hcp7 hfr7 hd7 hs7 hl7 hv7 hx7 hx8 hv8 b0 b1
              go_wp2
              go_roundw
              case rel => exact ⟨k, R1 - Y * l, l :: q, by omega, congrArg _ (by omega), HNF8, hRl, HDQ5.out, HQL5.out, HVQ, HRW8, HBL8⟩
              case measure => simp [RowKit.intOf]
      · obtain ⟨T, st, n0, hn0, hst, hst0, hstB, hT, hTa, hTb, hn1, hn2, hlo, hhi, hB⟩ := quo_start hY0 (Nat.le_of_not_lt hlt) HRB.out
        have hcm : decide ((0 : Int) ≤ cmpN R1 Y) = true := by unfold cmpN; rw [if_neg hlt]; split <;> rfl
        have hnb2 : nb = n0 + 1 := by rw [← HNBL.out]; exact hn0
        subst hnb2
        obtain ⟨hi0, hhi0⟩ : ∃ hi0, hi0 = min 999999999 (T / st) := ⟨_, rfl⟩
        obtain ⟨lo0, hlo0⟩ : ∃ lo0, lo0 = min hi0 (T / (st + 1)) := ⟨_, rfl⟩
        have HLO : Hid (Y * lo0 ≤ R1) := Nat.le_trans (Nat.mul_le_mul_left _ (by rw [hlo0]; exact Nat.min_le_right _ _)) hlo
        have HHI : Hid (R1 < Y * (hi0 + 1)) := by
          rw [Hid, hhi0]
          rcases Nat.le_total (T / st) 999999999 with h | h
          · rw [Nat.min_eq_right h]; exact hhi
          · rw [Nat.min_eq_left h]; exact hB
        have hlh0 : lo0 ≤ hi0 := by rw [hlo0]; exact Nat.min_le_left _ _
        have hhB0 : hi0 < 1000000000 := by rw [hhi0]; have := Nat.min_le_left 999999999 (T / st); omega
        have hm1 : min (999999999 : Int) ((T : Int) / (st : Int)) = (hi0 : Int) := by rw [hhi0, ← Int.natCast_ediv]; omega
        have hm2 : min (hi0 : Int) ((T : Int) / ((st : Int) + 1)) = (lo0 : Int) := by
          have : ((st : Int) + 1) = ((st + 1 : Nat) : Int) := by omega
          rw [hlo0, this, ← Int.natCast_ediv]; omega
        have hd1 : 0 ≤ (T : Int) / (st : Int) := by rw [← Int.natCast_ediv]; omega
        have hd2 : 0 ≤ (T : Int) / ((st : Int) + 1) := Int.ediv_nonneg (by omega) (by omega)
        have hT9 : T ≤ 999999999999999999 := by unfold B9 at hT hTa hTb; omega
        have hd3 : (T : Int) / (st : Int) ≤ 999999999999999999 := by rw [← Int.natCast_ediv]; have := Nat.div_le_self T st; omega
        have hd4 : (T : Int) / ((st : Int) + 1) ≤ 999999999999999999 := Int.le_trans (Int.ediv_le_self _ (by omega)) (by omega)
        obtain ⟨A', c', e, _, hsR⟩ := HNI.out
        injection e with e1 e2 e3
        subst e1 e3
        obtain ⟨gR, oR, rfl, _, hcR1⟩ := hsR.at_ (i64s_get hn1)
        rw [← limb_of hn1] at hcR1
        obtain ⟨A'', c'', e', _, hsY⟩ := HNY4.out
        injection e' with e1 e2' e3
        subst e1 e3
        obtain ⟨gY, oY, rfl, _, hcY1⟩ := hsY.at_ (i64s_get (show n0 < (toL Y).length by omega))
        rw [← limb_of (show n0 < (toL Y).length by omega), ← hst] at hcY1
        have hn2a : (n0 : Int) < (n2 : Int) := by omega
        have hst1 : (st : Int) ≠ 0 := by omega
        have hst2 : (st : Int) + 1 ≠ 0 := by omega
        unfold B9 at hstB hTa hTb
        rcases Nat.lt_or_ge (n0 + 1) n2 with hlong | hshort
        · have hcR2 : w4.cell? ⟨gR, oR + (n0 + 1), none⟩ = some (.int .i64 (limb (toL R1) (n0 + 1) : Nat)) := by
            obtain ⟨g', o', e, _, hc⟩ := hsR.at_ (i64s_get (show n0 + 1 < (toL R1).length by omega))
            injection e with e
            injection e with e1 e2
            subst e1 e2
            rw [hc, limb_of]
          have hdl : decide ((n0 : Int) + 1 < (n2 : Int)) = true := decide_eq_true (by omega)
          have hTi : (limb (toL R1) n0 : Int) + (limb (toL R1) (n0 + 1) : Int) * 1000000000 = (T : Int) := by rw [hT]; unfold B9; omega
          generalize limb (toL R1) n0 = tA at *
          generalize limb (toL R1) (n0 + 1) = tbb at *
          generalize cmpN R1 Y = cm at *
          clear hst hT hhi0 hlo0 hn0 e2 e2' hlo hhi hB hn1 hn2 hlt hsR hsY
          go_wp2_with fail
          clear hm1 hm2 hd1 hd2 hd3 hd4 hTi hcR1 hcR2 hcY1 hst1 hst2 hn2a hcm hlong hdl
          clear b0 b1
          obtain ⟨wo, hwo⟩ : ∃ wo : World, wo = w4 := ⟨_, rfl⟩
          have HXO : Hid (Ext wo w4) := by rw [hwo]; exact Ext.refl _
          have BB4 : Hid (Blk wo (w.heap.size + 1) tBig [.bool nby, .slice (some ⟨gY, oY, none⟩) (n0 + 1) cb]) := by rw [hwo]; exact BB4.out
          have HNF : Hid (NatF wo (w.heap.size + 1 + 1 + 1 + 1 + 1) (.slice (some ⟨gR, oR, none⟩) n2 c1) R1) := by rw [hwo]; exact HNF.out
          have HNI : Hid (NatI wo (.slice (some ⟨gR, oR, none⟩) n2 c1) R1) := by rw [hwo]; exact HNI.out
          have HRW4 : Hid (Blk wo (w.heap.size + 1 + 1 + 1 + 1) tI (i64s (List.replicate (k + 1) 0 ++ q))) := by rw [hwo]; exact HRW4.out
          have HBL4 : Hid (Below (w.heap.size + 1 + 1 + 1 + 1) W wo) := by rw [hwo]; exact HBL4.out
          have HNY4 : Hid (NatI wo (.slice (some ⟨gY, oY, none⟩) (n0 + 1) cb) Y) := by rw [hwo]; exact HNY4.out
          have hszo : w.heap.size + 1 + 1 + 1 + 1 + 1 ≤ wo.heap.size := by have := HRW4.out.lt; omega
          clear hwo
          go_loopw [9, 10, 13] (fun v9 v10 _ ws => ∃ (l h : Nat), v9 = .int .i64 l ∧ v10 = .int .i64 h ∧ l ≤ h ∧ h < 1000000000 ∧ Hid (Y * l ≤ R1) ∧ Hid (R1 < Y * (h + 1)) ∧ Hid (Ext wo ws)) (fun v9 v10 _ _ => (RowKit.intOf v10).toNat - (RowKit.intOf v9).toNat)
          case atStart => exact ⟨lo0, hi0, rfl, rfl, by omega, by omega, HLO, HHI, HXO⟩
          case round =>
            obtain ⟨l, h, rfl, rfl, hlh, hhB, HL, HH, HXS⟩ := hrel
            obtain ⟨b0, b1⟩ := (BB4.out.ext HXS.out).two
            by_cases hll : l < h
            · obtain ⟨md, hmd⟩ : ∃ md : Nat, md = (l + h + 1) / 2 := ⟨_, rfl⟩
              have hmi : ((l : Int) + h + 1) / 2 = (md : Int) := by omega
              have hmd1 : l < md := by omega
              have hmd2 : md ≤ h := by omega
              clear hmd
              go_wp2_with fail
              refine (rtimes_any _ Y md wr (HNY4.out.ext HXS.out) FB.out (by omega)).mono ?_
              rintro e w6 ⟨v6, rfl, hv6, hx6⟩
              obtain ⟨A6, m6, c6, rfl, hm6, HV6⟩ := hv6.parts
              clear hm6
              have HFM : Hid (Fit (Y * md)) := fit_b9 HFY.out (by rw [Nat.mul_comm]; exact Nat.mul_le_mul_right _ (Nat.le_of_lt (show md < B9 by unfold B9; omega)))
              have HX6 := Lib.hid (HXS.out.trans hx6)
              clear hx6 hv6 b0 b1
              go_wp2_with fail
              refine (rsize_nat HV6.out (HNI.out.ext HX6.out) HFM.out HFR1B.out).mono ?_
              rintro e w7 ⟨rfl, nn7, rfl⟩
              have HX7 : Hid (Ext wo (w6.drewN nn7)) := HX6.out.drewN nn7
              clear HX6 HXS HV6 HFM
              generalize w6.drewN nn7 = w7 at *
              by_cases hc : Y * md ≤ R1
              · have hcm : decide (cmpN (Y * md) R1 ≤ 0) = true := by unfold cmpN; split; rfl; rw [if_neg (by omega)]; rfl
                have HC := Lib.hid hc
                generalize cmpN (Y * md) R1 = cm at *
                clear hc
                go_wp2
                go_roundw
                case rel => exact ⟨md, h, rfl, rfl, hmd2, hhB, HC, HH, HX7⟩
                case measure => simp [RowKit.intOf]; omega
              · have hcm : decide (cmpN (Y * md) R1 ≤ 0) = false := by rw [cmpN_gt (by omega)]; rfl
                have HC : Hid (R1 < Y * ((md - 1) + 1)) := by rw [Hid, Nat.sub_add_cancel (by omega)]; omega
                generalize cmpN (Y * md) R1 = cm at *
                clear hc
                go_wp2
                go_roundw
                case rel => exact ⟨l, md - 1, rfl, congrArg _ (by omega), by omega, by omega, HL, HC, HX7⟩
                case measure => simp [RowKit.intOf]; omega
            · obtain rfl : l = h := by omega
              have HRWS := Lib.hid (HRW4.out.ext HXS.out)
              have e3 : List.replicate (k + 1) 0 ++ q = List.replicate k 0 ++ (0 :: q) := by rw [List.replicate_succ']; simp
              have hcell3 : wr.cell? ⟨w.heap.size + 1 + 1 + 1 + 1, k, none⟩ = some (.int .i64 0) := by
                have := ilimb_at (i := k) HRWS.out (by simp; omega)
                rw [this, e3, limb_mid _ _ _ _ (by simp)]
                rfl
              have hfr3 := HRWS.out.frozen k
              have HRW5 := Lib.hid (ilimb_set (i := k) (x := l) HRWS.out (z := (l : Int)) rfl)
              rw [e3, set_mid _ _ _ _ _ (by simp)] at HRW5
              have HBL5 : Hid (Below (w.heap.size + 1 + 1 + 1 + 1) W (wr.setCell ⟨w.heap.size + 1 + 1 + 1 + 1, k, none⟩ (.int .i64 (l : Int)))) := (HBL4.out.trans (HXS.out.mono (by omega))).setCell (p := ⟨w.heap.size + 1 + 1 + 1 + 1, k, none⟩) (Nat.le_refl _) _
              have HNF5 := Lib.hid ((HNF.out.ext HXS.out).far (p := ⟨w.heap.size + 1 + 1 + 1 + 1, k, none⟩) (by show w.heap.size + 1 + 1 + 1 + 1 < w.heap.size + 1 + 1 + 1 + 1 + 1; omega) (.int .i64 (l : Int)))
              have HXW5 : Hid (Ext w (wr.setCell ⟨w.heap.size + 1 + 1 + 1 + 1, k, none⟩ (.int .i64 (l : Int)))) := Below.trans HX.out (HBL5.out.mono (by omega))
              have HVQ : Hid (val (a.drop k) = val (l :: q) * Y + (R1 - Y * l)) := by rw [Hid, HR1E.out]; exact quo_step (by omega) HV.out (by rw [← HR1E.out]; exact HL.out)
              have hRl : R1 - Y * l < Y := by have h1 := HH.out; have h2 := HL.out; rw [Nat.mul_add, Nat.mul_one] at h1; omega
              have HDQ5 := Lib.hid (HDQ.out.cons (show l < B9 from hhB))
              have HQL5 : Hid ((l :: q).length = a.length - k) := by rw [Hid, List.length_cons, HQL.out]; omega
              clear e3 hll
              rcases Nat.eq_zero_or_pos l with rfl | hl0
              · rw [Nat.mul_zero, Nat.sub_zero] at HVQ hRl
                go_wp2
                go_roundw
                case rel => exact ⟨k, R1, 0 :: q, by omega, congrArg _ (by omega), HNF5, hRl, HDQ5.out, HQL5.out, HVQ, HRW5, HBL5⟩
                case measure => simp [RowKit.intOf]
              · go_upto_region 20 with fail
                clear hcell3 hfr3
                have HNY5 := Lib.hid (HNY.out.ext HXW5.out)
                have BB5 := Lib.hid (BB.out.below HBL5.out (by omega))
                generalize wr.setCell ⟨w.heap.size + 1 + 1 + 1 + 1, k, none⟩ (.int .i64 (l : Int)) = w5 at *
                obtain ⟨b0, b1⟩ := BB5.out.two
                go_wp2_with fail
                refine (rtimes_any _ Y l w5 HNY5.out FB.out (by omega)).mono ?_
                rintro e w6 ⟨v6, rfl, hv6, hx6⟩
                obtain ⟨A6, m6, c6, rfl, hm6, HV6⟩ := hv6.parts
                clear hm6 hv6
                go_wp2_with fail
                obtain ⟨AN, mN, cN, eN, hNI, hNF⟩ := HNF5.out
                injection eN with e1 e2 e3
                subst e1 e2 e3
                refine (rminus_natF (hNI.ext hx6) HV6.out HFR1B.out (HFR1B.out.le HL.out) HL.out).mono ?_
                rintro e w7 ⟨A7, l7, c7, rfl, hcp7, hfr7, hd7, hs7, hl7, hv7, hx7⟩
                have HX7 := Lib.hid (hx6.trans hx7)
                have hsz5 : w.heap.size + 1 + 1 + 1 + 1 + 1 ≤ w6.heap.size := by have := HRW5.out.lt; have := hx6.size; omega
                clear hNI hNF hx6 HV6
                go_wp2_with fail
                refine (rtrim_full A7 c7 false l7 w7 hcp7 hd7 hs7 hl7).mono ?_
                rintro e w8 ⟨b8, n8, rfl, hv8, hx8⟩
                have HN8 := Lib.hid hv8.nat
                rw [signed_natAbs, hv7] at HN8
                have HNF8 : Hid (NatF w8 (w.heap.size + 1 + 1 + 1 + 1 + 1) (.slice A7 n8 c7) (R1 - Y * l)) := ⟨A7, n8, c7, rfl, HN8.out, fun ad h => Nat.le_trans hsz5 (hfr7 ad h)⟩
                have HX8 := Lib.hid (HX7.out.trans hx8)
                have hfd := field_L b8 A7 n8 c7
                have HRW8 := Lib.hid (HRW5.out.ext HX8.out)
                have HBL8 : Hid (Below (w.heap.size + 1 + 1 + 1 + 1) W w8) := HBL5.out.trans (HX8.out.mono (by have := HRW5.out.lt; omega))
                clear hcp7 hfr7 hd7 hs7 hl7 hv7 hx7 hx8 hv8 b0 b1
                go_wp2
                go_roundw
                case rel => exact ⟨k, R1 - Y * l, l :: q, by omega, congrArg _ (by omega), HNF8, hRl, HDQ5.out, HQL5.out, HVQ, HRW8, HBL8⟩
                case measure => simp [RowKit.intOf]
        · have hz : limb (toL R1) (n0 + 1) = 0 := limb_beyond (by omega)
          have hdl : decide ((n0 : Int) + 1 < (n2 : Int)) = false := decide_eq_false (by omega)
          rw [hz, Nat.zero_mul, Nat.add_zero] at hT
          rw [← hT] at hcR1
          generalize cmpN R1 Y = cm at *
          clear hst hT hhi0 hlo0 hn0 e2 e2' hlo hhi hB hn1 hn2 hlt hsR hsY hz hTa hTb
          go_wp2_with fail
          clear hm1 hm2 hd1 hd2 hd3 hd4 hcR1 hcY1 hst1 hst2 hn2a hcm hshort hdl
          clear b0 b1
          obtain ⟨wo, hwo⟩ : ∃ wo : World, wo = w4 := ⟨_, rfl⟩
          have HXO : Hid (Ext wo w4) := by rw [hwo]; exact Ext.refl _
          have BB4 : Hid (Blk wo (w.heap.size + 1) tBig [.bool nby, .slice (some ⟨gY, oY, none⟩) (n0 + 1) cb]) := by rw [hwo]; exact BB4.out
          have HNF : Hid (NatF wo (w.heap.size + 1 + 1 + 1 + 1 + 1) (.slice (some ⟨gR, oR, none⟩) n2 c1) R1) := by rw [hwo]; exact HNF.out
          have HNI : Hid (NatI wo (.slice (some ⟨gR, oR, none⟩) n2 c1) R1) := by rw [hwo]; exact HNI.out
          have HRW4 : Hid (Blk wo (w.heap.size + 1 + 1 + 1 + 1) tI (i64s (List.replicate (k + 1) 0 ++ q))) := by rw [hwo]; exact HRW4.out
          have HBL4 : Hid (Below (w.heap.size + 1 + 1 + 1 + 1) W wo) := by rw [hwo]; exact HBL4.out
          have HNY4 : Hid (NatI wo (.slice (some ⟨gY, oY, none⟩) (n0 + 1) cb) Y) := by rw [hwo]; exact HNY4.out
          have hszo : w.heap.size + 1 + 1 + 1 + 1 + 1 ≤ wo.heap.size := by have := HRW4.out.lt; omega
          clear hwo
          go_loopw [9, 10, 13] (fun v9 v10 _ ws => ∃ (l h : Nat), v9 = .int .i64 l ∧ v10 = .int .i64 h ∧ l ≤ h ∧ h < 1000000000 ∧ Hid (Y * l ≤ R1) ∧ Hid (R1 < Y * (h + 1)) ∧ Hid (Ext wo ws)) (fun v9 v10 _ _ => (RowKit.intOf v10).toNat - (RowKit.intOf v9).toNat)
          case atStart => exact ⟨lo0, hi0, rfl, rfl, by omega, by omega, HLO, HHI, HXO⟩
          case round =>
            obtain ⟨l, h, rfl, rfl, hlh, hhB, HL, HH, HXS⟩ := hrel
            obtain ⟨b0, b1⟩ := (BB4.out.ext HXS.out).two
            by_cases hll : l < h
            · obtain ⟨md, hmd⟩ : ∃ md : Nat, md = (l + h + 1) / 2 := ⟨_, rfl⟩
              have hmi : ((l : Int) + h + 1) / 2 = (md : Int) := by omega
              have hmd1 : l < md := by omega
              have hmd2 : md ≤ h := by omega
              clear hmd
              go_wp2_with fail
              refine (rtimes_any _ Y md wr (HNY4.out.ext HXS.out) FB.out (by omega)).mono ?_
              rintro e w6 ⟨v6, rfl, hv6, hx6⟩
              obtain ⟨A6, m6, c6, rfl, hm6, HV6⟩ := hv6.parts
              clear hm6
              have HFM : Hid (Fit (Y * md)) := fit_b9 HFY.out (by rw [Nat.mul_comm]; exact Nat.mul_le_mul_right _ (Nat.le_of_lt (show md < B9 by unfold B9; omega)))
              have HX6 := Lib.hid (HXS.out.trans hx6)
              clear hx6 hv6 b0 b1
              go_wp2_with fail
              refine (rsize_nat HV6.out (HNI.out.ext HX6.out) HFM.out HFR1B.out).mono ?_
              rintro e w7 ⟨rfl, nn7, rfl⟩
              have HX7 : Hid (Ext wo (w6.drewN nn7)) := HX6.out.drewN nn7
              clear HX6 HXS HV6 HFM
              generalize w6.drewN nn7 = w7 at *
              by_cases hc : Y * md ≤ R1
              · have hcm : decide (cmpN (Y * md) R1 ≤ 0) = true := by unfold cmpN; split; rfl; rw [if_neg (by omega)]; rfl
                have HC := Lib.hid hc
                generalize cmpN (Y * md) R1 = cm at *
                clear hc
                go_wp2
                go_roundw
                case rel => exact ⟨md, h, rfl, rfl, hmd2, hhB, HC, HH, HX7⟩
                case measure => simp [RowKit.intOf]; omega
              · have hcm : decide (cmpN (Y * md) R1 ≤ 0) = false := by rw [cmpN_gt (by omega)]; rfl
                have HC : Hid (R1 < Y * ((md - 1) + 1)) := by rw [Hid, Nat.sub_add_cancel (by omega)]; omega
                generalize cmpN (Y * md) R1 = cm at *
                clear hc
                go_wp2
                go_roundw
                case rel => exact ⟨l, md - 1, rfl, congrArg _ (by omega), by omega, by omega, HL, HC, HX7⟩
                case measure => simp [RowKit.intOf]; omega
            · obtain rfl : l = h := by omega
              have HRWS := Lib.hid (HRW4.out.ext HXS.out)
              have e3 : List.replicate (k + 1) 0 ++ q = List.replicate k 0 ++ (0 :: q) := by rw [List.replicate_succ']; simp
              have hcell3 : wr.cell? ⟨w.heap.size + 1 + 1 + 1 + 1, k, none⟩ = some (.int .i64 0) := by
                have := ilimb_at (i := k) HRWS.out (by simp; omega)
                rw [this, e3, limb_mid _ _ _ _ (by simp)]
                rfl
              have hfr3 := HRWS.out.frozen k
              have HRW5 := Lib.hid (ilimb_set (i := k) (x := l) HRWS.out (z := (l : Int)) rfl)
              rw [e3, set_mid _ _ _ _ _ (by simp)] at HRW5
              have HBL5 : Hid (Below (w.heap.size + 1 + 1 + 1 + 1) W (wr.setCell ⟨w.heap.size + 1 + 1 + 1 + 1, k, none⟩ (.int .i64 (l : Int)))) := (HBL4.out.trans (HXS.out.mono (by omega))).setCell (p := ⟨w.heap.size + 1 + 1 + 1 + 1, k, none⟩) (Nat.le_refl _) _
              have HNF5 := Lib.hid ((HNF.out.ext HXS.out).far (p := ⟨w.heap.size + 1 + 1 + 1 + 1, k, none⟩) (by show w.heap.size + 1 + 1 + 1 + 1 < w.heap.size + 1 + 1 + 1 + 1 + 1; omega) (.int .i64 (l : Int)))
              have HXW5 : Hid (Ext w (wr.setCell ⟨w.heap.size + 1 + 1 + 1 + 1, k, none⟩ (.int .i64 (l : Int)))) := Below.trans HX.out (HBL5.out.mono (by omega))
              have HVQ : Hid (val (a.drop k) = val (l :: q) * Y + (R1 - Y * l)) := by rw [Hid, HR1E.out]; exact quo_step (by omega) HV.out (by rw [← HR1E.out]; exact HL.out)
              have hRl : R1 - Y * l < Y := by have h1 := HH.out; have h2 := HL.out; rw [Nat.mul_add, Nat.mul_one] at h1; omega
              have HDQ5 := Lib.hid (HDQ.out.cons (show l < B9 from hhB))
              have HQL5 : Hid ((l :: q).length = a.length - k) := by rw [Hid, List.length_cons, HQL.out]; omega
              clear e3 hll
              rcases Nat.eq_zero_or_pos l with rfl | hl0
              · rw [Nat.mul_zero, Nat.sub_zero] at HVQ hRl
                go_wp2
                go_roundw
                case rel => exact ⟨k, R1, 0 :: q, by omega, congrArg _ (by omega), HNF5, hRl, HDQ5.out, HQL5.out, HVQ, HRW5, HBL5⟩
                case measure => simp [RowKit.intOf]
              · go_upto_region 20 with fail
                clear hcell3 hfr3
                have HNY5 := Lib.hid (HNY.out.ext HXW5.out)
                have BB5 := Lib.hid (BB.out.below HBL5.out (by omega))
                generalize wr.setCell ⟨w.heap.size + 1 + 1 + 1 + 1, k, none⟩ (.int .i64 (l : Int)) = w5 at *
                obtain ⟨b0, b1⟩ := BB5.out.two
                go_wp2_with fail
                refine (rtimes_any _ Y l w5 HNY5.out FB.out (by omega)).mono ?_
                rintro e w6 ⟨v6, rfl, hv6, hx6⟩
                obtain ⟨A6, m6, c6, rfl, hm6, HV6⟩ := hv6.parts
                clear hm6 hv6
                go_wp2_with fail
                obtain ⟨AN, mN, cN, eN, hNI, hNF⟩ := HNF5.out
                injection eN with e1 e2 e3
                subst e1 e2 e3
                refine (rminus_natF (hNI.ext hx6) HV6.out HFR1B.out (HFR1B.out.le HL.out) HL.out).mono ?_
                rintro e w7 ⟨A7, l7, c7, rfl, hcp7, hfr7, hd7, hs7, hl7, hv7, hx7⟩
                have HX7 := Lib.hid (hx6.trans hx7)
                have hsz5 : w.heap.size + 1 + 1 + 1 + 1 + 1 ≤ w6.heap.size := by have := HRW5.out.lt; have := hx6.size; omega
                clear hNI hNF hx6 HV6
                go_wp2_with fail
                refine (rtrim_full A7 c7 false l7 w7 hcp7 hd7 hs7 hl7).mono ?_
                rintro e w8 ⟨b8, n8, rfl, hv8, hx8⟩
                have HN8 := Lib.hid hv8.nat
                rw [signed_natAbs, hv7] at HN8
                have HNF8 : Hid (NatF w8 (w.heap.size + 1 + 1 + 1 + 1 + 1) (.slice A7 n8 c7) (R1 - Y * l)) := ⟨A7, n8, c7, rfl, HN8.out, fun ad h => Nat.le_trans hsz5 (hfr7 ad h)⟩
                have HX8 := Lib.hid (HX7.out.trans hx8)
                have hfd := field_L b8 A7 n8 c7
                have HRW8 := Lib.hid (HRW5.out.ext HX8.out)
                have HBL8 : Hid (Below (w.heap.size + 1 + 1 + 1 + 1) W w8) := HBL5.out.trans (HX8.out.mono (by have := HRW5.out.lt; omega))
                clear hcp7 hfr7 hd7 hs7 hl7 hv7 hx7 hx8 hv8 b0 b1
                go_wp2
                go_roundw
                case rel => exact ⟨k, R1 - Y * l, l :: q, by omega, congrArg _ (by omega), HNF8, hRl, HDQ5.out, HQL5.out, HVQ, HRW8, HBL8⟩
                case measure => simp [RowKit.intOf]
end Go.Proofs.YthalpbjkkfkheaaGreatDoor
/- joinlearnref01: Gcd. -/
namespace Go.Proofs.YthalpbjkkfkheaaGreatDoor
open Go.RowKit

theorem RBox3.putxy {W : World} {g : Nat} {x0 x1 y0 y1 z0 z1 : Value} (h : RBox3 W g x0 x1 y0 y1 z0 z1) (a b c d : Value) : RBox3 ((((W.setCell ⟨g, 0, none⟩ a).setCell ⟨g, 1, none⟩ b).setCell ⟨g + 1, 0, none⟩ c).setCell ⟨g + 1, 1, none⟩ d) g a b c d z0 z1 :=
  ⟨((h.a.set_ 0 a).set_ 1 b).past2 (by omega) c d, (((h.b.past2 (k := g) (by omega) a b).set_ 0 c).set_ 1 d), (h.r.past2 (k := g) (by omega) a b).past2 (by omega) c d⟩
theorem RBox3.keptxy {W : World} {g : Nat} {x0 x1 y0 y1 z0 z1 : Value} (h : RBox3 W g x0 x1 y0 y1 z0 z1) (a b c d : Value) : Kept tI W ((((W.setCell ⟨g, 0, none⟩ a).setCell ⟨g, 1, none⟩ b).setCell ⟨g + 1, 0, none⟩ c).setCell ⟨g + 1, 1, none⟩ d) :=
  (h.a.kept2 (by decide) 0 1 a b).trans ((h.b.past2 (k := g) (by omega) a b).kept2 (by decide) 0 1 c d)
theorem signed_false (n : Nat) : signed false n = (n : Int) := rfl
theorem BigV.abs {w : World} {b : Bool} {A : Option Addr} {n c : Nat} {z : Int} (h : BigV w (.agg #[.bool b, .slice A n c]) z) : BigV w (.agg #[.bool false, .slice A n c]) (z.natAbs : Int) := by
  obtain ⟨_, rfl, hc, hs⟩ := h.inv
  exact ⟨A, c, by rw [Int.natAbs_natCast, decide_eq_false (by omega)], by rw [Int.natAbs_natCast]; exact hc, by rw [Int.natAbs_natCast]; exact hs⟩
theorem BigV.len {w : World} {b : Bool} {A : Option Addr} {n c : Nat} {y : Nat} (h : BigV w (.agg #[.bool b, .slice A n c]) (y : Int)) : decide (0 < n) = decide (0 < y) := by
  obtain ⟨_, rfl, _⟩ := h.inv
  rw [Int.natAbs_natCast]
  exact toL_pos
set_option maxRecDepth 100000 in
set_option maxHeartbeats 8000000 in
theorem rgcd_any (va vb : Value) (x y : Int) (w : World) (ha : BigV w va x) (hb : BigV w vb y) (fx : FitZ x) (fy : FitZ y) :
    Calls Tryz.prog 58 #[va, vb] w fun e w' => ∃ v', e = .returned v' ∧ BigV w' v' ((Nat.gcd x.natAbs y.natAbs : Nat) : Int) ∧ Ext w w' := by
  obtain ⟨ba, Aa, na, ca, rfl, HA⟩ := ha.parts
  obtain ⟨bb, Ab, nb, cb, rfl, HB⟩ := hb.parts
  have FX : Hid (FitZ (x.natAbs : Int)) := fx.le (by rw [Int.natAbs_natCast]; exact Nat.le_refl _)
  have FY : Hid (FitZ (y.natAbs : Int)) := fy.le (by rw [Int.natAbs_natCast]; exact Nat.le_refl _)
  have HA1 := Lib.hid HA.out.abs
  have HB1 := Lib.hid HB.out.abs
  clear ha hb fx fy
  generalize x.natAbs = X at *
  generalize y.natAbs = Y at *
  go_enter Tryz.func58, Tryz.ntmps58
  go_upto_region 1 with fail
  have HX0 : Hid (Ext w (((w.alloc (Obj.cells #[Value.bool ba, Value.slice Aa na ca] tBig)).alloc (Obj.cells #[Value.bool bb, Value.slice Ab nb cb] tBig)).alloc (Obj.cells #[Value.bool false, Value.slice none 0 0] tBig))) := (((Ext.refl w).alloc _).alloc _).alloc _
  have H0 := Lib.hid (RBox3.new w (.bool ba) (.slice Aa na ca) (.bool bb) (.slice Ab nb cb) (.bool false) (.slice none 0 0))
  generalize ((w.alloc (Obj.cells #[Value.bool ba, Value.slice Aa na ca] tBig)).alloc (Obj.cells #[Value.bool bb, Value.slice Ab nb cb] tBig)).alloc (Obj.cells #[Value.bool false, Value.slice none 0 0] tBig) = W at *
  obtain ⟨c0, c1, c2, c3⟩ := H0.out.cells
  have f0 := H0.out.a.frozen 0
  have f1 := H0.out.b.frozen 0
  have H1 : Hid (RBox3 ((W.setCell ⟨w.heap.size, 0, none⟩ (.bool false)).setCell ⟨w.heap.size + 1, 0, none⟩ (.bool false)) w.heap.size (.bool false) (.slice Aa na ca) (.bool false) (.slice Ab nb cb) (.bool false) (.slice none 0 0)) :=
    ⟨(H0.out.a.set_ 0 (.bool false)).far (p := ⟨w.heap.size + 1, 0, none⟩) (by show w.heap.size ≠ w.heap.size + 1; omega) _, (H0.out.b.far (p := ⟨w.heap.size, 0, none⟩) (by show w.heap.size + 1 ≠ w.heap.size; omega) _).set_ 0 (.bool false), (H0.out.r.far (p := ⟨w.heap.size, 0, none⟩) (by show w.heap.size + 1 + 1 ≠ w.heap.size; omega) _).far (p := ⟨w.heap.size + 1, 0, none⟩) (by show w.heap.size + 1 + 1 ≠ w.heap.size + 1; omega) _⟩
  have HX1 : Hid (Ext w ((W.setCell ⟨w.heap.size, 0, none⟩ (.bool false)).setCell ⟨w.heap.size + 1, 0, none⟩ (.bool false))) := (HX0.out.setCell (p := ⟨w.heap.size, 0, none⟩) (Nat.le_refl _) _).setCell (p := ⟨w.heap.size + 1, 0, none⟩) (Nat.le_succ _) _
  go_wp2
  clear c0 c1 c2 c3 f0 f1 H0 HX0
  generalize (W.setCell ⟨w.heap.size, 0, none⟩ (.bool false)).setCell ⟨w.heap.size + 1, 0, none⟩ (.bool false) = W1 at *
  go_loopg [5, 6] Y (fun k _ _ wr => ∃ (p q : Nat) (Ap : Option Addr) (np cp : Nat) (Aq : Option Addr) (nq cq : Nat), k = q ∧ Hid (FitZ (p : Int)) ∧ Hid (FitZ (q : Int)) ∧ Hid (Nat.gcd p q = Nat.gcd X Y) ∧ Hid (RBox3 wr w.heap.size (.bool false) (.slice Ap np cp) (.bool false) (.slice Aq nq cq) (.bool false) (.slice none 0 0)) ∧ Hid (BigV wr (.agg #[.bool false, .slice Ap np cp]) (p : Int)) ∧ Hid (BigV wr (.agg #[.bool false, .slice Aq nq cq]) (q : Int)) ∧ Hid (Ext w wr))
  case atStart => exact ⟨X, Y, Aa, na, ca, Ab, nb, cb, rfl, FX, FY, rfl, H1, HA1.out.ext HX1.out, HB1.out.ext HX1.out, HX1⟩
  case round =>
    obtain ⟨p, q, Ap, np, cp, Aq, nq, cq, rfl, FP, FQ, HG, HM, HP, HQ, HX⟩ := hrel
    obtain ⟨c0, c1, c2, c3⟩ := HM.out.cells
    have hlen := HQ.out.len
    have HLEN := Lib.hid hlen
    clear hlen
    rcases Nat.eq_zero_or_pos gk with rfl | hq0
    · have hd : decide (0 < nq) = false := HLEN.out
      have HE : Hid (p = Nat.gcd X Y) := by rw [Hid, ← HG.out, Nat.gcd_zero_right]
      rw [HE.out] at HP
      obtain ⟨k0, k1, k2, k3⟩ := HM.out.res
      go_wp2
      exact ret_big rfl rfl rfl HM.out.r HP.out HX.out (by omega) (fun v W' h1 h2 => ⟨v, rfl, h1, h2⟩)
    · have hd : decide (0 < nq) = true := by rw [HLEN.out]; exact decide_eq_true hq0
      go_wp2_with fail
      refine (rquo_any _ _ (p : Int) (gk : Int) wr HP.out HQ.out FP.out FQ.out (by omega)).mono ?_
      rintro e w2 ⟨v1, v2, rfl, hv1, hv2, hx2⟩
      obtain ⟨b1, A1, n1, c1', rfl, HV1⟩ := hv1.parts
      rw [Int.natAbs_natCast, Int.natAbs_natCast, decide_eq_false (by omega), signed_false] at hv2
      obtain ⟨b2, A2, n2, c2', rfl, HV2⟩ := hv2.parts
      have hb2 : b2 = false := by rw [HV2.out.inv.1]; exact decide_eq_false (by omega)
      subst hb2
      have HM2 := Lib.hid (HM.out.ext hx2)
      have HX2 := Lib.hid (HX.out.trans hx2)
      have HQ2 := Lib.hid (HQ.out.ext hx2)
      clear hv1 hv2 hx2 c0 c1 c2 c3
      go_wp2_with fail
      refine box2 (P := fun W => Code.wp _ _ _ _ W) fun W3 HX3 _ BR => ?_
      have HM3 := Lib.hid (HM2.out.ext HX3.out)
      obtain ⟨c0, c1, c2, c3⟩ := HM3.out.cells
      obtain ⟨d0, d1⟩ := BR.out.two
      have f0 := HM3.out.a.frozen 0
      have f1 := HM3.out.a.frozen 1
      have f2 := HM3.out.b.frozen 0
      have f3 := HM3.out.b.frozen 1
      have HM4 := Lib.hid (HM3.out.putxy (.bool false) (.slice Aq nq cq) (.bool false) (.slice A2 n2 c2')).drew
      have HK4 := Lib.hid (HM3.out.keptxy (.bool false) (.slice Aq nq cq) (.bool false) (.slice A2 n2 c2'))
      have HX4 := Lib.hid ((((((HX2.out.trans HX3.out).setCell (p := ⟨w.heap.size, 0, none⟩) (Nat.le_refl _) (.bool false)).setCell (p := ⟨w.heap.size, 1, none⟩) (Nat.le_refl _) (.slice Aq nq cq)).setCell (p := ⟨w.heap.size + 1, 0, none⟩) (Nat.le_succ _) (.bool false)).setCell (p := ⟨w.heap.size + 1, 1, none⟩) (Nat.le_succ _) (.slice A2 n2 c2'))).drew
      have HQ4 := Lib.hid ((HQ2.out.ext HX3.out).keep HK4.out)
      have HR4 := Lib.hid ((HV2.out.ext HX3.out).keep HK4.out)
      have hlt : p % gk < gk := Nat.mod_lt _ hq0
      have hne1 : w2.heap.size + 1 ≠ w.heap.size := by have := HX2.out.size; omega
      have hne2 : w.heap.size ≠ w2.heap.size + 1 := fun h => hne1 h.symm
      obtain ⟨e0, e1⟩ := (BR.out.past2 (k := w.heap.size) hne1 (.bool false) (.slice Aq nq cq)).two
      have e2 := (BR.out.far (p := ⟨w.heap.size, 0, none⟩) hne1 (.bool false)).two
      obtain ⟨e2, e3⟩ := e2
      go_region
      all_goals go_wp2
      all_goals
        go_roundg (p % gk)
        case measure => exact hlt
        case rel => exact ⟨gk, p % gk, Aq, nq, cq, A2, n2, c2', rfl, FQ, FQ.out.le (by rw [Int.natAbs_natCast, Int.natAbs_natCast]; omega), by rw [Hid, ← HG.out, Nat.gcd_comm p gk, Nat.gcd_rec gk p, Nat.gcd_comm], HM4, HQ4.out.ext (Ext.refl _).drew, HR4.out.ext (Ext.refl _).drew, HX4⟩
end Go.Proofs.YthalpbjkkfkheaaGreatDoor
