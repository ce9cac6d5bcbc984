/- joinlearnref01: the references' long integers: trim, Of. joinlearnref01: Text. joinlearnref01: Digits, Give, Make, Valid; joinlearnref02.Whole. joinlearnref01: Read. joinlearnref01: size, plus, minus. joinlearnref01: minus. -/
import Derived.Test.YthalpbjkkfkheaaGreatDoorExact
/- joinlearnref01: the references' long integers: trim, Of. -/
namespace Go.Proofs.YthalpbjkkfkheaaGreatDoor
open Go.RowKit

abbrev tBig : TypeId := 94
abbrev tI : TypeId := 3
abbrev tIs : TypeId := 22
def i64s (l : List Nat) : List Value := l.map fun x : Nat => Value.int .i64 (x : Int)
theorem i64s_length (l : List Nat) : (i64s l).length = l.length := by simp [i64s]
theorem i64s_get {l : List Nat} {k : Nat} (h : k < l.length) : (i64s l)[k]? = some (.int .i64 (l[k] : Int)) := by simp [i64s, h]
theorem i64s_take (l : List Nat) (k : Nat) : (i64s l).take k = i64s (l.take k) := by simp [i64s, List.map_take]
theorem i64s_snoc (l : List Nat) (x : Nat) : i64s (l ++ [x]) = i64s l ++ [.int .i64 (x : Int)] := by simp [i64s]
abbrev LmI (w : World) (A : Option Addr) (l : List Nat) : Prop := Sl w tI A (i64s l)
/-- the capacity of a slice of n elements -/
def Cap (A : Option Addr) (n c : Nat) : Prop := n ≤ c ∧ (A = none → c = 0)
theorem own_cap {w : World} {base : Nat} {e : TypeId} {size n c : Nat} {A : Option Addr} {xs : List Value} (h : w.ownsRow base e size (.slice A n c) n xs) : Cap A n c := by
  rcases h.2 with ⟨hv, rfl⟩ | ⟨g, cap, cur, hv, _, _, hc, _⟩
  · injection hv with h1 _ h3
    exact ⟨by omega, fun _ => h3⟩
  · injection hv with h1 _ h3
    subst h3
    exact ⟨hc, fun h0 => by rw [h1] at h0; cases h0⟩
/-- the value v is the integer z -/
def BigV (w : World) (v : Value) (z : Int) : Prop := ∃ A c, v = .agg #[.bool (decide (z < 0)), .slice A (toL z.natAbs).length c] ∧ Cap A (toL z.natAbs).length c ∧ LmI w A (toL z.natAbs)
theorem BigV.ext {w w' : World} {v : Value} {z : Int} (h : BigV w v z) (hx : Ext w w') : BigV w' v z := by
  obtain ⟨A, c, rfl, hc, hs⟩ := h
  exact ⟨A, c, rfl, hc, hs.ext hx⟩
theorem BigV.keep {w w' : World} {v : Value} {z : Int} (h : BigV w v z) (hx : Kept tI w w') : BigV w' v z := by
  obtain ⟨A, c, rfl, hc, hs⟩ := h
  exact ⟨A, c, rfl, hc, hs.keep hx⟩
theorem BigV.parts {w : World} {v : Value} {z : Int} (h : BigV w v z) : ∃ b A n c, v = .agg #[.bool b, .slice A n c] ∧ Hid (BigV w (.agg #[.bool b, .slice A n c]) z) := by
  obtain ⟨A, c, rfl, hc, hs⟩ := h
  exact ⟨_, A, _, c, rfl, ⟨A, c, rfl, hc, hs⟩⟩
theorem BigV.mk' {w : World} {A : Option Addr} {c : Nat} {r : List Nat} {neg : Bool} {z : Int} (hr : Canon r) (hv : val r = z.natAbs) (hn : neg = decide (z < 0)) (hc : Cap A r.length c) (hs : LmI w A r) : BigV w (.agg #[.bool neg, .slice A r.length c]) z := by
  have e : toL z.natAbs = r := by rw [← hv]; exact toL_val hr
  exact ⟨A, c, by rw [e, hn], by rw [e]; exact hc, by rw [e]; exact hs⟩
/-- limbs that are not trimmed, with a sign -/
def RawV (w : World) (v : Value) (neg : Bool) (l : List Nat) : Prop := ∃ A c, v = .agg #[.bool neg, .slice A l.length c] ∧ Cap A l.length c ∧ Dig l ∧ LmI w A l
/-- the length of the slice in a cell -/
def cellLen (o : Option Value) : Nat := match o with
  | some (.slice _ n _) => n
  | _ => 0
/-- the end of a method whose result is a long integer in a box of its own -/
theorem ret_big {fn : Func} {t g : Nat} {w w1 : World} {b1 : Bool} {A1 : Option Addr} {n1 c1 : Nat} {z : Int} {a : Act} {R : Ending → World → Prop} {x0 x1 : Value} (hres : fn.results = #[.cell t tBig]) (ht : a.tmps.getD t undef = .pointer (some ⟨g, 0, none⟩)) (hd : a.defers = [])
    (hB : Blk w1 g tBig [x0, x1]) (H1 : BigV w1 (.agg #[.bool b1, .slice A1 n1 c1]) z) (hx : Ext w w1) (hg : w.heap.size ≤ g) (hR : ∀ v W', BigV W' v z → Ext w W' → R (.returned v) W') :
    bodyPost Tryz.prog fn R .ret a ((w1.setCell ⟨g, 0, none⟩ (.bool b1)).setCell ⟨g, 1, none⟩ (.slice A1 n1 c1)) := by
  have hB2 : Blk ((w1.setCell ⟨g, 0, none⟩ (.bool b1)).setCell ⟨g, 1, none⟩ (.slice A1 n1 c1)) g tBig [.bool b1, .slice A1 n1 c1] := (hB.set_ 0 (.bool b1)).set_ 1 (.slice A1 n1 c1)
  exact bodyPost_ret (results_cell_row hres a.tmps _ g tBig #[.bool b1, .slice A1 n1 c1] (0, 0) _ ht hB2 Tryz.underlying94 rfl (by kernel_rfl)) hd (hR _ _ (H1.keep (hB.kept2 (by decide) _ _ _ _)) ((hx.setCell hg _).setCell hg _))
/-- the end of a method whose result is a long integer in a box of its own, the value told -/
theorem ret_bigx {fn : Func} {t g : Nat} {w w1 : World} {b1 : Bool} {A1 : Option Addr} {n1 c1 : Nat} {z : Int} {a : Act} {R : Ending → World → Prop} {x0 x1 : Value} (hres : fn.results = #[.cell t tBig]) (ht : a.tmps.getD t undef = .pointer (some ⟨g, 0, none⟩)) (hd : a.defers = [])
    (hB : Blk w1 g tBig [x0, x1]) (H1 : BigV w1 (.agg #[.bool b1, .slice A1 n1 c1]) z) (hx : Ext w w1) (hg : w.heap.size ≤ g) (hR : ∀ W', BigV W' (.agg #[.bool b1, .slice A1 n1 c1]) z → Ext w W' → R (.returned (.agg #[.bool b1, .slice A1 n1 c1])) W') :
    bodyPost Tryz.prog fn R .ret a ((w1.setCell ⟨g, 0, none⟩ (.bool b1)).setCell ⟨g, 1, none⟩ (.slice A1 n1 c1)) := by
  have hB2 : Blk ((w1.setCell ⟨g, 0, none⟩ (.bool b1)).setCell ⟨g, 1, none⟩ (.slice A1 n1 c1)) g tBig [.bool b1, .slice A1 n1 c1] := (hB.set_ 0 (.bool b1)).set_ 1 (.slice A1 n1 c1)
  exact bodyPost_ret (results_cell_row hres a.tmps _ g tBig #[.bool b1, .slice A1 n1 c1] (0, 0) _ ht hB2 Tryz.underlying94 rfl (by kernel_rfl)) hd (hR _ (H1.keep (hB.kept2 (by decide) _ _ _ _)) ((hx.setCell hg _).setCell hg _))
theorem signed_dec (neg : Bool) (n : Nat) (h : 0 < n) : neg = decide (signed neg n < 0) := by rw [signed_neg, decide_eq_true h, Bool.and_true]

set_option maxRecDepth 100000 in
set_option maxHeartbeats 8000000 in
theorem rtrim_full (A : Option Addr) (c : Nat) (neg : Bool) (l : List Nat) (w : World) (hcp : Cap A l.length c) (hd : Dig l) (hs : LmI w A l) (hl : l.length ≤ 100000000) :
    Calls Tryz.prog 71 #[.agg #[.bool neg, .slice A l.length c]] w fun e w' => ∃ b n, e = .returned (.agg #[.bool b, .slice A n c]) ∧ BigV w' (.agg #[.bool b, .slice A n c]) (signed neg (val l)) ∧ Ext w w' := by
  have hc := hcp.1
  have HCP := Lib.hid hcp.2
  clear hcp
  have HS := Lib.hid hs
  have HD := Lib.hid hd
  clear hs hd
  go_enter Tryz.func71, Tryz.ntmps71
  go_wp2_with fail
  refine box2 (P := fun W => Code.wp _ _ _ _ W) fun W HX HB HR => ?_
  go_loopw [] (fun wr => ∃ n : Nat, n ≤ l.length ∧ Hid (Behind l n) ∧ Hid (Blk wr w.heap.size tBig [.bool neg, .slice A n c]) ∧ Hid (Blk wr (w.heap.size + 1) tBig [.bool false, .slice none 0 0]) ∧ Hid (Ext w wr)) (fun wr => cellLen (wr.cell? ⟨w.heap.size, 1, none⟩))
  case atStart => exact ⟨l.length, Nat.le_refl _, ⟨Nat.le_refl _, by simp⟩, HB, HR, HX⟩
  case round =>
    obtain ⟨n, hn, HBH, HB1, HR1, HX1⟩ := hrel
    obtain ⟨k0, k1⟩ := HB1.out.two
    have f1 := HB1.out.frozen 1
    by_cases h0 : 0 < n
    · obtain ⟨k, rfl⟩ : ∃ k, n = k + 1 := ⟨n - 1, by omega⟩
      obtain ⟨g, o, rfl, _, hcell⟩ := (HS.out.ext HX1.out).at_ (i64s_get (show k < l.length by omega))
      have hd0 : decide ((0 : Int) < (k : Int) + 1) = true := decide_eq_true (by omega)
      by_cases hz : l[k] = 0
      · have hz' : ((l[k] : Int) == 0) = true := by simp [hz]
        have HZ := Lib.hid hz
        clear hz
        go_wp2
        go_roundw
        case rel => exact ⟨k, by omega, HBH.out.step (fun _ => HZ.out), HB1.out.set_ 1 _, HR1.out.far (p := ⟨w.heap.size, 1, none⟩) (Ne.symm (ne1 _)) _, HX1.out.setCell (p := ⟨w.heap.size, 1, none⟩) (Nat.le_refl _) _⟩
        case measure => rw [k1, (HB1.out.set_ 1 _).cell (i := 1) rfl]; simp [cellLen]
      · have hz' : ((l[k] : Int) == 0) = false := by simpa using hz
        have hz0 : (((k : Int) + 1) == 0) = false := by rw [beq_eq_false_iff_ne]; omega
        have HC : Hid (Canon (l.take (k + 1)) ∧ val (l.take (k + 1)) = val l) := ⟨⟨HD.out.take _, NoZ.of_last (by simp; omega) (by simpa [List.length_take, Nat.min_eq_left hn] using hz)⟩, val_take_of_zeros l (k + 1) HBH.out.2⟩
        have HLT : Hid ((l.take (k + 1)).length = k + 1) := by rw [Hid, List.length_take]; omega
        obtain ⟨r0, r1⟩ := HR1.out.two
        have fr0 := HR1.out.frozen 0
        have fr1 := HR1.out.frozen 1
        have HV : Hid (BigV wr (.agg #[.bool neg, .slice (some ⟨g, o, none⟩) (k + 1) c]) (signed neg (val l))) := by
          have hp : 0 < val (l.take (k + 1)) := val_pos HC.out.1 (fun h => by have := HLT.out; rw [h] at this; simp at this)
          have := BigV.mk' (A := some ⟨g, o, none⟩) (neg := neg) (z := signed neg (val l)) (c := c) HC.out.1 (by rw [signed_natAbs]; exact HC.out.2) (signed_dec _ _ (by rw [← HC.out.2]; exact hp)) ⟨by rw [HLT.out]; omega, fun h => by cases h⟩ (by unfold LmI; rw [← i64s_take]; exact (HS.out.ext HX1.out).take _)
          rwa [HLT.out] at this
        clear hz
        go_wp2
        exact ret_bigx rfl rfl rfl HR1.out HV.out HX1.out (Nat.le_succ _) (fun W' h1 h2 => ⟨_, _, rfl, h1, h2⟩)
    · obtain rfl : n = 0 := by omega
      have f0 := HB1.out.frozen 0
      have HB2 := Lib.hid (HB1.out.set_ 0 (.bool false))
      have HR2 := Lib.hid (HR1.out.far (p := ⟨w.heap.size, 0, none⟩) (Ne.symm (ne1 _)) (.bool false))
      have HX2 := Lib.hid (HX1.out.setCell (p := ⟨w.heap.size, 0, none⟩) (Nat.le_refl _) (.bool false))
      have HZ : Hid (signed neg (val l) = 0) := by
        have := val_take_of_zeros l 0 HBH.out.2
        rw [Hid, ← this, List.take_zero]
        cases neg <;> rfl
      obtain ⟨b0, b1⟩ := HB2.out.two
      obtain ⟨r0, r1⟩ := HR2.out.two
      have fr0 := HR2.out.frozen 0
      have fr1 := HR2.out.frozen 1
      have HV : Hid (BigV (wr.setCell ⟨w.heap.size, 0, none⟩ (.bool false)) (.agg #[.bool false, .slice A 0 c]) (signed neg (val l))) := by rw [Hid, HZ.out]; exact ⟨A, c, rfl, ⟨Nat.zero_le _, HCP.out⟩, Sl.nil⟩
      clear HZ
      go_wp2
      exact ret_bigx rfl rfl rfl HR2.out HV.out HX2.out (Nat.le_succ _) (fun W' h1 h2 => ⟨_, _, rfl, h1, h2⟩)
theorem rtrim_any (v : Value) (neg : Bool) (l : List Nat) (w : World) (h : RawV w v neg l) (hl : l.length ≤ 100000000) :
    Calls Tryz.prog 71 #[v] w fun e w' => ∃ v', e = .returned v' ∧ BigV w' v' (signed neg (val l)) ∧ Ext w w' := by
  obtain ⟨A, c, rfl, hcp, hd, hs⟩ := h
  refine (rtrim_full A c neg l w hcp hd hs hl).mono ?_
  rintro e w' ⟨b, n, rfl, h1, h2⟩
  exact ⟨_, rfl, h1, h2⟩

/-- int's slice type -/
theorem int_info : (Tryz.prog.info? tI).map (fun i => (i.zero, i.size, i.bytes)) = some (some (.int .i64 0), 1, 8) := by kernel_rfl
theorem int_slice : SliceTy Tryz.prog tIs tI 1 8 := .mk' Tryz.underlying22 int_info rfl (by decide) (by decide)

theorem own_far {w : World} {base : Nat} {e : TypeId} {size : Nat} {v : Value} {n : Nat} {xs : List Value} (h : w.ownsRow base e size v n xs) {p : Addr} (hp : p.block < base) (u : Value) : (w.setCell p u).ownsRow base e size v n xs := by
  obtain ⟨hl, h0 | ⟨g, cap, cur, hv, hb, hh, r⟩⟩ := h
  · exact ⟨hl, .inl h0⟩
  · exact ⟨hl, .inr ⟨g, cap, cur, hv, hb, (Below.heap_setCell w p u g (by omega)).trans hh, r⟩⟩
/-- what Of's loop has laid: limbs r, and what is left, a -/
def Ofing (n a : Nat) (r : List Nat) : Prop := Dig r ∧ (a = 0 → NoZ r) ∧ val r + B9 ^ r.length * a = n ∧ r.length ≤ 3 ∧ (r.length = 1 → a ≤ 9999999999) ∧ (r.length = 2 → a ≤ 9) ∧ (r.length = 3 → a = 0)
theorem ofing_start (n : Nat) : Ofing n n [] := ⟨Dig.nil, fun _ => NoZ.nil, by simp, by simp, by simp, by simp, by simp⟩
theorem ofing_step {n a : Nat} {r : List Nat} (h : Ofing n a r) (ha : 0 < a) (hn : n ≤ 9223372036854775808) : Ofing n (a / B9) (r ++ [a % B9]) ∧ a ≤ 9223372036854775808 := by
  obtain ⟨hd, hz, hv, hl, h1, h2, h3⟩ := h
  have hle : a ≤ n := by
    rw [← hv]
    have := Nat.le_mul_of_pos_left a (B9_pos r.length)
    omega
  refine ⟨⟨hd.snoc (Nat.mod_lt _ (by decide)), fun h0 => ?_, ?_, ?_, ?_, ?_, ?_⟩, by omega⟩
  · refine NoZ.of_last (by simp) ?_
    have : a % B9 = a := Nat.mod_eq_of_lt (by have := Nat.div_add_mod a B9; rw [h0] at this; have := Nat.mod_lt a (show 0 < B9 by decide); omega)
    simp
    omega
  · rw [val_snoc, List.length_append, List.length_singleton, Nat.pow_succ, ← hv, Nat.mul_assoc, Nat.add_assoc, ← Nat.mul_add]
    congr 2
    rw [Nat.add_comm]
    exact Nat.div_add_mod a B9
  · rw [List.length_append, List.length_singleton]
    rcases Nat.lt_or_ge r.length 3 with h | h
    · omega
    · have := h3 (by omega); omega
  · rw [List.length_append, List.length_singleton]
    intro h
    unfold B9
    omega
  · rw [List.length_append, List.length_singleton]
    intro h
    have := h1 (by omega)
    unfold B9
    omega
  · rw [List.length_append, List.length_singleton]
    intro h
    have := h2 (by omega)
    unfold B9
    omega
theorem ofing_end {n : Nat} {r : List Nat} (h : Ofing n 0 r) : Canon r ∧ val r = n := ⟨⟨h.1, h.2.1 rfl⟩, by have := h.2.2.1; simpa using this⟩

set_option maxRecDepth 100000 in
set_option maxHeartbeats 8000000 in
theorem rof_any (z : Int) (w : World) (h0 : -9223372036854775808 ≤ z) (h1 : z ≤ 9223372036854775807) :
    Calls Tryz.prog 60 #[.int .i64 z] w fun e w' => ∃ v', e = .returned v' ∧ BigV w' v' z ∧ Ext w w' := by
  have HZ : Hid (z.natAbs ≤ 9223372036854775808) := by unfold Hid; omega
  by_cases hz : z < 0
  · have hd : decide (z < 0) = true := decide_eq_true hz
    have HNG := Lib.hid hd
    go_enter Tryz.func60, Tryz.ntmps60
    go_wp2_with fail
    refine box2 (P := fun W => Code.wp _ _ _ _ W) fun W HX HR HB => ?_
    go_loopw [0, 4] (fun v0 _ wr => ∃ (a : Nat) (r : List Nat) (A : Option Addr) (c : Nat), v0 = .int .i64 (-(a : Int)) ∧ a ≤ 9223372036854775808 ∧ Hid (Ofing z.natAbs a r) ∧ r.length ≤ 3 ∧ Hid (wr.ownsRow (w.heap.size + 1 + 1) tI 1 (.slice A r.length c) r.length (i64s r)) ∧ Hid (Blk wr (w.heap.size + 1) tBig [.bool true, .slice A r.length c]) ∧ Hid (Blk wr w.heap.size tBig [.bool false, .slice none 0 0]) ∧ Hid (Ext w wr)) (fun v0 _ _ => (RowKit.intOf v0).natAbs)
    case atStart => exact ⟨z.natAbs, [], none, 0, congrArg _ (by omega), by omega, ofing_start _, by simp, World.ownsRow_nil _ _ _ _, HB, HR, HX⟩
    case round =>
      obtain ⟨a, r, A, c, rfl, ha, HO, hr3, HOW, HB1, HR1, HX1⟩ := hrel
      obtain ⟨k0, k1⟩ := HB1.out.two
      have f1 := HB1.out.frozen 1
      have hsz : w.heap.size + 1 + 1 ≤ wr.heap.size := by have := HB1.out.lt; omega
      by_cases h0 : a = 0
      · subst h0
        have HE := Lib.hid (ofing_end HO.out)
        obtain ⟨A', c', e, hc, _, hsl⟩ := own_parts HOW.out
        injection e with e1 e2 e3
        subst e1 e3
        have HV : Hid (BigV wr (.agg #[.bool true, .slice A r.length c]) z) := BigV.mk' HE.out.1 HE.out.2 HNG.out.symm (own_cap HOW.out) hsl
        obtain ⟨r0, r1⟩ := HR1.out.two
        have fr0 := HR1.out.frozen 0
        have fr1 := HR1.out.frozen 1
        clear HE hsl hc
        go_wp2
        exact ret_big rfl rfl rfl HR1.out HV.out HX1.out (Nat.le_refl _) (fun v W' h1 h2 => ⟨v, rfl, h1, h2⟩)
      · obtain ⟨hst, ha2⟩ := ofing_step HO.out (Nat.pos_of_ne_zero h0) HZ.out
        have HST := Lib.hid hst
        clear hst
        have hlt : a / B9 < a := Nat.div_lt_self (Nat.pos_of_ne_zero h0) (by decide)
        have hmB : a % B9 < 1000000000 := Nat.mod_lt _ (by decide)
        have hm1 : (a : Int) % 1000000000 = ((a % B9 : Nat) : Int) := by unfold B9; omega
        have hm2 : (a : Int) / 1000000000 = ((a / B9 : Nat) : Int) := by unfold B9; omega
        have hm3 : (-(a : Int)).tmod 1000000000 = -((a % B9 : Nat) : Int) := by rw [Int.neg_tmod, Int.tmod_eq_emod_of_nonneg (by omega), hm1]
        have hm4 : (-(a : Int)).tdiv 1000000000 = -((a / B9 : Nat) : Int) := by rw [Int.neg_tdiv, Int.tdiv_eq_ediv_of_nonneg (by omega), hm2]
        have hane : ((a : Int) != 0) = true := by simpa using h0
        have hane2 : ((-(a : Int)) != 0) = true := by simpa using h0
        generalize a % B9 = x at *
        generalize a / B9 = y at *
        rcases Nat.eq_zero_or_pos x with rfl | hx0
        · have hm3' : (-(a : Int)).tmod 1000000000 = 0 := hm3
          have hm1' : (a : Int) % 1000000000 = 0 := hm1
          clear hm3 hm1
          go_wp2_with (at_builtin; refine wpList_app1 rfl _ _ tIs rfl (w.heap.size + 1 + 1) int_slice _ _ _ rfl HOW.out #[.int .i64 ((0 : Nat) : Int)] 1 1 rfl rfl rfl (by omega) hsz ?_)
          intro v' w3 ho3 hg3 hb3
          obtain ⟨A3, c3, rfl, hc3, _, _⟩ := own_parts ho3
          have HB3 : Hid (Blk w3 (w.heap.size + 1) tBig [.bool true, .slice A r.length c]) := (hg3.block (w.heap.size + 1) HB1.out.lt (fun h => by have := (HOW.out.lt _ h.symm).1; omega)).trans HB1.out
          have HR3 : Hid (Blk w3 w.heap.size tBig [.bool false, .slice none 0 0]) := (hg3.block w.heap.size HR1.out.lt (fun h => by have := (HOW.out.lt _ h.symm).1; omega)).trans HR1.out
          have HX3 : Hid (Ext w w3) := Below.grown HX1.out hg3 HX1.out.size (fun k hk => by have := (HOW.out.lt k hk).1; omega)
          have HO3 : Hid (w3.ownsRow (w.heap.size + 1 + 1) tI 1 (.slice A3 (r.length + 1) c3) (r ++ [0]).length (i64s (r ++ [0]))) := by
            rw [Hid, List.length_append, i64s_snoc]
            exact ho3
          obtain ⟨k0, k1⟩ := HB3.out.two
          have f1 := HB3.out.frozen 1
          have HB4 := Lib.hid (HB3.out.set_ 1 (.slice A3 (r.length + 1) c3))
          clear ho3 hg3 hb3
          go_wp2
          go_roundw
          case rel =>
            refine ⟨y, r ++ [0], A3, c3, ?_, by omega, HST, by have := HST.out.2.2.2.1; exact this, ?_, ?_, HR3.out.far (p := ⟨w.heap.size + 1, 1, none⟩) (ne1 _) _, HX3.out.setCell (p := ⟨w.heap.size + 1, 1, none⟩) (Nat.le_succ _) _⟩
            · first | rfl | exact congrArg _ (by omega)
            · rw [List.length_append] at *; exact own_far HO3.out (by show w.heap.size + 1 < w.heap.size + 1 + 1; omega) _
            · rw [List.length_append] at *; exact HB4.out
          case measure => simp [RowKit.intOf]; omega
        · have hx1 : -(x : Int) < 0 := by omega
          have hx2 : ¬ (x : Int) < 0 := by omega
          go_wp2_with (at_builtin; refine wpList_app1 rfl _ _ tIs rfl (w.heap.size + 1 + 1) int_slice _ _ _ rfl HOW.out #[.int .i64 ((x : Nat) : Int)] 1 1 rfl rfl rfl (by omega) hsz ?_)
          intro v' w3 ho3 hg3 hb3
          obtain ⟨A3, c3, rfl, hc3, _, _⟩ := own_parts ho3
          have HB3 : Hid (Blk w3 (w.heap.size + 1) tBig [.bool true, .slice A r.length c]) := (hg3.block (w.heap.size + 1) HB1.out.lt (fun h => by have := (HOW.out.lt _ h.symm).1; omega)).trans HB1.out
          have HR3 : Hid (Blk w3 w.heap.size tBig [.bool false, .slice none 0 0]) := (hg3.block w.heap.size HR1.out.lt (fun h => by have := (HOW.out.lt _ h.symm).1; omega)).trans HR1.out
          have HX3 : Hid (Ext w w3) := Below.grown HX1.out hg3 HX1.out.size (fun k hk => by have := (HOW.out.lt k hk).1; omega)
          have HO3 : Hid (w3.ownsRow (w.heap.size + 1 + 1) tI 1 (.slice A3 (r.length + 1) c3) (r ++ [x]).length (i64s (r ++ [x]))) := by
            rw [Hid, List.length_append, i64s_snoc]
            exact ho3
          obtain ⟨k0, k1⟩ := HB3.out.two
          have f1 := HB3.out.frozen 1
          have HB4 := Lib.hid (HB3.out.set_ 1 (.slice A3 (r.length + 1) c3))
          clear ho3 hg3 hb3
          go_wp2
          go_roundw
          case rel =>
            refine ⟨y, r ++ [x], A3, c3, ?_, by omega, HST, by have := HST.out.2.2.2.1; exact this, ?_, ?_, HR3.out.far (p := ⟨w.heap.size + 1, 1, none⟩) (ne1 _) _, HX3.out.setCell (p := ⟨w.heap.size + 1, 1, none⟩) (Nat.le_succ _) _⟩
            · first | rfl | exact congrArg _ (by omega)
            · rw [List.length_append] at *; exact own_far HO3.out (by show w.heap.size + 1 < w.heap.size + 1 + 1; omega) _
            · rw [List.length_append] at *; exact HB4.out
          case measure => simp [RowKit.intOf]; omega
  · have hd : decide (z < 0) = false := decide_eq_false hz
    have HNG := Lib.hid hd
    go_enter Tryz.func60, Tryz.ntmps60
    go_wp2_with fail
    refine box2 (P := fun W => Code.wp _ _ _ _ W) fun W HX HR HB => ?_
    go_loopw [0, 4] (fun v0 _ wr => ∃ (a : Nat) (r : List Nat) (A : Option Addr) (c : Nat), v0 = .int .i64 (a : Int) ∧ a ≤ 9223372036854775808 ∧ Hid (Ofing z.natAbs a r) ∧ r.length ≤ 3 ∧ Hid (wr.ownsRow (w.heap.size + 1 + 1) tI 1 (.slice A r.length c) r.length (i64s r)) ∧ Hid (Blk wr (w.heap.size + 1) tBig [.bool false, .slice A r.length c]) ∧ Hid (Blk wr w.heap.size tBig [.bool false, .slice none 0 0]) ∧ Hid (Ext w wr)) (fun v0 _ _ => (RowKit.intOf v0).natAbs)
    case atStart => exact ⟨z.natAbs, [], none, 0, congrArg _ (by omega), by omega, ofing_start _, by simp, World.ownsRow_nil _ _ _ _, HB, HR, HX⟩
    case round =>
      obtain ⟨a, r, A, c, rfl, ha, HO, hr3, HOW, HB1, HR1, HX1⟩ := hrel
      obtain ⟨k0, k1⟩ := HB1.out.two
      have f1 := HB1.out.frozen 1
      have hsz : w.heap.size + 1 + 1 ≤ wr.heap.size := by have := HB1.out.lt; omega
      by_cases h0 : a = 0
      · subst h0
        have HE := Lib.hid (ofing_end HO.out)
        obtain ⟨A', c', e, hc, _, hsl⟩ := own_parts HOW.out
        injection e with e1 e2 e3
        subst e1 e3
        have HV : Hid (BigV wr (.agg #[.bool false, .slice A r.length c]) z) := BigV.mk' HE.out.1 HE.out.2 HNG.out.symm (own_cap HOW.out) hsl
        obtain ⟨r0, r1⟩ := HR1.out.two
        have fr0 := HR1.out.frozen 0
        have fr1 := HR1.out.frozen 1
        clear HE hsl hc
        go_wp2
        exact ret_big rfl rfl rfl HR1.out HV.out HX1.out (Nat.le_refl _) (fun v W' h1 h2 => ⟨v, rfl, h1, h2⟩)
      · obtain ⟨hst, ha2⟩ := ofing_step HO.out (Nat.pos_of_ne_zero h0) HZ.out
        have HST := Lib.hid hst
        clear hst
        have hlt : a / B9 < a := Nat.div_lt_self (Nat.pos_of_ne_zero h0) (by decide)
        have hmB : a % B9 < 1000000000 := Nat.mod_lt _ (by decide)
        have hm1 : (a : Int) % 1000000000 = ((a % B9 : Nat) : Int) := by unfold B9; omega
        have hm2 : (a : Int) / 1000000000 = ((a / B9 : Nat) : Int) := by unfold B9; omega
        have hm3 : (-(a : Int)).tmod 1000000000 = -((a % B9 : Nat) : Int) := by rw [Int.neg_tmod, Int.tmod_eq_emod_of_nonneg (by omega), hm1]
        have hm4 : (-(a : Int)).tdiv 1000000000 = -((a / B9 : Nat) : Int) := by rw [Int.neg_tdiv, Int.tdiv_eq_ediv_of_nonneg (by omega), hm2]
        have hane : ((a : Int) != 0) = true := by simpa using h0
        have hane2 : ((-(a : Int)) != 0) = true := by simpa using h0
        generalize a % B9 = x at *
        generalize a / B9 = y at *
        rcases Nat.eq_zero_or_pos x with rfl | hx0
        · have hm3' : (-(a : Int)).tmod 1000000000 = 0 := hm3
          have hm1' : (a : Int) % 1000000000 = 0 := hm1
          clear hm3 hm1
          go_wp2_with (at_builtin; refine wpList_app1 rfl _ _ tIs rfl (w.heap.size + 1 + 1) int_slice _ _ _ rfl HOW.out #[.int .i64 ((0 : Nat) : Int)] 1 1 rfl rfl rfl (by omega) hsz ?_)
          intro v' w3 ho3 hg3 hb3
          obtain ⟨A3, c3, rfl, hc3, _, _⟩ := own_parts ho3
          have HB3 : Hid (Blk w3 (w.heap.size + 1) tBig [.bool false, .slice A r.length c]) := (hg3.block (w.heap.size + 1) HB1.out.lt (fun h => by have := (HOW.out.lt _ h.symm).1; omega)).trans HB1.out
          have HR3 : Hid (Blk w3 w.heap.size tBig [.bool false, .slice none 0 0]) := (hg3.block w.heap.size HR1.out.lt (fun h => by have := (HOW.out.lt _ h.symm).1; omega)).trans HR1.out
          have HX3 : Hid (Ext w w3) := Below.grown HX1.out hg3 HX1.out.size (fun k hk => by have := (HOW.out.lt k hk).1; omega)
          have HO3 : Hid (w3.ownsRow (w.heap.size + 1 + 1) tI 1 (.slice A3 (r.length + 1) c3) (r ++ [0]).length (i64s (r ++ [0]))) := by
            rw [Hid, List.length_append, i64s_snoc]
            exact ho3
          obtain ⟨k0, k1⟩ := HB3.out.two
          have f1 := HB3.out.frozen 1
          have HB4 := Lib.hid (HB3.out.set_ 1 (.slice A3 (r.length + 1) c3))
          clear ho3 hg3 hb3
          go_wp2
          go_roundw
          case rel =>
            refine ⟨y, r ++ [0], A3, c3, ?_, by omega, HST, by have := HST.out.2.2.2.1; exact this, ?_, ?_, HR3.out.far (p := ⟨w.heap.size + 1, 1, none⟩) (ne1 _) _, HX3.out.setCell (p := ⟨w.heap.size + 1, 1, none⟩) (Nat.le_succ _) _⟩
            · first | rfl | exact congrArg _ (by omega)
            · rw [List.length_append] at *; exact own_far HO3.out (by show w.heap.size + 1 < w.heap.size + 1 + 1; omega) _
            · rw [List.length_append] at *; exact HB4.out
          case measure => simp [RowKit.intOf]; omega
        · have hx1 : -(x : Int) < 0 := by omega
          have hx2 : ¬ (x : Int) < 0 := by omega
          go_wp2_with (at_builtin; refine wpList_app1 rfl _ _ tIs rfl (w.heap.size + 1 + 1) int_slice _ _ _ rfl HOW.out #[.int .i64 ((x : Nat) : Int)] 1 1 rfl rfl rfl (by omega) hsz ?_)
          intro v' w3 ho3 hg3 hb3
          obtain ⟨A3, c3, rfl, hc3, _, _⟩ := own_parts ho3
          have HB3 : Hid (Blk w3 (w.heap.size + 1) tBig [.bool false, .slice A r.length c]) := (hg3.block (w.heap.size + 1) HB1.out.lt (fun h => by have := (HOW.out.lt _ h.symm).1; omega)).trans HB1.out
          have HR3 : Hid (Blk w3 w.heap.size tBig [.bool false, .slice none 0 0]) := (hg3.block w.heap.size HR1.out.lt (fun h => by have := (HOW.out.lt _ h.symm).1; omega)).trans HR1.out
          have HX3 : Hid (Ext w w3) := Below.grown HX1.out hg3 HX1.out.size (fun k hk => by have := (HOW.out.lt k hk).1; omega)
          have HO3 : Hid (w3.ownsRow (w.heap.size + 1 + 1) tI 1 (.slice A3 (r.length + 1) c3) (r ++ [x]).length (i64s (r ++ [x]))) := by
            rw [Hid, List.length_append, i64s_snoc]
            exact ho3
          obtain ⟨k0, k1⟩ := HB3.out.two
          have f1 := HB3.out.frozen 1
          have HB4 := Lib.hid (HB3.out.set_ 1 (.slice A3 (r.length + 1) c3))
          clear ho3 hg3 hb3
          go_wp2
          go_roundw
          case rel =>
            refine ⟨y, r ++ [x], A3, c3, ?_, by omega, HST, by have := HST.out.2.2.2.1; exact this, ?_, ?_, HR3.out.far (p := ⟨w.heap.size + 1, 1, none⟩) (ne1 _) _, HX3.out.setCell (p := ⟨w.heap.size + 1, 1, none⟩) (Nat.le_succ _) _⟩
            · first | rfl | exact congrArg _ (by omega)
            · rw [List.length_append] at *; exact own_far HO3.out (by show w.heap.size + 1 < w.heap.size + 1 + 1; omega) _
            · rw [List.length_append] at *; exact HB4.out
          case measure => simp [RowKit.intOf]; omega
end Go.Proofs.YthalpbjkkfkheaaGreatDoor
/- joinlearnref01: Text. -/
namespace Go.Proofs.YthalpbjkkfkheaaGreatDoor
open Go.RowKit Go.Lib

abbrev t8s : TypeId := 49
theorem u8_info : (Tryz.prog.info? t8).map (fun i => (i.zero, i.size, i.bytes)) = some (some (.int .u8 0), 1, 1) := by kernel_rfl
theorem u8_slice : SliceTy Tryz.prog t8s t8 1 1 := .mk' Tryz.underlying49 u8_info rfl (by decide) (by decide)
/-- a shorter slice of an owned row -/
theorem own_take {w : World} {base : Nat} {e : TypeId} {A : Option Addr} {n c m : Nat} {xs : List Value} (h : w.ownsRow base e 1 (.slice A n c) n xs) (hm : m ≤ n) (h0 : 0 < n) : w.ownsRow base e 1 (.slice A m c) m (xs.take m) := by
  obtain ⟨hl, ⟨_, h1⟩ | ⟨g, cap, cur, hv, hb, hh, hc, hm', hs, hx⟩⟩ := h
  · omega
  · injection hv with e1 _ e3
    subst e1 e3
    refine ⟨by rw [List.length_take]; omega, .inr ⟨g, c, cur, rfl, hb, hh, by omega, hm', hs, ?_⟩⟩
    rw [← hx, List.take_take]
    congr 1
    omega
theorem own_at {w : World} {base : Nat} {e : TypeId} {A : Option Addr} {n c : Nat} {xs : List Value} (h : w.ownsRow base e 1 (.slice A n c) n xs) (h0 : 0 < n) : ∃ g, A = some ⟨g, 0, none⟩ ∧ base ≤ g ∧ g < w.heap.size ∧ xs.length = n := by
  obtain ⟨hl, ⟨_, h1⟩ | ⟨g, cap, cur, hv, hb, hh, hc, hm', hs, hx⟩⟩ := h
  · omega
  · injection hv with e1 _ e3
    exact ⟨g, e1, hb, lt_of_some hh, by omega⟩
/-- a list whose ends are exchanged up to i -/
def Rev (L M : List UInt8) (i : Nat) : Prop := M.length = L.length ∧ ∀ j, j < L.length → M[j]? = if j < i ∨ L.length ≤ j + i then L[L.length - 1 - j]? else L[j]?
theorem Rev.start (L : List UInt8) : Rev L L 0 := ⟨rfl, fun j hj => by rw [if_neg (by omega)]⟩
theorem Rev.step {L M : List UInt8} {i k : Nat} (h : Rev L M i) (hik : i + k + 1 = L.length) (hlt : i < k) (x y : UInt8) (hx : M[k]? = some x) (hy : M[i]? = some y) : Rev L ((M.set i x).set k y) (i + 1) := by
  refine ⟨by simpa using h.1, fun j hj => ?_⟩
  rw [List.getElem?_set]
  have hl := h.1
  have hi := h.2 i (by omega)
  have hk := h.2 k (by omega)
  rw [if_neg (by omega)] at hi hk
  by_cases hjk : k = j
  · subst hjk
    rw [if_pos rfl, if_pos (by simp; omega), if_pos (by omega), ← hy, hi]
    congr 1
    omega
  · rw [if_neg hjk, List.getElem?_set]
    by_cases hji : i = j
    · subst hji
      rw [if_pos rfl, if_pos (by omega), if_pos (by omega), ← hx, hk]
      congr 1
      omega
    · rw [if_neg hji, h.2 j hj]
      by_cases hc : j < i ∨ L.length ≤ j + i
      · rw [if_pos hc, if_pos (by omega)]
      · rw [if_neg hc, if_neg (by omega)]
theorem Rev.done {L M : List UInt8} {i k : Nat} (h : Rev L M i) (hik : i + k + 1 = L.length) (hlt : ¬ i < k) : M = L.reverse := by
  apply List.ext_getElem?
  intro j
  rcases Nat.lt_or_ge j L.length with hj | hj
  · rw [h.2 j hj, List.getElem?_reverse hj]
    by_cases hc : j < i ∨ L.length ≤ j + i
    · rw [if_pos hc]
    · rw [if_neg hc]
      congr 1
      omega
  · rw [List.getElem?_eq_none (by rw [h.1]; exact hj), List.getElem?_eq_none (by simpa using hj)]
theorem byteCells_set (M : List UInt8) (i : Nat) (x : UInt8) : (byteCells M).set i (.int .u8 (x.toNat : Int)) = byteCells (M.set i x) := by simp [byteCells, List.map_set]
theorem padk_rev (j x : Nat) : (padk (j + 1) x).reverse = (padk j x).reverse ++ [UInt8.ofNat (48 + x / 10 ^ j % 10)] := by rw [padk_head, List.reverse_cons]
theorem digit_cell (d : Nat) (h : d < 10) : byteCells [UInt8.ofNat (48 + d)] = [.int .u8 (48 + (d : Int))] := by
  simp only [byteCells, List.map_cons, List.map_nil]
  rw [dg_toNat h]
  congr 2

theorem text_back {w : World} {base : Nat} {g n c : Nat} {l : List UInt8} (h : w.ownsRow base t8 1 (.slice (some ⟨g, 0, none⟩) n c) n (byteCells l)) : (convert t8s 9 (.slice (some ⟨g, 0, none⟩) n c)).run Tryz.prog w = .ok (.string ⟨l.toArray⟩) w := by
  have hn : l.length = n := by have := h.1; rw [byteCells_length] at this; omega
  subst hn
  refine run_convert_bytes_back (P := Tryz.prog) w t8s 9 t8 ⟨g, 0, none⟩ c l Tryz.underlying49 Tryz.underlying5 Tryz.underlying9 (fun j hj => ?_)
  rw [Lib.add_plain, Nat.zero_add, h.cellAt j (by omega), byteCells_get hj]
set_option maxRecDepth 100000 in
set_option maxHeartbeats 8000000 in
theorem rtext_any (v : Value) (z : Int) (w : World) (h : BigV w v z) (hf : FitZ' z) :
    Calls Tryz.prog 59 #[v] w fun e w' => e = .returned (.string ⟨(decZ z).toArray⟩) ∧ Ext w w' := by
  obtain ⟨A, c, rfl, hc, hs⟩ := h
  unfold FitZ' Fit at hf
  by_cases hz : z.natAbs = 0
  · have hl : (toL z.natAbs).length = 0 := by rw [hz]; rfl
    have hn : decZ z = [48] := by
      have : z = 0 := by omega
      subst this
      exact dec_zero
    rw [hn, hl]
    clear hn hs hc hf hl
    go_enter Tryz.func59, Tryz.ntmps59
    go_wp2
    go_ret
    exact ⟨rfl, (Ext.refl w).alloc _⟩
  · have h0 : toL z.natAbs ≠ [] := fun h => hz (toL_eq_nil.1 h)
    have hl : 0 < (toL z.natAbs).length := List.length_pos_iff.2 h0
    have HC := Lib.hid (toL_canon z.natAbs)
    have HVL := Lib.hid (val_toL z.natAbs)
    have HS := Lib.hid hs
    have HNE := Lib.hid h0
    generalize toL z.natAbs = l at *
    generalize hng : decide (z < 0) = neg at *
    have HNG := Lib.hid hng
    have hl0 : ((l.length : Int) == 0) = false := by rw [beq_eq_false_iff_ne]; omega
    clear hng hs hc h0 hz
    go_enter Tryz.func59, Tryz.ntmps59
    go_wp2_with fail
    refine box1 (P := fun W => Code.wp _ _ _ _ W) fun W HX HB => ?_
    clear hl0
    go_loopw [3, 4, 5, 6] (fun v3 v4 _ _ wr => ∃ k : Nat, k ≤ l.length ∧ v4 = .int .i64 k ∧ Hid (wr.ownsRow (w.heap.size + 1) t8 1 v3 (9 * k) (byteCells (revText (l.take k)))) ∧ Hid (Below (w.heap.size + 1) W wr)) (fun _ v4 _ _ _ => l.length - (RowKit.intOf v4).toNat)
    case atStart => exact ⟨0, Nat.zero_le _, rfl, World.ownsRow_nil _ _ _ _, Below.refl _ _⟩
    case round =>
      obtain ⟨k, hk, rfl, HO, HBL⟩ := hrel
      have hbx : wr.cell? ⟨w.heap.size, 1, none⟩ = some (.slice A l.length c) := (HBL.out.cell (p := ⟨w.heap.size, 1, none⟩) (by show w.heap.size < w.heap.size + 1; omega)).trans (HB.out.cell (i := 1) rfl)
      have HXW : Hid (Ext w wr) := Below.trans HX.out (HBL.out.mono (Nat.le_succ _))
      have hsz : w.heap.size + 1 ≤ wr.heap.size := by have := HBL.out.size; have := HB.out.lt; omega
      have HSZ := Lib.hid hsz
      clear hsz
      by_cases hkl : k < l.length
      · obtain ⟨g, o, rfl, _, hcell⟩ := (HS.out.ext HXW.out).at_ (i64s_get hkl)
        have hx9 : l[k] < B9 := HC.out.1.getElem hkl
        have HTK : Hid (l.take (k + 1) = l.take k ++ [l[k]]) := List.take_succ_eq_append_getElem hkl
        generalize l[k] = x at *
        unfold B9 at hx9
        go_wp2_with fail
        clear hbx hcell
        have HO0 : Hid (wr.ownsRow (w.heap.size + 1) t8 1 u3 (9 * k + 0) (byteCells (revText (l.take k) ++ (padk 0 x).reverse))) := by rw [Hid, padk, List.reverse_nil, List.append_nil, Nat.add_zero]; exact HO.out
        obtain ⟨wo, rfl⟩ : ∃ wo : World, wo = wr := ⟨_, rfl⟩
        go_loopw [3, 5, 6] (fun v3 v5 v6 ws => ∃ j : Nat, j ≤ 9 ∧ v6 = .int .i64 j ∧ v5 = .int .i64 ((x / 10 ^ j : Nat) : Int) ∧ Hid (ws.ownsRow (w.heap.size + 1) t8 1 v3 (9 * k + j) (byteCells (revText (l.take k) ++ (padk j x).reverse))) ∧ Hid (Below (w.heap.size + 1) W ws)) (fun _ _ v6 _ => 9 - (RowKit.intOf v6).toNat)
        case atStart => exact ⟨0, Nat.zero_le _, rfl, by simp, HO0, HBL⟩
        case round =>
          obtain ⟨j, hj, rfl, rfl, HO1, HBL1⟩ := hrel
          by_cases hj9 : j < 9
          · have hsz1 : w.heap.size + 1 ≤ wr.heap.size := by have := HBL1.out.size; have := HB.out.lt; omega
            have HPR := Lib.hid (padk_rev j x)
            have hyx : x / 10 ^ j ≤ x := Nat.div_le_self _ _
            have HDV : Hid (x / 10 ^ (j + 1) = x / 10 ^ j / 10) := by rw [Hid, Nat.pow_succ, Nat.div_div_eq_div_mul]
            generalize x / 10 ^ j = y at *
            have HDC := Lib.hid (digit_cell (y % 10) (Nat.mod_lt _ (by decide)))
            have hy2 : (y : Int) % 10 = ((y % 10 : Nat) : Int) := by omega
            have hy3 : (y : Int) / 10 = ((y / 10 : Nat) : Int) := by omega
            have hd10 : y % 10 < 10 := Nat.mod_lt _ (by decide)
            generalize y % 10 = d at *
            generalize y / 10 = e at *
            go_wp2_with (at_builtin; refine wpList_app1 rfl _ _ t8s rfl (w.heap.size + 1) u8_slice _ _ _ rfl HO1.out #[.int .u8 (48 + (d : Int))] 1 1 rfl rfl rfl (by omega) hsz1 ?_)
            intro v' w3 ho3 hg3 _
            have HB3 := Lib.hid (HBL1.out.grown hg3 hsz1 (fun k hk => (HO1.out.lt k hk).1))
            have HO3 : Hid (w3.ownsRow (w.heap.size + 1) t8 1 v' (9 * k + (j + 1)) (byteCells (revText (l.take k) ++ (padk (j + 1) x).reverse))) := by
              rw [Hid, HPR.out, ← List.append_assoc, byteCells_append, HDC.out]
              exact ho3
            clear ho3 hg3 hy2
            go_wp2
            go_roundw
            case rel => exact ⟨j + 1, by omega, by go_num, by rw [HDV.out], HO3, HB3⟩
            case measure => simp [RowKit.intOf]; omega
          · obtain rfl : j = 9 := by omega
            have HO2 : Hid (wr.ownsRow (w.heap.size + 1) t8 1 u3 (9 * (k + 1)) (byteCells (revText (l.take (k + 1))))) := by
              rw [Hid, HTK.out, revText_snoc]
              exact HO1.out
            clear HO1
            go_wp2
            go_roundw
            case rel => exact ⟨k + 1, by omega, by go_num, HO2, HBL1⟩
            case measure => simp [RowKit.intOf]; omega
      · obtain rfl : k = l.length := by omega
        obtain ⟨A3, c3, rfl, hc3, _, _⟩ := own_parts HO.out
        obtain ⟨zc, hzc⟩ := revText_eq HC.out HNE.out
        rw [List.take_of_length_le (Nat.le_refl _), hzc, HVL.out] at HO
        have hlen := revText_length l
        rw [hzc, HVL.out, List.length_append, List.length_reverse, decDigits_length, List.length_replicate] at hlen
        obtain ⟨c0, r0, hd0, hc0, hcd⟩ := dec_head (n := z.natAbs) (by have := val_pos HC.out HNE.out; rw [HVL.out] at this; exact this)
        have hm := nDigits_pos z.natAbs
        have HDL := Lib.hid (decDigits_length z.natAbs)
        rw [← hlen] at HO
        have HD0 := Lib.hid hd0
        generalize hm' : nDigits z.natAbs = m at *
        have HLEN := Lib.hid hlen
        have hml : m + zc ≤ 9000000 := by omega
        have HBX := Lib.hid (HB.out.ext (w' := wr))
        clear hlen hzc hm' hd0 HBX
        go_wp2_with fail
        rw [← HLEN.out]
        obtain ⟨g3, rfl, hg3b, hg3l, _⟩ := own_at HO.out (by omega)
        have hcc : m + zc ≤ c3 := by have := HLEN.out; omega
        have hk1 : wr.cell? ⟨w.heap.size, 0, none⟩ = some (.bool neg) := (HBL.out.cell (p := ⟨w.heap.size, 0, none⟩) (by show w.heap.size < w.heap.size + 1; omega)).trans (HB.out.cell (i := 0) rfl)
        go_loop [3] (fun v3 => ∃ n : Nat, m ≤ n ∧ n ≤ m + zc ∧ v3 = .slice (some ⟨g3, 0, none⟩) n c3) (fun v3 => cellLen (some v3))
        case atStart => exact ⟨m + zc, by omega, Nat.le_refl _, rfl⟩
        case round =>
          obtain ⟨n, hn1, hn2, rfl⟩ := hrel
          obtain ⟨k, rfl⟩ : ∃ k, n = k + 1 := ⟨n - 1, by omega⟩
          have hcell := HO.out.cellAt k (by omega)
          by_cases hkm : m ≤ k
          · have hce : wr.cell? ⟨g3, k, none⟩ = some (.int .u8 48) := by
              rw [hcell, byteCells, List.map_append, List.getElem?_append_right (by simp [HDL.out]; omega), List.map_replicate, List.getElem?_replicate, if_pos (by simp [HDL.out]; omega)]
              rfl
            clear hcell
            go_wp2
            go_round
            case rel => exact ⟨k, by omega, by omega, rfl⟩
            case measure => simp [cellLen]
          · have hce : wr.cell? ⟨g3, k, none⟩ = some (.int .u8 (c0.toNat : Int)) := by
              have hkr : k < (decDigits z.natAbs).reverse.length := by rw [List.length_reverse, HDL.out]; omega
              rw [hcell, byteCells, List.map_append, List.getElem?_append_left (by simpa using hkr), List.getElem?_map, List.getElem?_reverse (by simpa using hkr), HDL.out, show m - 1 - k = 0 by omega, HD0.out]
              rfl
            have hc48 : ((c0.toNat : Int) == 48) = false := by
              rw [beq_eq_false_iff_ne]
              intro h
              exact hc0 (UInt8.toNat.inj (by rw [show (48 : UInt8).toNat = 48 from rfl]; omega))
            have HOM : Hid (wr.ownsRow (w.heap.size + 1) t8 1 (.slice (some ⟨g3, 0, none⟩) (k + 1) c3) (k + 1) (byteCells (decDigits z.natAbs).reverse)) := by
              have := own_take HO.out (m := k + 1) (by omega) (by omega)
              rwa [byteCells_append, List.take_left' (by rw [byteCells_length, List.length_reverse, HDL.out]; omega)] at this
            have hk6 : k ≤ 9000000 := by omega
            clear hcell
            clear hk hkl hbx
            cases neg
            · have HL : Hid ((decDigits z.natAbs).reverse = (decZ z).reverse) := by rw [Hid, decZ_pos (by have := HNG.out; simpa using this)]
              rw [HL.out] at HOM
              go_wp2_with fail
              clear hce hk1
              have hNL : (decZ z).reverse.length = k + 1 := by have := (HOM).out.1; rw [byteCells_length] at this; omega
              have HNL := Lib.hid hNL
              clear hNL
              go_loopw [7, 8] (fun v7 v8 wr => ∃ (i j : Nat) (M : List UInt8), i + j + 1 = k + 1 ∧ v7 = .int .i64 i ∧ v8 = .int .i64 j ∧ Hid (Rev (decZ z).reverse M i) ∧ Hid (wr.ownsRow (w.heap.size + 1) t8 1 (.slice (some ⟨g3, 0, none⟩) (k + 1) c3) (k + 1) (byteCells M)) ∧ Hid (Below (w.heap.size + 1) W wr)) (fun v7 v8 _ => (RowKit.intOf v8).toNat - (RowKit.intOf v7).toNat)
              case atStart => exact ⟨0, k, (decZ z).reverse, by omega, rfl, by go_num, Rev.start _, HOM, HBL⟩
              case round =>
                obtain ⟨i, j, M, hij, rfl, rfl, HRV, HOR, HBR⟩ := hrel
                have HIJ := Lib.hid hij
                have hi1 : (i : Int) < k + 1 := by omega
                have hj1 : (j : Int) < k + 1 := by omega
                have hij9 : i + j ≤ 9000002 := by omega
                clear hij
                by_cases hlt : i < j
                · have hML : M.length = k + 1 := by rw [HRV.out.1]; exact HNL.out
                  have hiM : i < M.length := by have := HIJ.out; omega
                  have hjM : j < M.length := by have := HIJ.out; omega
                  have hci : wr.cell? ⟨g3, i, none⟩ = some (.int .u8 (M[i].toNat : Int)) := by rw [HOR.out.cellAt i (by omega), byteCells_get hiM]
                  have hcj : wr.cell? ⟨g3, j, none⟩ = some (.int .u8 (M[j].toNat : Int)) := by rw [HOR.out.cellAt j (by omega), byteCells_get hjM]
                  have hfi := HOR.out.frozenAt i
                  have hfj := HOR.out.frozenAt j
                  have HRS := Lib.hid (HRV.out.step (by rw [HNL.out]; exact HIJ.out) hlt M[j] M[i] (List.getElem?_eq_getElem hjM) (List.getElem?_eq_getElem hiM))
                  have HO6 := Lib.hid (((HOR.out.stored i (.int .u8 (M[j].toNat : Int))).1.stored j (.int .u8 (M[i].toNat : Int))).1)
                  rw [byteCells_set, byteCells_set] at HO6
                  generalize M[i] = x at *
                  generalize M[j] = y at *
                  clear hML hiM hjM
                  go_wp2
                  go_region
                  all_goals go_wp2
                  all_goals
                    go_roundw
                    case rel => exact ⟨i + 1, j - 1, (M.set i y).set j x, by have := HIJ.out; omega, by go_num, congrArg _ (by omega), HRS, HO6.out.drew, ((HBR.out.setCell (p := ⟨g3, i, none⟩) hg3b _).setCell (p := ⟨g3, j, none⟩) hg3b _).drew⟩
                    case measure => simp [RowKit.intOf]; omega
                · have hM := HRV.out.done (by rw [HNL.out]; exact HIJ.out) hlt
                  rw [List.reverse_reverse] at hM
                  subst hM
                  have hcv := text_back HOR.out
                  go_wp2
                  go_ret
                  exact ⟨rfl, Below.trans HX.out (HBR.out.mono (Nat.le_succ _))⟩
            · have HL : Hid ((decDigits z.natAbs).reverse ++ [45] = (decZ z).reverse) := by rw [Hid, decZ_neg (by have := HNG.out; simpa using this)]; simp
              go_wp2_with (at_builtin; refine wpList_app1 rfl _ _ t8s rfl (w.heap.size + 1) u8_slice _ _ _ rfl HOM.out #[.int .u8 45] 1 1 rfl rfl rfl (by omega) HSZ.out ?_)
              intro v' w4 ho4 hg4 _
              have HB4 := Lib.hid (HBL.out.grown hg4 HSZ.out (fun k hk => (HOM.out.lt k hk).1))
              obtain ⟨A4, c4, rfl, hc4, _, _⟩ := own_parts ho4
              have HO4 : Hid (w4.ownsRow (w.heap.size + 1) t8 1 (.slice A4 (k + 1 + 1) c4) (k + 1 + 1) (byteCells (decZ z).reverse)) := by
                rw [Hid, ← HL.out, byteCells_append]
                exact ho4
              obtain ⟨g4, rfl, hg4b, hg4l, _⟩ := own_at HO4.out (by omega)
              clear ho4 hg4 hce hk1
              go_wp2_with fail
              have hNL : (decZ z).reverse.length = k + 1 + 1 := by have := (HO4).out.1; rw [byteCells_length] at this; omega
              have HNL := Lib.hid hNL
              clear hNL
              go_loopw [7, 8] (fun v7 v8 wr => ∃ (i j : Nat) (M : List UInt8), i + j + 1 = k + 1 + 1 ∧ v7 = .int .i64 i ∧ v8 = .int .i64 j ∧ Hid (Rev (decZ z).reverse M i) ∧ Hid (wr.ownsRow (w.heap.size + 1) t8 1 (.slice (some ⟨g4, 0, none⟩) (k + 1 + 1) c4) (k + 1 + 1) (byteCells M)) ∧ Hid (Below (w.heap.size + 1) W wr)) (fun v7 v8 _ => (RowKit.intOf v8).toNat - (RowKit.intOf v7).toNat)
              case atStart => exact ⟨0, k + 1, (decZ z).reverse, by omega, rfl, by go_num, Rev.start _, HO4, HB4⟩
              case round =>
                obtain ⟨i, j, M, hij, rfl, rfl, HRV, HOR, HBR⟩ := hrel
                have HIJ := Lib.hid hij
                have hi1 : (i : Int) < k + 1 + 1 := by omega
                have hj1 : (j : Int) < k + 1 + 1 := by omega
                have hij9 : i + j ≤ 9000002 := by omega
                clear hij
                by_cases hlt : i < j
                · have hML : M.length = k + 1 + 1 := by rw [HRV.out.1]; exact HNL.out
                  have hiM : i < M.length := by have := HIJ.out; omega
                  have hjM : j < M.length := by have := HIJ.out; omega
                  have hci : wr.cell? ⟨g4, i, none⟩ = some (.int .u8 (M[i].toNat : Int)) := by rw [HOR.out.cellAt i (by omega), byteCells_get hiM]
                  have hcj : wr.cell? ⟨g4, j, none⟩ = some (.int .u8 (M[j].toNat : Int)) := by rw [HOR.out.cellAt j (by omega), byteCells_get hjM]
                  have hfi := HOR.out.frozenAt i
                  have hfj := HOR.out.frozenAt j
                  have HRS := Lib.hid (HRV.out.step (by rw [HNL.out]; exact HIJ.out) hlt M[j] M[i] (List.getElem?_eq_getElem hjM) (List.getElem?_eq_getElem hiM))
                  have HO6 := Lib.hid (((HOR.out.stored i (.int .u8 (M[j].toNat : Int))).1.stored j (.int .u8 (M[i].toNat : Int))).1)
                  rw [byteCells_set, byteCells_set] at HO6
                  generalize M[i] = x at *
                  generalize M[j] = y at *
                  clear hML hiM hjM
                  go_wp2
                  go_region
                  all_goals go_wp2
                  all_goals
                    go_roundw
                    case rel => exact ⟨i + 1, j - 1, (M.set i y).set j x, by have := HIJ.out; omega, by go_num, congrArg _ (by omega), HRS, HO6.out.drew, ((HBR.out.setCell (p := ⟨g4, i, none⟩) hg4b _).setCell (p := ⟨g4, j, none⟩) hg4b _).drew⟩
                    case measure => simp [RowKit.intOf]; omega
                · have hM := HRV.out.done (by rw [HNL.out]; exact HIJ.out) hlt
                  rw [List.reverse_reverse] at hM
                  subst hM
                  have hcv := text_back HOR.out
                  go_wp2
                  go_ret
                  exact ⟨rfl, Below.trans HX.out (HBR.out.mono (Nat.le_succ _))⟩
end Go.Proofs.YthalpbjkkfkheaaGreatDoor
/- joinlearnref01: Digits, Give, Make, Valid; joinlearnref02.Whole. -/
namespace Go.Proofs.YthalpbjkkfkheaaGreatDoor
open Go.RowKit Go.Lib

/-- digits that are left to count -/
def nLeft (y : Nat) : Nat := if y = 0 then 0 else nDigits y
theorem nLeft_step {y : Nat} (h : 0 < y) : nLeft y = nLeft (y / 10) + 1 := by
  unfold nLeft
  rw [if_neg (by omega)]
  by_cases h1 : y < 10
  · rw [nDigits_small h1, if_pos (by omega)]
  · rw [nDigits_big h1, if_neg (by omega)]
theorem last_limb {l : List Nat} (h : Canon l) (h0 : l ≠ []) : ∃ x k : Nat, l.length = k + 1 ∧ (i64s l)[k]? = some (.int .i64 (x : Int)) ∧ nDigits (val l) = 9 * k + nDigits x ∧ x < 1000000000 ∧ x ≠ 0 := by
  have hl : 0 < l.length := List.length_pos_iff.2 h0
  have hd := digits_limbs h h0
  rw [List.getLast_eq_getElem] at hd
  exact ⟨l[l.length - 1], l.length - 1, by omega, i64s_get (by omega), hd, h.1.getElem (by omega), h.2.last hl⟩
theorem int_fit {z : Int} (h0 : -9223372036854775808 ≤ z) (h1 : z ≤ 9223372036854775807) : FitZ z := ⟨20, by decide, by omega⟩
set_option maxRecDepth 100000 in
set_option maxHeartbeats 8000000 in
theorem r1valid_any (z : Int) (w : World) (hz : nDigits z.natAbs ≤ 400) :
    Calls Tryz.prog 56 #[.string ⟨(decZ z).toArray⟩] w fun e w' => e = .returned (.bool true) ∧ w = w' := by
  by_cases h0 : z = 0
  · subst h0
    have ht : decZ 0 = [48] := dec_zero
    rw [ht]
    clear ht hz
    go_enter Tryz.func56, Tryz.ntmps56
    go_wp2
    go_ret
    exact ⟨rfl, rfl⟩
  · obtain ⟨c, r, hd, hc, hcd⟩ := dec_head (n := z.natAbs) (by omega)
    have hlen : (c :: r).length ≤ 400 := by rw [← hd, decDigits_length]; exact hz
    have hne : (decZ z == [48]) = false := by
      rw [beq_eq_false_iff_ne]
      intro h
      exact h0 (decZ_inj (h.trans dec_zero.symm))
    have HDG : Hid (∀ x ∈ c :: r, isDg x) := by rw [Hid, ← hd]; exact dec_digits _
    have hnat : c.toNat ≠ 48 := fun h => hc (UInt8.toNat.inj (by rw [show (48 : UInt8).toNat = 48 from rfl]; omega))
    obtain ⟨S, hS⟩ : ∃ S : ByteArray, S = ⟨(c :: r).toArray⟩ := ⟨_, rfl⟩
    have hsz : S.size = (c :: r).length := by rw [hS]; rfl
    have HGET : Hid (∀ k (hk : k < S.size), 48 ≤ S[k].toNat ∧ S[k].toNat ≤ 57) := by
      intro k hk
      subst hS
      exact HDG.out ((c :: r)[k]) (by simp)
    have hp0 : 0 < S.size := by rw [hsz]; simp
    have hs48 : (((S[0]'hp0).toNat : Int) == 48) = false := by
      subst hS
      rw [beq_eq_false_iff_ne]
      intro h
      have : c.toNat = 48 := by
        have h2 : (c.toNat : Int) = 48 := h
        omega
      exact hnat this
    have hs400 : S.size ≤ 400 := by rw [hsz]; exact hlen
    have HS := Lib.hid hS
    have hsi : (S.size : Int) ≤ 400 := by omega
    have hsi0 : ((S.size : Int) == 0) = false := by rw [beq_eq_false_iff_ne]; omega
    have hsi1 : ¬ (S.size : Int) = 0 := by omega
    rcases Int.lt_or_le z 0 with hneg | hpos
    · have hz2 : decZ z = 45 :: c :: r := by rw [decZ_neg hneg, hd]
      rw [hz2] at hne ⊢
      have hsl : (ByteArray.mk (45 :: c :: r).toArray).extract 1 (r.length + 1 + 1) = S := by
        rw [ext_text, hS]
        congr 2
        rw [List.take_of_length_le (by simp)]
        rfl
      clear hd hc hcd hlen hS hz2 h0 hz HDG hsz hneg
      go_enter Tryz.func56, Tryz.ntmps56
      go_wp2_with fail
      clear hsl
      go_loop [4] (fun v4 => ∃ k : Nat, k ≤ S.size ∧ v4 = .int .i64 k) (fun v4 => S.size - (RowKit.intOf v4).toNat)
      case atStart => exact ⟨0, Nat.zero_le _, rfl⟩
      case round =>
        obtain ⟨k, hk, rfl⟩ := hrel
        by_cases hlt : k < S.size
        · have hdg := HGET.out k hlt
          have hx1 : ¬ (S[k].toNat : Int) < 48 := by omega
          have hx2 : ¬ (57 : Int) < S[k].toNat := by omega
          clear hdg
          go_wp2
          go_round
          case rel => exact ⟨k + 1, by omega, by go_num⟩
          case measure => simp [RowKit.intOf]; omega
        · go_wp2
          go_ret
          exact ⟨rfl, rfl⟩
    · have hz2 : decZ z = c :: r := by rw [decZ_pos hpos, hd]
      have hne1 : (S.toList == [48]) = false := by
        have e : S.toList = c :: r := by
          rw [HS.out]; exact ByteArray.toList_mk _
        rw [e, ← hz2]
        exact hne
      rw [hz2]
      rw [← HS.out]
      have hs45 : (((S[0]'hp0).toNat : Int) == 45) = false := by
        rw [beq_eq_false_iff_ne]
        have := (HGET.out 0 hp0).1
        omega
      clear hd hc hcd hlen hS hz2 h0 hz HDG hsz hpos hne
      go_enter Tryz.func56, Tryz.ntmps56
      go_wp2_with fail
      go_loop [4] (fun v4 => ∃ k : Nat, k ≤ S.size ∧ v4 = .int .i64 k) (fun v4 => S.size - (RowKit.intOf v4).toNat)
      case atStart => exact ⟨0, Nat.zero_le _, rfl⟩
      case round =>
        obtain ⟨k, hk, rfl⟩ := hrel
        by_cases hlt : k < S.size
        · have hdg := HGET.out k hlt
          have hx1 : ¬ (S[k].toNat : Int) < 48 := by omega
          have hx2 : ¬ (57 : Int) < S[k].toNat := by omega
          clear hdg
          go_wp2
          go_round
          case rel => exact ⟨k + 1, by omega, by go_num⟩
          case measure => simp [RowKit.intOf]; omega
        · go_wp2
          go_ret
          exact ⟨rfl, rfl⟩
end Go.Proofs.YthalpbjkkfkheaaGreatDoor
/- joinlearnref01: Read. -/
namespace Go.Proofs.YthalpbjkkfkheaaGreatDoor
open Go.RowKit Go.Lib

/-- what Read's loop has read: the limbs r, and the text T of m before them -/
def RReading (n : Nat) (T : List UInt8) (r : List Nat) (m : Nat) : Prop :=
  Dig r ∧ val r + B9 ^ r.length * m = n ∧ (T = decDigits m ∨ (T = [] ∧ m = 0))
theorem numL_bound (l : List UInt8) (a : Nat) (h : ∀ c ∈ l, isDg c) : numL a l < (a + 1) * 10 ^ l.length := by
  induction l generalizing a with
  | nil => rw [numL_nil]; simp
  | cons c r ih =>
    have hc := h c (by simp)
    unfold isDg at hc
    rw [numL_cons, List.length_cons, Nat.pow_succ]
    refine Nat.lt_of_lt_of_le (ih _ (fun x hx => h x (by simp [hx]))) ?_
    rw [Nat.mul_comm (10 ^ r.length) 10, ← Nat.mul_assoc]
    exact Nat.mul_le_mul_right _ (by omega)
theorem numL_pad9 {x : Nat} (h : x < B9) : numL 0 (padk 9 x) = x := by rw [numL_padk 9 x 0 h]; omega
/-- one round: where the limb's text begins, what it says, what is left -/
theorem rreading_round {n m : Nat} {T : List UInt8} {r : List Nat} (h : RReading n T r m) (hT : 0 < T.length) :
    ∃ (k m' : Nat), k = T.length - 9 ∧ (∀ c ∈ T, isDg c) ∧ numL 0 (T.drop k) < B9 ∧ RReading n (T.take k) (r ++ [numL 0 (T.drop k)]) m' := by
  obtain ⟨hd, hv, rfl | ⟨rfl, _⟩⟩ := h
  · by_cases hm : m < B9
    · have h9 := (pad9 hm).1
      refine ⟨0, 0, by rw [decDigits_length]; omega, dec_digits m, by rw [List.drop_zero, numL_dec]; exact hm, ?_⟩
      rw [List.drop_zero, numL_dec, List.take_zero]
      exact ⟨hd.snoc hm, by rw [val_snoc, Nat.mul_zero, Nat.add_zero]; exact hv, .inr ⟨rfl, rfl⟩⟩
    · have hm' : B9 ≤ m := Nat.le_of_not_lt hm
      have hs := dec_split hm'
      have hl : nDigits m = nDigits (m / B9) + 9 := by rw [← decDigits_length, hs, List.length_append, padk_length, decDigits_length]
      have hx : m % B9 < B9 := Nat.mod_lt _ (by decide)
      have hdr : (decDigits m).drop (nDigits (m / B9)) = padk 9 (m % B9) := by rw [hs, ← decDigits_length (m / B9), List.drop_left]
      have hnm : numL 0 (padk 9 (m % B9)) = m % B9 := numL_pad9 hx
      refine ⟨nDigits (m / B9), m / B9, by rw [decDigits_length]; omega, dec_digits m, by rw [hdr, hnm]; exact hx, ?_⟩
      rw [hdr, hnm]
      refine ⟨hd.snoc hx, ?_, .inl ?_⟩
      · rw [val_snoc, List.length_append, List.length_singleton, Nat.pow_succ, ← hv, Nat.mul_assoc, Nat.add_assoc, ← Nat.mul_add]
        congr 2
        rw [Nat.add_comm]
        exact Nat.div_add_mod m B9
      · rw [hs, ← decDigits_length (m / B9), List.take_left]
  · simp at hT
theorem rreading_end {n m : Nat} {T : List UInt8} {r : List Nat} (h : RReading n T r m) (hT : ¬ 0 < T.length) : Dig r ∧ val r = n := by
  obtain ⟨hd, hv, rfl | ⟨rfl, rfl⟩⟩ := h
  · rw [decDigits_length] at hT
    exact absurd (nDigits_pos m) hT
  · rw [Nat.mul_zero, Nat.add_zero] at hv
    exact ⟨hd, hv⟩

/-- the length of a string -/
def strLen (v : Value) : Nat := match v with
  | .string s => s.size
  | _ => 0
set_option maxRecDepth 100000 in
set_option maxHeartbeats 8000000 in
theorem rread_any (z : Int) (w : World) (hf : FitZ' z) :
    Calls Tryz.prog 57 #[.string ⟨(decZ z).toArray⟩] w fun e w' => ∃ v, e = .returned v ∧ BigV w' v z ∧ Ext w w' := by
  have hdl : nDigits z.natAbs ≤ 9000000 := by
    unfold FitZ' Fit at hf
    by_cases h0 : toL z.natAbs = []
    · rw [toL_eq_nil.1 h0, nDigits_small (by decide)]; decide
    · have h1 := digits_limbs (toL_canon z.natAbs) h0
      rw [val_toL] at h1
      have h2 := (pad9 ((toL_canon z.natAbs).1.getElem (k := (toL z.natAbs).length - 1) (by have := List.length_pos_iff.2 h0; omega))).1
      rw [← List.getLast_eq_getElem h0] at h2
      omega
  clear hf
  obtain ⟨neg, hneg⟩ : ∃ neg, neg = decide (z < 0) := ⟨_, rfl⟩
  have HZ : Hid (signed neg z.natAbs = z) := by rw [hneg]; unfold Hid signed; by_cases h : z < 0 <;> simp [h] <;> omega
  obtain ⟨n, hn⟩ : ∃ n, n = z.natAbs := ⟨_, rfl⟩
  rw [← hn] at HZ hdl
  rcases Int.lt_or_le z 0 with hz | hz
  · have hz2 := decZ_neg hz
    rw [← hn] at hz2
    rw [decide_eq_true hz] at hneg
    rw [hz2]
    have HD : Hid (decDigits n = decDigits n) := rfl
    have hsl : (ByteArray.mk (45 :: decDigits n).toArray).extract 1 ((decDigits n).length + 1) = ⟨(decDigits n).toArray⟩ := by
      rw [ext_text, List.take_of_length_le (by simp)]
      rfl
    clear hz2 hz hn
    go_enter Tryz.func57, Tryz.ntmps57
    go_wp2_with fail
    refine box2 (P := fun W => Code.wp _ _ _ _ W) fun W HX0 HR0 HB0 => ?_
    obtain ⟨b0, b1⟩ := HB0.out.two
    have fb0 := HB0.out.frozen 0
    have HB : Hid (Blk ((W.setCell ⟨w.heap.size + 1, 0, none⟩ (.bool true)).drew) (w.heap.size + 1) tBig [.bool true, .slice none 0 0]) := (HB0.out.set_ 0 (.bool true)).drew
    have HR : Hid (Blk ((W.setCell ⟨w.heap.size + 1, 0, none⟩ (.bool true)).drew) w.heap.size tBig [.bool false, .slice none 0 0]) := (HR0.out.far (p := ⟨w.heap.size + 1, 0, none⟩) (ne1 _) _).drew
    have HX : Hid (Ext w ((W.setCell ⟨w.heap.size + 1, 0, none⟩ (.bool true)).drew)) := (HX0.out.setCell (p := ⟨w.heap.size + 1, 0, none⟩) (Nat.le_succ _) _).drew
    go_region
    clear hsl b0 b1 fb0
    subst hneg
    generalize (W.setCell ⟨w.heap.size + 1, 0, none⟩ (.bool true)).drew = W1 at *
    go_wp2_with fail
    go_loopw [3, 5, 6, 7] (fun v3 _ _ _ wr => ∃ (T : List UInt8) (m : Nat) (r : List Nat) (A : Option Addr) (c : Nat), v3 = .string ⟨T.toArray⟩ ∧ Hid (RReading n T r m) ∧ (T.length = 0 ∨ T.length + 9 * r.length ≤ 9000000) ∧ 9 * r.length ≤ 9000009 ∧ Hid (wr.ownsRow (w.heap.size + 1 + 1) tI 1 (.slice A r.length c) r.length (i64s r)) ∧ Hid (Blk wr (w.heap.size + 1) tBig [.bool true, .slice A r.length c]) ∧ Hid (Blk wr w.heap.size tBig [.bool false, .slice none 0 0]) ∧ Hid (Ext w wr)) (fun v3 _ _ _ _ => strLen v3)
    case atStart => exact ⟨decDigits n, n, [], none, 0, rfl, ⟨Dig.nil, by simp, .inl rfl⟩, by rw [decDigits_length]; simp; omega, by simp, World.ownsRow_nil _ _ _ _, HB, HR, HX⟩
    case round =>
      obtain ⟨T, m, r, A, c, rfl, HRD, hTl, hr9, HOW, HB1, HR1, HX1⟩ := hrel
      obtain ⟨k0, k1⟩ := HB1.out.two
      have f1 := HB1.out.frozen 1
      have hsz : w.heap.size + 1 + 1 ≤ wr.heap.size := by have := HB1.out.lt; omega
      by_cases hT : 0 < T.length
      · obtain ⟨k, m', hk, hdg, hxB, hrd⟩ := rreading_round HRD.out hT
        have hmax : max (0 : Int) ((T.length : Int) - 9) = (k : Int) := by omega
        have HK := Lib.hid hk
        have HDG := Lib.hid hdg
        have HRR := Lib.hid hrd
        have HXB := Lib.hid hxB
        have hkl : k ≤ T.length := by omega
        have hk9 : T.length ≤ k + 9 := by omega
        clear hk hdg hrd hxB
        go_wp2_with fail
        clear hmax
        obtain ⟨wo, rfl⟩ : ∃ wo : World, wo = wr := ⟨_, rfl⟩
        go_loop [6, 7] (fun v6 v7 => ∃ i : Nat, k ≤ i ∧ i ≤ T.length ∧ v7 = .int .i64 i ∧ v6 = .int .i64 (numL 0 ((T.take i).drop k) : Nat)) (fun _ v7 => T.length - (RowKit.intOf v7).toNat)
        case atStart => exact ⟨k, Nat.le_refl _, hkl, rfl, by rw [List.drop_of_length_le (by rw [List.length_take]; omega), numL_nil]; rfl⟩
        case round =>
          obtain ⟨i, hki, hiT, rfl, rfl⟩ := hrel
          by_cases hlt : i < T.length
          · have hgi : ∃ d : Nat, d < 10 ∧ T[i].toNat = 48 + d := by
              have := HDG.out T[i] (by simp)
              unfold isDg at this
              exact ⟨T[i].toNat - 48, by omega, by omega⟩
            obtain ⟨d, hd10, hTi⟩ := hgi
            have hi' : i < (ByteArray.mk T.toArray).size := hlt
            have hgi : (((ByteArray.mk T.toArray)[i]'hi').toNat : Int) = 48 + (d : Int) := by
              show (T[i].toNat : Int) = _
              omega
            have HST : Hid (numL 0 ((T.take (i + 1)).drop k) = 10 * numL 0 ((T.take i).drop k) + d) := by
              rw [Hid, List.take_succ_eq_append_getElem hlt, List.drop_append_of_le_length (by rw [List.length_take]; omega), numL_snoc, hTi]
              omega
            have hnb : numL 0 ((T.take i).drop k) < 1000000000 := by
              have h1 := numL_bound ((T.take i).drop k) 0 (fun c hc => HDG.out c (List.mem_of_mem_take (List.mem_of_mem_drop hc)))
              have h2 : 10 ^ ((T.take i).drop k).length ≤ 10 ^ 9 := Nat.pow_le_pow_right (by decide) (by rw [List.length_drop, List.length_take]; omega)
              omega
            generalize numL 0 ((T.take i).drop k) = y at *
            clear hTi
            go_wp2
            go_round
            case rel => exact ⟨i + 1, by omega, by omega, by go_num, by rw [HST.out]; exact congrArg _ (by omega)⟩
            case measure => simp [RowKit.intOf]; omega
          · obtain rfl : i = T.length := by omega
            have hxe : (T.take T.length).drop k = T.drop k := by rw [List.take_of_length_le (Nat.le_refl _)]
            rw [hxe]
            have hxB := HXB.out
            unfold B9 at hxB
            generalize numL 0 (T.drop k) = x at *
            clear hxe
            have htk : (ByteArray.mk T.toArray).extract 0 k = ⟨(T.take k).toArray⟩ := by rw [ext_text, List.drop_zero]
            go_wp2_with (at_builtin; refine wpList_app1 rfl _ _ tIs rfl (w.heap.size + 1 + 1) int_slice _ _ _ rfl HOW.out #[.int .i64 (x : Int)] 1 1 rfl rfl rfl (by omega) hsz ?_)
            intro v' w3 ho3 hg3 hb3
            obtain ⟨A3, c3, rfl, hc3, _, _⟩ := own_parts ho3
            have HB3 : Hid (Blk w3 (w.heap.size + 1) tBig [.bool true, .slice A r.length c]) := (hg3.block (w.heap.size + 1) HB1.out.lt (fun h => by have := (HOW.out.lt _ h.symm).1; omega)).trans HB1.out
            have HR3 : Hid (Blk w3 w.heap.size tBig [.bool false, .slice none 0 0]) := (hg3.block w.heap.size HR1.out.lt (fun h => by have := (HOW.out.lt _ h.symm).1; omega)).trans HR1.out
            have HX3 : Hid (Ext w w3) := Below.grown HX1.out hg3 HX1.out.size (fun k hk => by have := (HOW.out.lt k hk).1; omega)
            have HO3 : Hid (w3.ownsRow (w.heap.size + 1 + 1) tI 1 (.slice A3 (r.length + 1) c3) (r ++ [x]).length (i64s (r ++ [x]))) := by
              rw [Hid, List.length_append, i64s_snoc]
              exact ho3
            obtain ⟨k0, k1⟩ := HB3.out.two
            have f1 := HB3.out.frozen 1
            have HB4 := Lib.hid (HB3.out.set_ 1 (.slice A3 (r.length + 1) c3))
            clear ho3 hg3 hb3
            go_wp2
            go_roundw
            case rel =>
              refine ⟨T.take k, m', r ++ [x], A3, c3, rfl, HRR, by rw [List.length_take, List.length_append, List.length_singleton]; have := HK.out; omega, by rw [List.length_append, List.length_singleton]; omega, ?_, ?_, HR3.out.far (p := ⟨w.heap.size + 1, 1, none⟩) (ne1 _) _, HX3.out.setCell (p := ⟨w.heap.size + 1, 1, none⟩) (Nat.le_succ _) _⟩
              · rw [List.length_append] at *; exact own_far HO3.out (by show w.heap.size + 1 < w.heap.size + 1 + 1; omega) _
              · rw [List.length_append] at *; exact HB4.out
            case measure => simp [strLen, ByteArray.size]; have := HK.out; omega
      · have HE := Lib.hid (rreading_end HRD.out hT)
        obtain ⟨A', c', e, hc, _, hsl⟩ := own_parts HOW.out
        injection e with e1 e2 e3
        subst e1 e3
        have HSL := Lib.hid hsl
        clear hsl
        go_wp2_with fail
        refine (rtrim_any _ true r wr ⟨A, c, rfl, own_cap HOW.out, HE.out.1, HSL.out⟩ (by omega)).mono ?_
        rintro e w2 ⟨v2, rfl, hv2, hx2⟩
        rw [HE.out.2, HZ.out] at hv2
        obtain ⟨b2, A2, n2, c2, rfl, HV2⟩ := hv2.parts
        have HR2 := Lib.hid (HR1.out.ext hx2)
        have HX2 := Lib.hid (HX1.out.trans hx2)
        obtain ⟨r0, r1⟩ := HR2.out.two
        have fr0 := HR2.out.frozen 0
        have fr1 := HR2.out.frozen 1
        clear hv2 hx2
        go_wp2
        exact ret_big rfl rfl rfl HR2.out HV2.out HX2.out (Nat.le_refl _) (fun v W' h1 h2 => ⟨v, rfl, h1, h2⟩)
  · have hz2 := decZ_pos hz
    rw [← hn] at hz2
    rw [decide_eq_false (by omega)] at hneg
    rw [hz2]
    obtain ⟨c0, r0, hcr⟩ : ∃ c0 r0, decDigits n = c0 :: r0 := by
      rcases hd : decDigits n with _ | ⟨c0, r0⟩
      · exact absurd hd (dec_ne_nil n)
      · exact ⟨c0, r0, rfl⟩
    have hdg := dec_digits n c0 (by rw [hcr]; simp)
    have hne : (decDigits n == []) = false := by rw [hcr]; rfl
    obtain ⟨S, hS⟩ : ∃ S : ByteArray, S = ⟨(decDigits n).toArray⟩ := ⟨_, rfl⟩
    have hp0 : 0 < S.size := by rw [hS]; show 0 < (decDigits n).length; rw [hcr]; simp
    have hs45 : (((S[0]'hp0).toNat : Int) == 45) = false := by
      subst hS
      have e : ((ByteArray.mk (decDigits n).toArray)[0]'hp0) = c0 := by
        show (decDigits n)[0]'_ = c0
        simp [hcr]
      rw [beq_eq_false_iff_ne, e]
      unfold isDg at hdg
      omega
    have hse : (S.toList == []) = false := by
      rw [hS, ByteArray.toList_mk]
      exact hne
    have hse2 : (S.toList != []) = true := by
      rw [bne, hse]
      rfl
    have HS := Lib.hid hS
    rw [← hS]
    clear hz2 hz hn hcr hdg hne hS
    go_enter Tryz.func57, Tryz.ntmps57
    go_wp2_with fail
    obtain rfl := HS.out
    refine box2 (P := fun W => Code.wp _ _ _ _ W) fun W HX HR HB => ?_
    subst hneg
    clear hs45 hse hse2 HS
    go_loopw [3, 5, 6, 7] (fun v3 _ _ _ wr => ∃ (T : List UInt8) (m : Nat) (r : List Nat) (A : Option Addr) (c : Nat), v3 = .string ⟨T.toArray⟩ ∧ Hid (RReading n T r m) ∧ (T.length = 0 ∨ T.length + 9 * r.length ≤ 9000000) ∧ 9 * r.length ≤ 9000009 ∧ Hid (wr.ownsRow (w.heap.size + 1 + 1) tI 1 (.slice A r.length c) r.length (i64s r)) ∧ Hid (Blk wr (w.heap.size + 1) tBig [.bool false, .slice A r.length c]) ∧ Hid (Blk wr w.heap.size tBig [.bool false, .slice none 0 0]) ∧ Hid (Ext w wr)) (fun v3 _ _ _ _ => strLen v3)
    case atStart => exact ⟨decDigits n, n, [], none, 0, rfl, ⟨Dig.nil, by simp, .inl rfl⟩, by rw [decDigits_length]; simp; omega, by simp, World.ownsRow_nil _ _ _ _, HB, HR, HX⟩
    case round =>
      obtain ⟨T, m, r, A, c, rfl, HRD, hTl, hr9, HOW, HB1, HR1, HX1⟩ := hrel
      obtain ⟨k0, k1⟩ := HB1.out.two
      have f1 := HB1.out.frozen 1
      have hsz : w.heap.size + 1 + 1 ≤ wr.heap.size := by have := HB1.out.lt; omega
      by_cases hT : 0 < T.length
      · obtain ⟨k, m', hk, hdg, hxB, hrd⟩ := rreading_round HRD.out hT
        have hmax : max (0 : Int) ((T.length : Int) - 9) = (k : Int) := by omega
        have HK := Lib.hid hk
        have HDG := Lib.hid hdg
        have HRR := Lib.hid hrd
        have HXB := Lib.hid hxB
        have hkl : k ≤ T.length := by omega
        have hk9 : T.length ≤ k + 9 := by omega
        clear hk hdg hrd hxB
        go_wp2_with fail
        clear hmax
        obtain ⟨wo, rfl⟩ : ∃ wo : World, wo = wr := ⟨_, rfl⟩
        go_loop [6, 7] (fun v6 v7 => ∃ i : Nat, k ≤ i ∧ i ≤ T.length ∧ v7 = .int .i64 i ∧ v6 = .int .i64 (numL 0 ((T.take i).drop k) : Nat)) (fun _ v7 => T.length - (RowKit.intOf v7).toNat)
        case atStart => exact ⟨k, Nat.le_refl _, hkl, rfl, by rw [List.drop_of_length_le (by rw [List.length_take]; omega), numL_nil]; rfl⟩
        case round =>
          obtain ⟨i, hki, hiT, rfl, rfl⟩ := hrel
          by_cases hlt : i < T.length
          · have hgi : ∃ d : Nat, d < 10 ∧ T[i].toNat = 48 + d := by
              have := HDG.out T[i] (by simp)
              unfold isDg at this
              exact ⟨T[i].toNat - 48, by omega, by omega⟩
            obtain ⟨d, hd10, hTi⟩ := hgi
            have hi' : i < (ByteArray.mk T.toArray).size := hlt
            have hgi : (((ByteArray.mk T.toArray)[i]'hi').toNat : Int) = 48 + (d : Int) := by
              show (T[i].toNat : Int) = _
              omega
            have HST : Hid (numL 0 ((T.take (i + 1)).drop k) = 10 * numL 0 ((T.take i).drop k) + d) := by
              rw [Hid, List.take_succ_eq_append_getElem hlt, List.drop_append_of_le_length (by rw [List.length_take]; omega), numL_snoc, hTi]
              omega
            have hnb : numL 0 ((T.take i).drop k) < 1000000000 := by
              have h1 := numL_bound ((T.take i).drop k) 0 (fun c hc => HDG.out c (List.mem_of_mem_take (List.mem_of_mem_drop hc)))
              have h2 : 10 ^ ((T.take i).drop k).length ≤ 10 ^ 9 := Nat.pow_le_pow_right (by decide) (by rw [List.length_drop, List.length_take]; omega)
              omega
            generalize numL 0 ((T.take i).drop k) = y at *
            clear hTi
            go_wp2
            go_round
            case rel => exact ⟨i + 1, by omega, by omega, by go_num, by rw [HST.out]; exact congrArg _ (by omega)⟩
            case measure => simp [RowKit.intOf]; omega
          · obtain rfl : i = T.length := by omega
            have hxe : (T.take T.length).drop k = T.drop k := by rw [List.take_of_length_le (Nat.le_refl _)]
            rw [hxe]
            have hxB := HXB.out
            unfold B9 at hxB
            generalize numL 0 (T.drop k) = x at *
            clear hxe
            have htk : (ByteArray.mk T.toArray).extract 0 k = ⟨(T.take k).toArray⟩ := by rw [ext_text, List.drop_zero]
            go_wp2_with (at_builtin; refine wpList_app1 rfl _ _ tIs rfl (w.heap.size + 1 + 1) int_slice _ _ _ rfl HOW.out #[.int .i64 (x : Int)] 1 1 rfl rfl rfl (by omega) hsz ?_)
            intro v' w3 ho3 hg3 hb3
            obtain ⟨A3, c3, rfl, hc3, _, _⟩ := own_parts ho3
            have HB3 : Hid (Blk w3 (w.heap.size + 1) tBig [.bool false, .slice A r.length c]) := (hg3.block (w.heap.size + 1) HB1.out.lt (fun h => by have := (HOW.out.lt _ h.symm).1; omega)).trans HB1.out
            have HR3 : Hid (Blk w3 w.heap.size tBig [.bool false, .slice none 0 0]) := (hg3.block w.heap.size HR1.out.lt (fun h => by have := (HOW.out.lt _ h.symm).1; omega)).trans HR1.out
            have HX3 : Hid (Ext w w3) := Below.grown HX1.out hg3 HX1.out.size (fun k hk => by have := (HOW.out.lt k hk).1; omega)
            have HO3 : Hid (w3.ownsRow (w.heap.size + 1 + 1) tI 1 (.slice A3 (r.length + 1) c3) (r ++ [x]).length (i64s (r ++ [x]))) := by
              rw [Hid, List.length_append, i64s_snoc]
              exact ho3
            obtain ⟨k0, k1⟩ := HB3.out.two
            have f1 := HB3.out.frozen 1
            have HB4 := Lib.hid (HB3.out.set_ 1 (.slice A3 (r.length + 1) c3))
            clear ho3 hg3 hb3
            go_wp2
            go_roundw
            case rel =>
              refine ⟨T.take k, m', r ++ [x], A3, c3, rfl, HRR, by rw [List.length_take, List.length_append, List.length_singleton]; have := HK.out; omega, by rw [List.length_append, List.length_singleton]; omega, ?_, ?_, HR3.out.far (p := ⟨w.heap.size + 1, 1, none⟩) (ne1 _) _, HX3.out.setCell (p := ⟨w.heap.size + 1, 1, none⟩) (Nat.le_succ _) _⟩
              · rw [List.length_append] at *; exact own_far HO3.out (by show w.heap.size + 1 < w.heap.size + 1 + 1; omega) _
              · rw [List.length_append] at *; exact HB4.out
            case measure => simp [strLen, ByteArray.size]; have := HK.out; omega
      · have HE := Lib.hid (rreading_end HRD.out hT)
        obtain ⟨A', c', e, hc, _, hsl⟩ := own_parts HOW.out
        injection e with e1 e2 e3
        subst e1 e3
        have HSL := Lib.hid hsl
        clear hsl
        go_wp2_with fail
        refine (rtrim_any _ false r wr ⟨A, c, rfl, own_cap HOW.out, HE.out.1, HSL.out⟩ (by omega)).mono ?_
        rintro e w2 ⟨v2, rfl, hv2, hx2⟩
        rw [HE.out.2, HZ.out] at hv2
        obtain ⟨b2, A2, n2, c2, rfl, HV2⟩ := hv2.parts
        have HR2 := Lib.hid (HR1.out.ext hx2)
        have HX2 := Lib.hid (HX1.out.trans hx2)
        obtain ⟨r0, r1⟩ := HR2.out.two
        have fr0 := HR2.out.frozen 0
        have fr1 := HR2.out.frozen 1
        clear hv2 hx2
        go_wp2
        exact ret_big rfl rfl rfl HR2.out HV2.out HX2.out (Nat.le_refl _) (fun v W' h1 h2 => ⟨v, rfl, h1, h2⟩)
end Go.Proofs.YthalpbjkkfkheaaGreatDoor
/- joinlearnref01: size, plus, minus. -/
namespace Go.Proofs.YthalpbjkkfkheaaGreatDoor
open Go.RowKit

set_option maxHeartbeats 2000000 in
theorem rsize_any (A1 A2 : Option Addr) (c1 c2 : Nat) (a b : List Nat) (w : World) (h1 : a.length ≤ 1000000000) (_h2 : b.length ≤ 1000000000) (ca : Canon a) (cb : Canon b) (s1 : LmI w A1 a) (s2 : LmI w A2 b) :
    Calls Tryz.prog 61 #[.slice A1 a.length c1, .slice A2 b.length c2] w fun e w' => e = .returned (.int .i64 (cmpN (val a) (val b))) ∧ ∃ n, w' = w.drewN n := by
  have S1 := Lib.hid s1
  have S2 := Lib.hid s2
  have CA := Lib.hid ca
  have CB := Lib.hid cb
  clear s1 s2 ca cb
  by_cases hl : a.length = b.length
  · have hne : ((a.length : Int) != (b.length : Int)) = false := by simp [hl]
    have HL := Lib.hid hl
    have hl1 : a.length ≤ b.length := by omega
    have hl2 : b.length ≤ a.length := by omega
    clear hl
    go_enter Tryz.func61, Tryz.ntmps61
    go_wp2
    go_loopw [5] (fun i wr => ∃ m : Int, i = .int .i64 m ∧ -1 ≤ m ∧ m < a.length ∧ a.drop (m + 1).toNat = b.drop (m + 1).toNat ∧ ∃ q, wr = w.drewN q) (fun i _ => (intOf i + 1).toNat)
    case atStart => exact ⟨(a.length : Int) - 1, rfl, by omega, by omega, by rw [List.drop_of_length_le (by omega), List.drop_of_length_le (by omega)], 0, rfl⟩
    case round =>
      obtain ⟨m, rfl, hm1, hm2, hd, q, rfl⟩ := hrel
      have HD := Lib.hid hd
      clear hd
      by_cases h0 : 0 ≤ m
      · obtain ⟨k, rfl⟩ : ∃ k : Nat, m = k := ⟨m.toNat, by omega⟩
        have hk : k < a.length := by omega
        have hk' : k < b.length := by omega
        obtain ⟨g, o, rfl, _, hcell⟩ := S1.out.at_ (i64s_get hk)
        obtain ⟨g', o', rfl, _, hcell'⟩ := S2.out.at_ (i64s_get hk')
        rcases Nat.lt_trichotomy a[k] b[k] with h | h | h
        · have HV : Hid (cmpN (val a) (val b) = -1) := cmpN_lt (val_lt_of_at CA.out.1 HL.out k hk h HD.out)
          go_wp2
          go_quiet (fail)
          go_wp2
          rw [HV.out]
          go_ret
          exact ⟨rfl, drew2 _ _ _⟩
        · have HE := Lib.hid h
          have h1 : ¬ a[k] < b[k] := by omega
          have h2 : ¬ b[k] < a[k] := by omega
          clear h
          go_wp2
          go_quiet (fail)
          go_wp2
          go_quiet (fail)
          go_wp2
          go_roundw
          case rel =>
            refine ⟨(k : Int) - 1, by go_num, by omega, by omega, ?_, _, rfl⟩
            have e1 : ((k : Int) - 1 + 1).toNat = k := by omega
            have e2 : ((k : Int) + 1).toNat = k + 1 := by omega
            have := HD.out
            rw [e2] at this
            rw [e1, List.drop_eq_getElem_cons hk, List.drop_eq_getElem_cons hk', this, HE.out]
          case measure => simp [intOf]
        · have HV : Hid (cmpN (val a) (val b) = 1) := cmpN_gt (val_lt_of_at CB.out.1 HL.out.symm k hk' h HD.out.symm)
          have h1 : ¬ a[k] < b[k] := by omega
          go_wp2
          go_quiet (fail)
          go_wp2
          go_quiet (fail)
          go_wp2
          rw [HV.out]
          go_ret
          exact ⟨rfl, drew3 _ _ _ _⟩
      · have HV : Hid (cmpN (val a) (val b) = 0) := by
          obtain rfl : m = -1 := by omega
          have := HD.out
          simp at this
          rw [this]
          exact cmpN_eq rfl
        go_wp2
        rw [HV.out]
        go_ret
        exact ⟨rfl, _, rfl⟩
  · have hne : ((a.length : Int) != (b.length : Int)) = true := by simp; omega
    rcases Nat.lt_or_gt_of_ne hl with h | h
    · have HV : Hid (cmpN (val a) (val b) = -1) := cmpN_lt (val_lt_of_length CA.out CB.out h)
      clear hl
      go_enter Tryz.func61, Tryz.ntmps61
      go_wp2
      go_ret
      exact ⟨ret_int HV.out.symm, 0, rfl⟩
    · have HV : Hid (cmpN (val a) (val b) = 1) := cmpN_gt (val_lt_of_length CB.out CA.out h)
      have h' : ¬ a.length < b.length := by omega
      clear hl
      go_enter Tryz.func61, Tryz.ntmps61
      go_wp2
      go_ret
      exact ⟨ret_int HV.out.symm, 0, rfl⟩

/-- minus: the cells at place k: digits behind, the limb less a borrow, the limbs ahead -/
def subCells (a r : List Nat) (k c : Nat) : List Value := i64s r ++ (if k < a.length then .int .i64 ((limb a k : Int) - c) :: i64s (a.drop (k + 1)) else [])
theorem subCells_at {a r : List Nat} {k c : Nat} (hr : r.length = k) (hk : k < a.length) : (subCells a r k c)[k]? = some (.int .i64 ((limb a k : Int) - c)) := by
  rw [subCells, if_pos hk, List.getElem?_append_right (by rw [i64s_length]; omega), i64s_length, hr]
  simp
theorem subCells_next {a r : List Nat} {k c : Nat} (hr : r.length = k) (hk : k + 1 < a.length) : (subCells a r k c)[k + 1]? = some (.int .i64 (limb a (k + 1) : Nat)) := by
  rw [subCells, if_pos (by omega), List.getElem?_append_right (by rw [i64s_length]; omega), i64s_length, hr, show k + 1 - k = 0 + 1 by omega, List.getElem?_cons_succ, i64s_get (by rw [List.length_drop]; omega), limb_of hk]
  simp
theorem subCells_set {a r : List Nat} {k c p : Nat} (hr : r.length = k) (hk : k < a.length) : (subCells a r k c).set k (.int .i64 (p : Int)) = subCells a (r ++ [p]) (k + 1) 0 := by
  rw [subCells, subCells, if_pos hk, List.set_append_right _ _ (by rw [i64s_length]; omega), i64s_length, hr, Nat.sub_self, List.set_cons_zero, i64s_snoc, List.append_assoc]
  congr 1
  rw [List.singleton_append]
  congr 1
  by_cases h : k + 1 < a.length
  · rw [if_pos h, drop_limb _ _ h]
    simp [i64s]
  · rw [if_neg h, List.drop_of_length_le (by omega)]
    rfl
theorem subCells_borrow {a r : List Nat} {k : Nat} (hr : r.length = k) (hk : k < a.length) : (subCells a r k 0).set k (.int .i64 ((limb a k : Int) - 1)) = subCells a r k 1 := by
  rw [subCells, subCells, if_pos hk, if_pos hk, List.set_append_right _ _ (by rw [i64s_length]; omega), i64s_length, hr, Nat.sub_self, List.set_cons_zero]
  rfl
end Go.Proofs.YthalpbjkkfkheaaGreatDoor
/- joinlearnref01: minus. -/
namespace Go.Proofs.YthalpbjkkfkheaaGreatDoor
open Go.RowKit

theorem subCells_self {a r : List Nat} {k c : Nat} (hr : r.length = k) (hk : k < a.length) : (subCells a r k c).set k (.int .i64 ((limb a k : Int) - c)) = subCells a r k c := by
  rw [subCells, if_pos hk, List.set_append_right _ _ (by rw [i64s_length]; omega), i64s_length, hr, Nat.sub_self, List.set_cons_zero]
theorem subCells_length {a r : List Nat} {k c : Nat} (hr : r.length = k) (hk : k ≤ a.length) : (subCells a r k c).length = a.length := by
  rw [subCells, List.length_append, i64s_length]
  split
  · rw [List.length_cons, i64s_length, List.length_drop]; omega
  · simp; omega
theorem subCells_start (a : List Nat) : subCells a [] 0 0 = i64s a := by
  unfold subCells
  rcases a with _ | ⟨x, l⟩
  · rfl
  · simp [i64s, limb]
theorem subCells_end {a r : List Nat} {k c : Nat} (hk : ¬ k < a.length) : subCells a r k c = i64s r := by
  rw [subCells, if_neg hk, List.append_nil]
/-- no borrow is left behind the last limb -/
theorem sub_last {a b r : List Nat} {c : Nat} (ha : Canon a) (hb : Canon b) (hle : val b ≤ val a) (hr : r.length = a.length) (hd : Dig r) (h : val r + val (b.take a.length) = val (a.take a.length) + B9 ^ a.length * c) : c = 0 := by
  have hl := length_le_of_val ha hb hle
  rw [List.take_of_length_le hl, List.take_of_length_le (Nat.le_refl _)] at h
  have hv := val_lt hd
  rw [hr] at hv
  rcases Nat.eq_zero_or_pos c with h0 | h0
  · exact h0
  · have := Nat.le_mul_of_pos_right (B9 ^ a.length) h0
    omega

theorem own_fresh {w : World} {base : Nat} {e : TypeId} {size n c : Nat} {A : Option Addr} {xs : List Value} (h : w.ownsRow base e size (.slice A n c) n xs) : ∀ ad, A = some ad → base ≤ ad.block := by
  rcases h.2 with ⟨hv, _⟩ | ⟨g, cap, cur, hv, hb, _⟩
  · injection hv with h1
    intro ad h0
    rw [h1] at h0
    cases h0
  · injection hv with h1
    intro ad h0
    rw [h1] at h0
    injection h0 with h0
    subst h0
    exact hb
set_option maxRecDepth 100000 in
set_option maxHeartbeats 8000000 in
theorem rminus_any (A1 A2 : Option Addr) (c1 c2 : Nat) (a b : List Nat) (w : World) (h1 : a.length ≤ 10000000) (h2 : b.length ≤ 10000000) (hcp : Cap A1 a.length c1) (ca : Canon a) (cb : Canon b) (hle : val b ≤ val a) (s1 : LmI w A1 a) (s2 : LmI w A2 b) :
    Calls Tryz.prog 85 #[.slice A1 a.length c1, .slice A2 b.length c2] w fun e w' => ∃ A r c, Cap A r.length c ∧ (∀ ad, A = some ad → w.heap.size ≤ ad.block) ∧ r.length ≤ 10000001 ∧ e = .returned (.slice A r.length c) ∧ Dig r ∧ val r = val a - val b ∧ LmI w' A r ∧ Ext w w' := by
  have S1 := Lib.hid s1
  have S2 := Lib.hid s2
  have CA := Lib.hid ca
  have CB := Lib.hid cb
  have HL := Lib.hid hle
  have HCP := Lib.hid hcp
  clear s1 s2 ca cb hle hcp
  go_enter Tryz.func85, Tryz.ntmps85
  go_wp2_with (at_builtin; refine wpList_app rfl (.const _) (.tmp 7) tIs rfl w.heap.size int_slice _ 0 [] rfl (World.ownsRow_nil _ _ _ _) A1 a.length c1 (i64s a) rfl HCP.out.2 (by rw [i64s_length]; omega) S1.out (by intro u hu; simp [i64s] at hu; obtain ⟨x, _, rfl⟩ := hu; rfl) (by omega) (Nat.le_refl _) ?_)
  intro v1 w1 ho1 hg1 _
  have ho1 : w1.ownsRow w.heap.size tI 1 v1 a.length (i64s a) := by simpa using ho1
  have HX0 : Hid (Ext w w1) := Below.grown (Ext.refl w) hg1 (Nat.le_refl _) (fun k hk => by simp [Value.ownBlock] at hk)
  obtain ⟨A, cp, rfl, _, _, _⟩ := own_parts ho1
  by_cases h0 : a.length = 0
  · have ha0 : a = [] := List.eq_nil_of_length_eq_zero h0
    subst ha0
    have HC1 := Lib.hid (own_cap ho1)
    have HF1 := Lib.hid (own_fresh ho1)
    clear ho1 hg1 h0
    go_wp2
    go_loop [6] (fun v6 => v6 = .int .i64 0) (fun _ => 0)
    case atStart => rfl
    case round =>
      subst hrel
      go_wp2
      go_ret
      exact ⟨A, [], cp, HC1.out, HF1.out, by simp, rfl, Dig.nil, by simp, Sl.nil, HX0.out⟩
  · obtain ⟨g, rfl, hgb, _, _⟩ := own_at ho1 (by omega)
    have HO0 : Hid (w1.ownsRow w.heap.size tI 1 (.slice (some ⟨g, 0, none⟩) a.length cp) a.length (subCells a [] 0 0)) := by rw [Hid, subCells_start]; exact ho1
    clear ho1 hg1
    go_wp2
    go_loopw [6] (fun v6 wr => ∃ (k c : Nat) (r : List Nat), k ≤ a.length ∧ v6 = .int .i64 k ∧ c ≤ 1 ∧ (k = a.length → c = 0) ∧ r.length = k ∧ Dig r ∧ Hid (val r + val (b.take k) = val (a.take k) + B9 ^ k * c) ∧ Hid (wr.ownsRow w.heap.size tI 1 (.slice (some ⟨g, 0, none⟩) a.length cp) a.length (subCells a r k c)) ∧ Hid (Ext w wr)) (fun v6 _ => a.length - (RowKit.intOf v6).toNat)
    case atStart => exact ⟨0, 0, [], Nat.zero_le _, rfl, by omega, by omega, rfl, Dig.nil, by simp [Hid], HO0, HX0⟩
    case round =>
      obtain ⟨k, c, r, hk, rfl, hc, hkc, hr, hd, HV, HO, HX⟩ := hrel
      have HR := Lib.hid hr
      have HD := Lib.hid hd
      clear hr hd
      by_cases hka : k < a.length
      · have ha := CA.out.1.getD k
        have hb := CB.out.1.getD k
        unfold B9 at ha hb
        obtain ⟨T, hT⟩ : ∃ T, T + limb b k + c = limb a k + B9 := ⟨limb a k + B9 - limb b k - c, by unfold B9; omega⟩
        have hA := sub_round HR.out HV.out hT
        have HT := Lib.hid hT
        have HX1 := HX
        clear hT
        have hcell := HO.out.cellAt k (by omega)
        rw [subCells_at HR.out hka] at hcell
        have hfr := HO.out.frozenAt k
        by_cases hkb : k < b.length
        · obtain ⟨g2, o2, rfl, _, hcell2⟩ := (S2.out.ext HX.out).at_ (i64s_get hkb)
          rw [← limb_of hkb] at hcell2
          have HO1 := Lib.hid (HO.out.stored k (.int .i64 ((limb a k : Int) - c - limb b k))).1.drew
          have HX1 : Hid (Ext w ((wr.setCell ⟨g, k, none⟩ (.int .i64 ((limb a k : Int) - c - limb b k))).drew)) := (HX.out.setCell (p := ⟨g, k, none⟩) hgb _).drew
          go_wp2
          go_region
          clear hcell hcell2 hfr
          generalize (wr.setCell ⟨g, k, none⟩ (.int .i64 ((limb a k : Int) - c - limb b k))).drew = w4 at *
          have hcell1 : w4.cell? ⟨g, k, none⟩ = some (.int .i64 ((limb a k : Int) - c - limb b k)) := by rw [HO1.out.cellAt k (by omega), List.getElem?_set_self (by rw [subCells_length HR.out (by omega)]; omega)]
          have hfr1 := HO1.out.frozenAt k
          by_cases hneg : ((limb a k : Int) - c - limb b k) < 0
          · have hT1 : T / B9 = 0 := by have := HT.out; unfold B9 at this ⊢; omega
            have hT2 : T % B9 = T := by have := HT.out; unfold B9 at this ⊢; omega
            have hA1 := hA (by omega)
            rw [hT1, hT2] at hA1
            have hTB : T < 1000000000 := by have := HT.out; unfold B9 at this; omega
            have hVT : ((limb a k : Int) - c - limb b k) + 1000000000 = (T : Int) := by have := HT.out; unfold B9 at this; omega
            have hk1 : k + 1 < a.length := by
              rcases Nat.lt_or_ge (k + 1) a.length with h | h
              · exact h
              · have e : k + 1 = a.length := by omega
                have := sub_last CA.out CB.out HL.out (r := r ++ [T]) (c := 1) (by simp [HR.out, e]) (HD.out.snoc hTB) (by rw [← e]; exact hA1)
                omega
            have HO2 := Lib.hid (HO1.out.stored k (.int .i64 (T : Int))).1
            rw [List.set_set, subCells_set HR.out (by omega)] at HO2
            have hr1 : (r ++ [T]).length = k + 1 := by simp [HR.out]
            have hcell2 : (w4.setCell ⟨g, k, none⟩ (.int .i64 (T : Int))).cell? ⟨g, k + 1, none⟩ = some (.int .i64 (limb a (k + 1) : Nat)) := by
              rw [HO2.out.cellAt (k + 1) (by omega), subCells_at hr1 hk1]
              simp
            have hfr2 := HO2.out.frozenAt (k + 1)
            have hlb := CA.out.1.getD (k + 1)
            unfold B9 at hlb
            have HO3 := Lib.hid (HO2.out.stored (k + 1) (.int .i64 ((limb a (k + 1) : Int) - 1))).1
            rw [subCells_borrow hr1 hk1] at HO3
            generalize limb a (k + 1) = y1 at *
            have HA1 := Lib.hid hA1
            have HVT := Lib.hid hVT
            clear hA hA1 hT1 hT2
            go_wp2
            go_roundw
            case rel => exact ⟨k + 1, 1, r ++ [T], by omega, by go_num, Nat.le_refl _, by omega, hr1, HD.out.snoc hTB, HA1, HO3, (HX1.out.setCell (p := ⟨g, k, none⟩) hgb _).setCell (p := ⟨g, k + 1, none⟩) hgb _⟩
            case measure => simp [RowKit.intOf]; omega
          · have hT1 : T / B9 = 1 := by have := HT.out; unfold B9 at this ⊢; omega
            have hA1 := hA (by omega)
            rw [hT1] at hA1
            have hTB : T % B9 < 1000000000 := Nat.mod_lt _ (by decide)
            have hVT : ((limb a k : Int) - c - limb b k) = ((T % B9 : Nat) : Int) := by have := HT.out; unfold B9 at this ⊢; omega
            have hr1 : (r ++ [T % B9]).length = k + 1 := by simp [HR.out]
            have HO2 : Hid (w4.ownsRow w.heap.size tI 1 (.slice (some ⟨g, 0, none⟩) a.length cp) a.length (subCells a (r ++ [T % B9]) (k + 1) 0)) := by
              have := HO1.out
              rw [hVT, subCells_set HR.out (by omega)] at this
              exact this
            have HA1 := Lib.hid hA1
            clear hA hA1 hT1 hVT
            go_wp2
            go_roundw
            case rel => exact ⟨k + 1, 0, r ++ [T % B9], by omega, by go_num, by omega, by omega, hr1, HD.out.snoc hTB, HA1, HO2, HX1⟩
            case measure => simp [RowKit.intOf]; omega
        · have hz := limb_beyond (l := b) (k := k) (by omega)
          rw [hz] at HT hb
          have HO1 : Hid (wr.ownsRow w.heap.size tI 1 (.slice (some ⟨g, 0, none⟩) a.length cp) a.length ((subCells a r k c).set k (.int .i64 ((limb a k : Int) - c)))) := by rw [Hid, subCells_self HR.out hka]; exact HO.out
          clear hz hcell hfr
          have hcell1 : wr.cell? ⟨g, k, none⟩ = some (.int .i64 ((limb a k : Int) - c)) := by rw [HO1.out.cellAt k (by omega), List.getElem?_set_self (by rw [subCells_length HR.out (by omega)]; omega)]
          have hfr1 := HO1.out.frozenAt k
          by_cases hneg : ((limb a k : Int) - c) < 0
          · have hT1 : T / B9 = 0 := by have := HT.out; unfold B9 at this ⊢; omega
            have hT2 : T % B9 = T := by have := HT.out; unfold B9 at this ⊢; omega
            have hA1 := hA (by omega)
            rw [hT1, hT2] at hA1
            have hTB : T < 1000000000 := by have := HT.out; unfold B9 at this; omega
            have hVT : ((limb a k : Int) - c) + 1000000000 = (T : Int) := by have := HT.out; unfold B9 at this; omega
            have hk1 : k + 1 < a.length := by
              rcases Nat.lt_or_ge (k + 1) a.length with h | h
              · exact h
              · have e : k + 1 = a.length := by omega
                have := sub_last CA.out CB.out HL.out (r := r ++ [T]) (c := 1) (by simp [HR.out, e]) (HD.out.snoc hTB) (by rw [← e]; exact hA1)
                omega
            have HO2 := Lib.hid (HO1.out.stored k (.int .i64 (T : Int))).1
            rw [List.set_set, subCells_set HR.out (by omega)] at HO2
            have hr1 : (r ++ [T]).length = k + 1 := by simp [HR.out]
            have hcell2 : (wr.setCell ⟨g, k, none⟩ (.int .i64 (T : Int))).cell? ⟨g, k + 1, none⟩ = some (.int .i64 (limb a (k + 1) : Nat)) := by
              rw [HO2.out.cellAt (k + 1) (by omega), subCells_at hr1 hk1]
              simp
            have hfr2 := HO2.out.frozenAt (k + 1)
            have hlb := CA.out.1.getD (k + 1)
            unfold B9 at hlb
            have HO3 := Lib.hid (HO2.out.stored (k + 1) (.int .i64 ((limb a (k + 1) : Int) - 1))).1
            rw [subCells_borrow hr1 hk1] at HO3
            generalize limb a (k + 1) = y1 at *
            have HA1 := Lib.hid hA1
            have HVT := Lib.hid hVT
            clear hA hA1 hT1 hT2
            go_wp2
            go_roundw
            case rel => exact ⟨k + 1, 1, r ++ [T], by omega, by go_num, Nat.le_refl _, by omega, hr1, HD.out.snoc hTB, HA1, HO3, (HX1.out.setCell (p := ⟨g, k, none⟩) hgb _).setCell (p := ⟨g, k + 1, none⟩) hgb _⟩
            case measure => simp [RowKit.intOf]; omega
          · have hT1 : T / B9 = 1 := by have := HT.out; unfold B9 at this ⊢; omega
            have hA1 := hA (by omega)
            rw [hT1] at hA1
            have hTB : T % B9 < 1000000000 := Nat.mod_lt _ (by decide)
            have hVT : ((limb a k : Int) - c) = ((T % B9 : Nat) : Int) := by have := HT.out; unfold B9 at this ⊢; omega
            have hr1 : (r ++ [T % B9]).length = k + 1 := by simp [HR.out]
            have HO2 : Hid (wr.ownsRow w.heap.size tI 1 (.slice (some ⟨g, 0, none⟩) a.length cp) a.length (subCells a (r ++ [T % B9]) (k + 1) 0)) := by
              have := HO1.out
              rw [hVT, subCells_set HR.out (by omega)] at this
              exact this
            have HA1 := Lib.hid hA1
            clear hA hA1 hT1 hVT
            go_wp2
            go_roundw
            case rel => exact ⟨k + 1, 0, r ++ [T % B9], by omega, by go_num, by omega, by omega, hr1, HD.out.snoc hTB, HA1, HO2, HX1⟩
            case measure => simp [RowKit.intOf]; omega
      · obtain rfl : k = a.length := by omega
        have hc0 := hkc rfl
        subst hc0
        have HE := Lib.hid (sub_end CA.out CB.out HR.out HD.out HL.out HV.out)
        have HO2 := HO.out
        rw [subCells_end (by omega)] at HO2
        have HSL := Lib.hid (Sl.of_own HO2)
        have HC2 := Lib.hid (own_cap HO2)
        clear HO2
        go_wp2
        go_ret
        exact ⟨some ⟨g, 0, none⟩, r, cp, by rw [HR.out]; exact HC2.out, (fun ad h => by injection h with h; subst h; exact hgb), by rw [HR.out]; omega, by rw [HR.out]; rfl, HD.out, HE.out, HSL.out, HX.out⟩
end Go.Proofs.YthalpbjkkfkheaaGreatDoor
