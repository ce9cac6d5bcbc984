/- exact.Valid, exact.List, walked. -/
import Derived.Test.YtkhmfgkbobblmaaGreatDoorOwn
namespace Go.Proofs.YtkhmfgkbobblmaaGreatDoor
open Go.RowKit Go.Lib

set_option maxRecDepth 100000 in
set_option maxHeartbeats 4000000 in
theorem xvalid_any (v : Value) (l : List Rat) (w : World) (h : RL w v l) (hf : ∀ q ∈ l, FitQ 400 q) :
    Calls Tryz.prog 44 #[v] w fun e w' => e = .returned (.bool true) ∧ Ext w w' := by
  obtain ⟨A, c, rfl, hlc, hcm, HL⟩ := h.parts
  have HF := Lib.hid hf
  have hcm : c ≤ 9223372036854775807 := by unfold maxLen at hcm; omega
  clear hf h
  go_enter Tryz.func44, Tryz.ntmps44
  go_wp2_with fail
  go_loopw [4, 7] (fun _ v7 wr => ∃ k : Nat, k ≤ l.length ∧ v7 = .int .i64 k ∧ Hid (Ext w wr)) (fun _ v7 _ => l.length - (RowKit.intOf v7).toNat)
  case atStart => exact ⟨0, Nat.zero_le _, rfl, Ext.refl w⟩
  case round =>
    obtain ⟨k, hk, rfl, HX⟩ := hrel
    by_cases hkl : k < l.length
    · obtain ⟨g, o, rfl, _, hc⟩ := RL.get (RL.ext HL.out HX.out) hkl
      have VA := Lib.hid (fun w => rvalid_any l[k] w (HF.out _ (List.getElem_mem hkl)))
      generalize ratText l[k] = tk at *
      go_wp2_with fail
      refine (VA.out wr).mono ?_
      rintro e w1 ⟨rfl, hx1⟩
      have HX1 := Lib.hid (HX.out.trans hx1)
      clear hx1 hc
      go_wp2
      go_roundw
      case rel => exact ⟨k + 1, by omega, by go_num, HX1⟩
      case measure => simp [RowKit.intOf]; omega
    · obtain rfl : k = l.length := by omega
      go_wp2
      go_ret
      exact ⟨rfl, HX.out⟩
/-- n fractions as make lays them -/
def zfour : List Value := [.bool false, .slice none 0 0, .bool false, .slice none 0 0]
def zfracs (n : Nat) : List Value := (List.replicate n zfour).flatten
theorem zfracs_length (n : Nat) : (zfracs n).length = n * 4 := by
  induction n with
  | zero => rfl
  | succ n ih => rw [zfracs, List.replicate_succ, List.flatten_cons, List.length_append, ← zfracs, ih, Nat.succ_mul]; simp [zfour]; omega
theorem zfracs_get (n : Nat) : ∀ i, i < n * 4 → (zfracs n)[i]? = zfour[i % 4]? := by
  induction n with
  | zero => intro i h; omega
  | succ n ih =>
    intro i h
    rw [zfracs, List.replicate_succ, List.flatten_cons, ← zfracs]
    rcases Nat.lt_or_ge i 4 with h4 | h4
    · rw [List.getElem?_append_left (by simpa [zfour] using h4), Nat.mod_eq_of_lt h4]
    · rw [List.getElem?_append_right (by simpa [zfour] using h4), show zfour.length = 4 from rfl, ih (i - 4) (by omega), show i % 4 = (i - 4) % 4 by omega]
theorem made_four (n : Nat) : madeCells #[.bool false, .slice none 0 0, .bool false, .slice none 0 0] (n * 4) = (zfracs n).toArray := by
  apply Array.ext
  · simp [madeCells, zfracs_length]
  · intro i h1 h2
    have h3 : i < n * 4 := by simpa [zfracs_length] using h2
    have h := zfracs_get n i h3
    rw [List.getElem?_eq_getElem (by simpa using h2), List.getElem?_eq_getElem (by simp [zfour]; omega)] at h
    injection h with h
    simp only [List.getElem_toArray]
    rw [h]
    have h5 : i % 4 < 4 := Nat.mod_lt _ (by decide)
    simp only [madeCells, Array.getElem_map, Array.getElem_range, List.size_toArray, List.length_cons, List.length_nil, zfour]
    rw [getElem!_pos _ _ (by simpa using h5)]
    rfl
theorem frac_info : (Tryz.prog.info? tFrac).map (fun i => (i.zero, i.size, i.bytes)) = some (some (.agg #[.bool false, .slice none 0 0, .bool false, .slice none 0 0]), 4, 64) := by kernel_rfl
theorem make_frac (n : Nat) (h : n ≤ 1000000) (w : World) :
    (Instr.makeSlice 67 (.int .i64 (n : Int)) (.int .i64 (n : Int))).run Tryz.prog w = .ok (.slice (some ⟨w.heap.size, 0, none⟩) n n) (w.alloc (.cells (zfracs n).toArray tFrac)) := by
  obtain ⟨i0, hi, hz0, hz1, hz2⟩ := info_parts frac_info
  have hr := run_make (P := Tryz.prog) w 67 tFrac i0 (.agg #[.bool false, .slice none 0 0, .bool false, .slice none 0 0]) Tryz.underlying67 hi hz0 .i64 .i64 (n : Int) (n : Int) (by omega) (Int.le_refl _) (by rw [hz2]; omega) (by omega)
  simp only [Int.toNat_natCast, hz1, Value.cells] at hr
  rw [hr, ← made_four]
theorem zfracs_succ {n k : Nat} (h : k < n) : zfracs (n - k) = zfour ++ zfracs (n - (k + 1)) := by
  rw [show n - k = (n - (k + 1)) + 1 by omega, zfracs, List.replicate_succ, List.flatten_cons, ← zfracs]
theorem row4_cells {w : World} {g k : Nat} {t : TypeId} {xs ys : List Value} {a b c d : Value} (hB : Blk w g t (xs ++ ([a, b, c, d] ++ ys))) (hx : xs.length = k * 4) :
    w.cell? ⟨g, k * 4, none⟩ = some a ∧ w.cell? ⟨g, k * 4 + 1, none⟩ = some b ∧ w.cell? ⟨g, k * 4 + 2, none⟩ = some c ∧ w.cell? ⟨g, k * 4 + 3, none⟩ = some d := by
  refine ⟨hB.cell ?_, hB.cell ?_, hB.cell ?_, hB.cell ?_⟩ <;> rw [List.getElem?_append_right (by omega), hx]
  · rw [Nat.sub_self]; rfl
  · rw [show k * 4 + 1 - k * 4 = 1 by omega]; rfl
  · rw [show k * 4 + 2 - k * 4 = 2 by omega]; rfl
  · rw [show k * 4 + 3 - k * 4 = 3 by omega]; rfl
theorem row4_set {w : World} {g k : Nat} {t : TypeId} {xs ys : List Value} {a b c d : Value} (hB : Blk w g t (xs ++ ([a, b, c, d] ++ ys))) (hx : xs.length = k * 4) (a' b' c' d' : Value) :
    Blk ((((w.setCell ⟨g, k * 4, none⟩ a').setCell ⟨g, k * 4 + 1, none⟩ b').setCell ⟨g, k * 4 + 2, none⟩ c').setCell ⟨g, k * 4 + 3, none⟩ d') g t (xs ++ ([a', b', c', d'] ++ ys)) := by
  have h := (((hB.set_ (k * 4) a').set_ (k * 4 + 1) b').set_ (k * 4 + 2) c').set_ (k * 4 + 3) d'
  rw [List.set_append_right _ _ (by omega), List.set_append_right _ _ (by omega), List.set_append_right _ _ (by omega), List.set_append_right _ _ (by omega), hx, Nat.sub_self, show k * 4 + 1 - k * 4 = 1 by omega, show k * 4 + 2 - k * 4 = 2 by omega, show k * 4 + 3 - k * 4 = 3 by omega] at h
  exact h
/-- a store of a fraction into a row: the world behind it, named -/
theorem store4 {a w : World} {g k : Nat} {xs ys : List Value} {o0 o1 o2 o3 : Value} (hB : Blk w g tFrac (xs ++ ([o0, o1, o2, o3] ++ ys))) (hx : xs.length = k * 4) (he : Ext a w) (hg : a.heap.size ≤ g) (x0 x1 x2 x3 : Value) :
    ∃ W', ((((w.setCell ⟨g, k * 4, none⟩ x0).setCell ⟨g, k * 4 + 1, none⟩ x1).setCell ⟨g, k * 4 + 2, none⟩ x2).setCell ⟨g, k * 4 + 3, none⟩ x3) = W' ∧ Hid (Blk W' g tFrac (xs ++ ([x0, x1, x2, x3] ++ ys))) ∧ Hid (Kept tU64 w W') ∧ Hid (Ext a W') ∧ Hid (Only g w W') :=
  ⟨_, rfl, row4_set hB hx x0 x1 x2 x3, hB.kept4 (by decide) _ _ _ _ _ _ _ _,
    (((he.setCell (p := ⟨g, k * 4, none⟩) hg x0).setCell (p := ⟨g, k * 4 + 1, none⟩) hg x1).setCell (p := ⟨g, k * 4 + 2, none⟩) hg x2).setCell (p := ⟨g, k * 4 + 3, none⟩) hg x3,
    (((Only.refl g w).set_ (k * 4) x0).set_ (k * 4 + 1) x1).set_ (k * 4 + 2) x2 |>.set_ (k * 4 + 3) x3⟩
set_option maxRecDepth 100000 in
set_option maxHeartbeats 4000000 in
theorem xlist_any (v : Value) (l : List Rat) (w : World) (h : RL w v l) (hf : ∀ q ∈ l, FitQ 400 q) (hn : l.length ≤ 1000) :
    Calls Tryz.prog 47 #[v] w fun e w' => ∃ v', e = .returned v' ∧ FL w' v' l ∧ Ext w w' := by
  obtain ⟨A, c, rfl, hlc, hcm, HL⟩ := h.parts
  have HF := Lib.hid hf
  have hcm : c ≤ 9223372036854775807 := by unfold maxLen at hcm; omega
  clear hf h
  have hmk := make_frac l.length (by omega) w
  go_enter Tryz.func47, Tryz.ntmps47
  go_wp2_with fail
  clear hmk
  refine box1 (P := fun W => Code.wp _ _ _ _ W) fun W HX HB => ?_
  have HB0 : Hid (Blk W w.heap.size tFrac ([] ++ zfracs (l.length - 0))) := HB.out
  clear HB
  go_loopw [4, 5, 11] (fun _ _ v11 wr => ∃ (k : Nat) (xs : List Value), k ≤ l.length ∧ v11 = .int .i64 k ∧ Hid (Blk wr w.heap.size tFrac (xs ++ zfracs (l.length - k))) ∧ Hid (Ch (FrR wr) xs (l.take k)) ∧ Hid (Ext w wr)) (fun _ _ v11 _ => l.length - (RowKit.intOf v11).toNat)
  case atStart => exact ⟨0, [], Nat.zero_le _, rfl, HB0, rfl, HX⟩
  case round =>
    obtain ⟨k, xs, hk, rfl, HBk, HCk, HXk⟩ := hrel
    by_cases hkl : k < l.length
    · obtain ⟨g, o, rfl, _, hc⟩ := RL.get (RL.ext HL.out HXk.out) hkl
      have RD := Lib.hid (fun w => xread_any l[k] w (HF.out _ (List.getElem_mem hkl)))
      generalize ratText l[k] = tk at *
      go_wp2_with fail
      refine (RD.out wr).mono ?_
      rintro e w1 ⟨v1, rfl, hv1, hx1⟩
      obtain ⟨b, A1, n1, c1, b', A2, n2, c2, rfl, _, _⟩ := hv1.parts
      have hxl : xs.length = k * 4 := by rw [Ch.length (FrR.four wr) HCk.out, List.length_take, Nat.min_eq_left hk]
      have HB1 : Hid (Blk w1 w.heap.size tFrac (xs ++ (zfour ++ zfracs (l.length - (k + 1))))) := by rw [Hid, ← zfracs_succ hkl]; exact HBk.out.ext hx1
      obtain ⟨k0, k1, k2, k3⟩ := row4_cells HB1.out hxl
      have f0 := HB1.out.frozen (k * 4)
      have f1 := HB1.out.frozen (k * 4 + 1)
      have f2 := HB1.out.frozen (k * 4 + 2)
      have f3 := HB1.out.frozen (k * 4 + 3)
      obtain ⟨W', hW', HB2, HK2, HX2, _⟩ := store4 HB1.out hxl (HXk.out.trans hx1) (Nat.le_refl _) (.bool b) (.slice A1 n1 c1) (.bool b') (.slice A2 n2 c2)
      have HW := Lib.hid hW'
      clear hW'
      go_wp2_with fail
      rw [HW.out]
      go_roundw
      case rel =>
        refine ⟨k + 1, xs ++ [.bool b, .slice A1 n1 c1, .bool b', .slice A2 n2 c2], by omega, by go_num, ?_, ?_, HX2⟩
        · rw [List.append_assoc]
          exact HB2
        · rw [List.take_succ_eq_append_getElem hkl]
          refine Ch.snoc ⟨b, A1, n1, c1, b', A2, n2, c2, rfl, hv1.keep HK2.out⟩ (HCk.out.mono fun c x hc => ?_)
          exact FrR.stab _ _ _ _ (fun t ht => by simp only [List.mem_singleton] at ht; subst ht; exact (Kept.of_below hx1).trans HK2.out) hc
      case measure => simp [RowKit.intOf]; omega
    · obtain rfl : k = l.length := by omega
      rw [List.take_of_length_le (Nat.le_refl _)] at HCk
      have HB2 : Hid (Blk wr w.heap.size tFrac xs) := by simpa [Nat.sub_self, zfracs] using HBk
      go_wp2
      go_ret
      exact ⟨_, rfl, ⟨_, l.length, xs, rfl, Nat.le_refl _, by unfold maxLen; omega, (fun h => by cases h), HB2.out.sl 0, HCk.out⟩, HXk.out⟩
end Go.Proofs.YtkhmfgkbobblmaaGreatDoor
