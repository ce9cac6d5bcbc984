/- A box that holds a fraction; the sum of the squares of differences; exact.Distance. -/
import Derived.Test.YtkhmfgkbobblmaaGreatDoorLstW
import Derived.Deep.DeepCutAuto
namespace Go.Proofs.YtkhmfgkbobblmaaGreatDoor
open Go.RowKit Go.Lib

section
variable {P : Program} {ops : Array Oper} {Q : Exit → Act → World → Prop} {md : Region.Mode} {S : World → Prop} {T : Nat → Bool}
/-- two that are ready: a goal for each -/
theorem AnyT.two (i j : Nat) {fuel : Nat} {listed : Array Bool} {a : Act} {w : World} (hr : Region.ready md ops listed = [i, j])
    (hi : ∀ o, ops[i]? = some o → ∀ K : Act → World → Prop, Hid (∀ a' w', (T i = false → S w') → AnyT P md ops Q S T fuel (listed.setIfInBounds i true) a' w' → K a' w') → if Region.wanted o (yielded ops a.tmps) = true then o.wp P a w K Q else K (a.put o.dst undef) w)
    (hj : ∀ o, ops[j]? = some o → ∀ K : Act → World → Prop, Hid (∀ a' w', (T j = false → S w') → AnyT P md ops Q S T fuel (listed.setIfInBounds j true) a' w' → K a' w') → if Region.wanted o (yielded ops a.tmps) = true then o.wp P a w K Q else K (a.put o.dst undef) w) : AnyT P md ops Q S T (fuel + 1) listed a w := by
  have go : ∀ i, i ∈ Region.ready md ops listed → (∀ o, ops[i]? = some o → ∀ K : Act → World → Prop, Hid (∀ a' w', (T i = false → S w') → AnyT P md ops Q S T fuel (listed.setIfInBounds i true) a' w' → K a' w') → if Region.wanted o (yielded ops a.tmps) = true then o.wp P a w K Q else K (a.put o.dst undef) w) →
      wpOp P ops Q i (fun a' w' => (T i = false → S w') ∧ AnyT P md ops Q S T fuel (listed.setIfInBounds i true) a' w') a w := by
    intro i hir h
    obtain ⟨_, o, hi, _⟩ := mem_ready.1 hir
    have h1 := h o hi (fun a' w' => (T i = false → S w') ∧ AnyT P md ops Q S T fuel (listed.setIfInBounds i true) a' w') (fun _ _ h1 h2 => ⟨h1, h2⟩)
    unfold wpOp
    simp only [hi]
    split
    · rename_i hw
      rw [if_pos hw] at h1
      exact .inl h1
    · rename_i hw
      rw [if_neg hw] at h1
      exact h1
  refine ⟨fun h0 => absurd h0 (by rw [hr]; simp), fun k hk => ?_⟩
  have hk' := hk
  rw [hr] at hk'
  rcases (by simpa using hk' : k = i ∨ k = j) with h | h
  · subst h; exact go _ hk hi
  · subst h; exact go _ hk hj
end
/-- the cells of a box of four -/
def F4 (w' : World) (g : Nat) (a b c d : Value) : Prop := w'.cell? ⟨g, 0, none⟩ = some a ∧ w'.cell? ⟨g, 1, none⟩ = some b ∧ w'.cell? ⟨g, 2, none⟩ = some c ∧ w'.cell? ⟨g, 3, none⟩ = some d
/-- block g is a box that holds q -/
def Box (w : World) (g : Nat) (q : Rat) : Prop := ∃ b A n c b' A' n' c', Blk w g tFrac [.bool b, .slice A n c, .bool b', .slice A' n' c'] ∧ FracV w (.agg #[.bool b, .slice A n c, .bool b', .slice A' n' c']) q
theorem Box.parts {w : World} {g : Nat} {q : Rat} (h : Box w g q) : ∃ b A n c b' A' n' c', Hid (Blk w g tFrac [.bool b, .slice A n c, .bool b', .slice A' n' c']) ∧ Hid (FracV w (.agg #[.bool b, .slice A n c, .bool b', .slice A' n' c']) q) := h
theorem Box.ext {w w' : World} {g : Nat} {q : Rat} (h : Box w g q) (hx : Ext w w') : Box w' g q := by
  obtain ⟨b, A, n, c, b', A', n', c', h1, h2⟩ := h
  exact ⟨b, A, n, c, b', A', n', c', h1.ext hx, h2.ext hx⟩
theorem Box.lt {w : World} {g : Nat} {q : Rat} (h : Box w g q) : g < w.heap.size := by
  obtain ⟨b, A, n, c, b', A', n', c', h1, h2⟩ := h
  exact h1.lt
theorem Box.of {w : World} {g : Nat} {q : Rat} {b : Bool} {A : Option Addr} {n c : Nat} {b' : Bool} {A' : Option Addr} {n' c' : Nat} (h1 : Blk w g tFrac [.bool b, .slice A n c, .bool b', .slice A' n' c']) (h2 : FracV w (.agg #[.bool b, .slice A n c, .bool b', .slice A' n' c']) q) : Box w g q := ⟨b, A, n, c, b', A', n', c', h1, h2⟩
theorem Box.far {w w' : World} {g k : Nat} {q : Rat} (h : Box w g q) (ho : Only k w w') (hne : g ≠ k) (hk : Kept tU64 w w') : Box w' g q := by
  obtain ⟨b, A, n, c, b', A', n', c', h1, h2⟩ := h
  exact ⟨b, A, n, c, b', A', n', c', h1.only ho hne, h2.keep hk⟩
/-- a store into a box: the world behind it, named -/
theorem Box.put {a w : World} {g : Nat} {q : Rat} {o0 o1 o2 o3 : Value} {b : Bool} {A : Option Addr} {n c : Nat} {b' : Bool} {A' : Option Addr} {n' c' : Nat} (hB : Blk w g tFrac [o0, o1, o2, o3]) (hv : FracV w (.agg #[.bool b, .slice A n c, .bool b', .slice A' n' c']) q) (he : Ext a w) (hg : a.heap.size ≤ g) :
    ∃ W', ((((w.setCell ⟨g, 0, none⟩ (.bool b)).setCell ⟨g, 1, none⟩ (.slice A n c)).setCell ⟨g, 2, none⟩ (.bool b')).setCell ⟨g, 3, none⟩ (.slice A' n' c')) = W' ∧ Hid (Box W' g q) ∧ Hid (Kept tU64 w W') ∧ Hid (Ext a W') ∧ Hid (Only g w W') := by
  have hk := hB.kept4 (t := tU64) (by decide) 0 1 2 3 (.bool b) (.slice A n c) (.bool b') (.slice A' n' c')
  exact ⟨_, rfl, Box.of ((((hB.set_ 0 (.bool b)).set_ 1 (.slice A n c)).set_ 2 (.bool b')).set_ 3 (.slice A' n' c')) (hv.keep hk), hk,
    (((he.setCell (p := ⟨g, 0, none⟩) hg _).setCell (p := ⟨g, 1, none⟩) hg _).setCell (p := ⟨g, 2, none⟩) hg _).setCell (p := ⟨g, 3, none⟩) hg _,
    (((Only.refl g w).set_ 0 _).set_ 1 _).set_ 2 _ |>.set_ 3 _⟩
/-- a new box -/
theorem newbox {P : World → Prop} {w : World} {q : Rat} {b : Bool} {A : Option Addr} {n c : Nat} {b' : Bool} {A' : Option Addr} {n' c' : Nat} (hv : FracV w (.agg #[.bool b, .slice A n c, .bool b', .slice A' n' c']) q) (h : ∀ W, Hid (Ext w W) → Hid (Box W w.heap.size q) → W.heap.size = w.heap.size + 1 → P W) : P (w.alloc (.cells #[.bool b, .slice A n c, .bool b', .slice A' n' c'] tFrac)) :=
  h _ ((Ext.refl w).alloc _) (Box.of (Blk.new w tFrac [.bool b, .slice A n c, .bool b', .slice A' n' c']) (hv.ext ((Ext.refl w).alloc _))) (by simp)

/-- the sum of the squares of the differences -/
def dist (a b : List Rat) : Rat := (a.zip b).foldl (fun s x => s + (x.1 - x.2) * (x.1 - x.2)) 0
theorem dist_next {a b : List Rat} {k : Nat} (ha : k < a.length) (hb : k < b.length) : dist (a.take (k + 1)) (b.take (k + 1)) = dist (a.take k) (b.take k) + (a[k] - b[k]) * (a[k] - b[k]) := by
  unfold dist
  rw [List.take_succ_eq_append_getElem ha, List.take_succ_eq_append_getElem hb, List.zip_append (by simp; omega), List.foldl_append]
  rfl
theorem dist_fit' {a b : List Rat} (hl : a.length = b.length) (fa : ∀ q ∈ a, FitQ 400 q) (fb : ∀ q ∈ b, FitQ 400 q) : ∀ k, k ≤ a.length → FitQ (1 + k * 1603) (dist (a.take k) (b.take k))
  | 0, _ => ⟨by show (0 : Rat).num.natAbs < _; decide, by show (0 : Rat).den < _; decide⟩
  | k + 1, h => by
    have h1 := dist_fit' hl fa fb k (by omega)
    have h2 := (fa a[k] (by simp)).sub (fb (b[k]'(by omega)) (by simp))
    rw [dist_next (by omega) (by omega)]
    exact (h1.add (h2.mul h2)).mono (by omega)
theorem dist_fit {a b : List Rat} (hl : a.length = b.length) (hn : a.length ≤ 3) (fa : ∀ q ∈ a, FitQ 400 q) (fb : ∀ q ∈ b, FitQ 400 q) : FitQ 5000 (dist a b) := by
  have h := dist_fit' hl fa fb a.length (Nat.le_refl _)
  rw [List.take_of_length_le (Nat.le_refl _), List.take_of_length_le (by omega)] at h
  exact h.mono (by omega)

set_option maxRecDepth 100000 in
set_option maxHeartbeats 8000000 in
theorem xdist_any (va vb : Value) (a b : List Rat) (w : World) (ha : FL w va a) (hb : FL w vb b) (hl : a.length = b.length) (hn : a.length ≤ 3) (fa : ∀ q ∈ a, FitQ 400 q) (fb : ∀ q ∈ b, FitQ 400 q) :
    Calls Tryz.prog 78 #[va, vb] w fun e w' => ∃ v', e = .returned v' ∧ FracV w' v' (dist a b) ∧ Ext w w' := by
  obtain ⟨A, ca, rfl, _, hca, HA⟩ := ha.parts
  obtain ⟨B, cb, rfl, _, hcb, HB⟩ := hb.parts
  have hca : ca ≤ 9223372036854775807 := by unfold maxLen at hca; omega
  have hcb : cb ≤ 9223372036854775807 := by unfold maxLen at hcb; omega
  have HLN := Lib.hid hl
  have HFA := Lib.hid fa
  have HFB := Lib.hid fb
  clear ha hb hl fa fb
  go_enter Tryz.func78, Tryz.ntmps78
  go_wp2_with fail
  refine box1 (P := fun W => Calls _ _ _ W _) fun W0 HX0 BR => ?_
  refine (xzero_any W0).mono ?_
  rintro e w1 ⟨v1, rfl, hv1, hx1⟩
  obtain ⟨a0, A0, a1, a2, b0, B0, b1, b2, rfl, _, _⟩ := hv1.parts
  go_wp2_with fail
  refine newbox (P := fun W => Code.wp _ _ _ _ W) hv1 fun W HX HB1 hsz => ?_
  have BR1 := Lib.hid (BR.out.ext (hx1.trans HX.out))
  have HX1 := Lib.hid (HX0.out.trans (hx1.trans HX.out))
  have hg : w.heap.size < w1.heap.size := Nat.lt_of_lt_of_le BR.out.lt hx1.size
  have HB0 : Hid (Box W w1.heap.size (dist (a.take 0) (b.take 0))) := HB1
  clear hx1 hv1 HX0 HX BR HB1
  go_loopw [6, 7, 11] (fun _ _ v11 wr => ∃ k : Nat, k ≤ a.length ∧ v11 = .int .i64 k ∧ Hid (Box wr w1.heap.size (dist (a.take k) (b.take k))) ∧ Hid (Blk wr w.heap.size tFrac [.bool false, .slice none 0 0, .bool false, .slice none 0 0]) ∧ Hid (Ext w wr)) (fun _ _ v11 _ => a.length - (RowKit.intOf v11).toNat)
  case atStart => exact ⟨0, Nat.zero_le _, rfl, HB0, BR1, HX1⟩
  case round =>
    obtain ⟨k, hk, rfl, HBS, HBR, HXS⟩ := hrel
    by_cases hkl : k < a.length
    · have hkb : k < b.length := by have := HLN.out; omega
      have FS := Lib.hid (dist_fit' HLN.out HFA.out HFB.out k hk)
      have FD := Lib.hid ((HFA.out a[k] (by simp)).sub (HFB.out b[k] (by simp)))
      have HNX := Lib.hid (dist_next hkl hkb)
      have HSUB : Hid (∀ u v w', FracV w' u a[k] → FracV w' v b[k] → Calls Tryz.prog 69 #[u, v] w' fun e w'' => ∃ v', e = .returned v' ∧ FracV w'' v' (a[k] - b[k]) ∧ Ext w' w'') := fun u v w' h1 h2 => fsub_any u v _ _ w' h1 h2 (HFA.out a[k] (by simp)) (HFB.out b[k] (by simp)) (by decide)
      obtain ⟨g1, o1, x0, X0, x1, x2, y0, Y0, y1, y2, rfl, _, HVA, p0, p1, p2, p3⟩ := FL.get (FL.ext HA.out HXS.out) hkl
      obtain ⟨g2, o2, z0, Z0, z1, z2, t0, T0, t1, t2, rfl, _, HVB, q0, q1, q2, q3⟩ := FL.get (FL.ext HB.out HXS.out) hkb
      generalize a[k] = ak at *
      generalize b[k] = bk at *
      go_upto_region 5 with fail
      go_cut [7] (fun s7 wx => ∃ gd, s7 = .pointer (some ⟨gd, 0, none⟩) ∧ Hid (Box wx gd (ak - bk)) ∧ Hid (Ext wr wx) ∧ wr.heap.size ≤ gd)
      case first =>
        obtain ⟨S, hSd⟩ : ∃ S : World → Prop, S = fun w' => (w'.cell? ⟨g1, o1 + k * 4, none⟩ = some (.bool x0) ∧ w'.cell? ⟨g1, o1 + k * 4 + 1, none⟩ = some (.slice X0 x1 x2) ∧ w'.cell? ⟨g1, o1 + k * 4 + 2, none⟩ = some (.bool y0) ∧ w'.cell? ⟨g1, o1 + k * 4 + 3, none⟩ = some (.slice Y0 y1 y2)) ∧ (w'.cell? ⟨g2, o2 + k * 4, none⟩ = some (.bool z0) ∧ w'.cell? ⟨g2, o2 + k * 4 + 1, none⟩ = some (.slice Z0 z1 z2) ∧ w'.cell? ⟨g2, o2 + k * 4 + 2, none⟩ = some (.bool t0) ∧ w'.cell? ⟨g2, o2 + k * 4 + 3, none⟩ = some (.slice T0 t1 t2)) := ⟨_, rfl⟩
        have HSI : Hid (∀ w', S w' → (w'.cell? ⟨g1, o1 + k * 4, none⟩ = some (.bool x0) ∧ w'.cell? ⟨g1, o1 + k * 4 + 1, none⟩ = some (.slice X0 x1 x2) ∧ w'.cell? ⟨g1, o1 + k * 4 + 2, none⟩ = some (.bool y0) ∧ w'.cell? ⟨g1, o1 + k * 4 + 3, none⟩ = some (.slice Y0 y1 y2)) ∧ (w'.cell? ⟨g2, o2 + k * 4, none⟩ = some (.bool z0) ∧ w'.cell? ⟨g2, o2 + k * 4 + 1, none⟩ = some (.slice Z0 z1 z2) ∧ w'.cell? ⟨g2, o2 + k * 4 + 2, none⟩ = some (.bool t0) ∧ w'.cell? ⟨g2, o2 + k * 4 + 3, none⟩ = some (.slice T0 t1 t2))) := by rw [Hid, hSd]; exact fun _ h => h
        have HSE : Hid (∀ w', Ext wr w' → S w') := by
          rw [Hid, hSd]
          intro w' h
          have hc := fun (p : Addr) (hp : p.block < wr.heap.size) => h.cell (p := p) hp
          refine ⟨⟨?_, ?_, ?_, ?_⟩, ?_, ?_, ?_, ?_⟩ <;> (rw [hc _ (by assumption)]; assumption)
        have HS0 : Hid (S wr.drew) := HSE.out _ (Ext.refl wr).drew
        clear hSd
        refine AnyT.start (S := S) (T := fun j => decide (10 ≤ j)) (by kernel_rfl) ?_
        refine AnyT.load 0 14 (.slice (some ⟨g1, o1, none⟩) a.length ca) rfl (by kernel_rfl) (by kernel_rfl) (by kernel_rfl) (by kernel_rfl) (by kernel_rfl) (fun _ _ _ h => h) HS0.out ?_ ?_
        · intro o ho
          simp only [List.getElem?_toArray, List.getElem?_cons_zero, Option.some.injEq] at ho
          subst ho
          refine ⟨rfl, rfl, fun w' hSw => ?_⟩
          have hs := HSI.out w' hSw
          go_split_ands
          go_simp
        simp only [Act.put, List.setIfInBounds_toArray, List.set_cons_zero, List.set_cons_succ]
        refine AnyT.load 1 15 (.int .i64 k) rfl (by kernel_rfl) (by kernel_rfl) (by kernel_rfl) (by kernel_rfl) (by kernel_rfl) (fun _ _ _ h => h) HS0.out ?_ ?_
        · intro o ho
          simp only [List.getElem?_toArray, List.getElem?_cons_succ, List.getElem?_cons_zero, Option.some.injEq] at ho
          subst ho
          refine ⟨rfl, rfl, fun w' hSw => ?_⟩
          have hs := HSI.out w' hSw
          go_split_ands
          go_simp
        simp only [Act.put, List.setIfInBounds_toArray, List.set_cons_zero, List.set_cons_succ]
        refine AnyT.load 2 16 (.pointer (some ⟨g1, o1 + k * 4, none⟩)) rfl (by kernel_rfl) (by kernel_rfl) (by kernel_rfl) (by kernel_rfl) (by kernel_rfl) (fun _ _ _ h => h) HS0.out ?_ ?_
        · intro o ho
          simp only [List.getElem?_toArray, List.getElem?_cons_succ, List.getElem?_cons_zero, Option.some.injEq] at ho
          subst ho
          refine ⟨rfl, rfl, fun w' hSw => ?_⟩
          have hs := HSI.out w' hSw
          go_split_ands
          go_simp
        simp only [Act.put, List.setIfInBounds_toArray, List.set_cons_zero, List.set_cons_succ]
        refine AnyT.load 3 17 (.agg #[.bool x0, .slice X0 x1 x2, .bool y0, .slice Y0 y1 y2]) rfl (by kernel_rfl) (by kernel_rfl) (by kernel_rfl) (by kernel_rfl) (by kernel_rfl) (fun _ _ _ h => h) HS0.out ?_ ?_
        · intro o ho
          simp only [List.getElem?_toArray, List.getElem?_cons_succ, List.getElem?_cons_zero, Option.some.injEq] at ho
          subst ho
          refine ⟨rfl, rfl, fun w' hSw => ?_⟩
          have hs := HSI.out w' hSw
          go_split_ands
          go_simp
        simp only [Act.put, List.setIfInBounds_toArray, List.set_cons_zero, List.set_cons_succ]
        refine AnyT.load 4 18 (.slice (some ⟨g2, o2, none⟩) b.length cb) rfl (by kernel_rfl) (by kernel_rfl) (by kernel_rfl) (by kernel_rfl) (by kernel_rfl) (fun _ _ _ h => h) HS0.out ?_ ?_
        · intro o ho
          simp only [List.getElem?_toArray, List.getElem?_cons_succ, List.getElem?_cons_zero, Option.some.injEq] at ho
          subst ho
          refine ⟨rfl, rfl, fun w' hSw => ?_⟩
          have hs := HSI.out w' hSw
          go_split_ands
          go_simp
        simp only [Act.put, List.setIfInBounds_toArray, List.set_cons_zero, List.set_cons_succ]
        refine AnyT.load 5 19 (.int .i64 k) rfl (by kernel_rfl) (by kernel_rfl) (by kernel_rfl) (by kernel_rfl) (by kernel_rfl) (fun _ _ _ h => h) HS0.out ?_ ?_
        · intro o ho
          simp only [List.getElem?_toArray, List.getElem?_cons_succ, List.getElem?_cons_zero, Option.some.injEq] at ho
          subst ho
          refine ⟨rfl, rfl, fun w' hSw => ?_⟩
          have hs := HSI.out w' hSw
          go_split_ands
          go_simp
        simp only [Act.put, List.setIfInBounds_toArray, List.set_cons_zero, List.set_cons_succ]
        refine AnyT.load 6 20 (.pointer (some ⟨g2, o2 + k * 4, none⟩)) rfl (by kernel_rfl) (by kernel_rfl) (by kernel_rfl) (by kernel_rfl) (by kernel_rfl) (fun _ _ _ h => h) HS0.out ?_ ?_
        · intro o ho
          simp only [List.getElem?_toArray, List.getElem?_cons_succ, List.getElem?_cons_zero, Option.some.injEq] at ho
          subst ho
          refine ⟨rfl, rfl, fun w' hSw => ?_⟩
          have hs := HSI.out w' hSw
          go_split_ands
          go_simp
        simp only [Act.put, List.setIfInBounds_toArray, List.set_cons_zero, List.set_cons_succ]
        refine AnyT.load 7 21 (.agg #[.bool z0, .slice Z0 z1 z2, .bool t0, .slice T0 t1 t2]) rfl (by kernel_rfl) (by kernel_rfl) (by kernel_rfl) (by kernel_rfl) (by kernel_rfl) (fun _ _ _ h => h) HS0.out ?_ ?_
        · intro o ho
          simp only [List.getElem?_toArray, List.getElem?_cons_succ, List.getElem?_cons_zero, Option.some.injEq] at ho
          subst ho
          refine ⟨rfl, rfl, fun w' hSw => ?_⟩
          have hs := HSI.out w' hSw
          go_split_ands
          go_simp
        simp only [Act.put, List.setIfInBounds_toArray, List.set_cons_zero, List.set_cons_succ]
        refine AnyT.two 8 9 (by kernel_rfl) ?_ ?_
        · skip
          intro o ho K hK
          simp only [List.getElem?_toArray, List.getElem?_cons_succ, List.getElem?_cons_zero, Option.some.injEq] at ho
          subst ho
          go_simp
          refine (HSUB.out _ _ _ (HVA.out.ext (Ext.refl wr).drew) (HVB.out.ext (Ext.refl wr).drew)).mono ?_
          rintro e w3 ⟨v3, rfl, hv3, hx3⟩
          have hy3 := (Ext.refl wr).drew.trans hx3
          obtain ⟨r0, R0, r1, r2, s0, S0, s1, s2, rfl, _, _⟩ := hv3.parts
          refine hK.out _ _ (fun _ => HSE.out _ hy3) ?_
          refine AnyT.step 9 (by kernel_rfl) ?_
          intro o ho K hK
          simp only [List.getElem?_toArray, List.getElem?_cons_succ, List.getElem?_cons_zero, Option.some.injEq] at ho
          subst ho
          go_simp
          refine hK.out _ _ (fun _ => HSE.out _ (hy3.alloc _)) ?_
          refine AnyT.step 10 (by kernel_rfl) ?_
          intro o ho K hK
          simp only [List.getElem?_toArray, List.getElem?_cons_succ, List.getElem?_cons_zero, Option.some.injEq] at ho
          subst ho
          go_simp
          refine hK.out _ _ (fun h => by cases h) ?_
          refine AnyT.done (by kernel_rfl) ?_
          refine newbox (P := fun W => _) hv3 fun W HX HBN hsz => ?_
          have hsz3 := hy3.size
          have HE := Lib.hid (hy3.trans HX.out)
          go_wp2_with fail
          go_meet
          exact ⟨_, rfl, HBN, HE, hsz3⟩
        · skip
          intro o ho K hK
          simp only [List.getElem?_toArray, List.getElem?_cons_succ, List.getElem?_cons_zero, Option.some.injEq] at ho
          subst ho
          go_simp
          refine hK.out _ _ (fun _ => HSE.out _ ((Ext.refl wr).drew.alloc _)) ?_
          refine box1 (w := wr.drew) (P := fun W => AnyT _ _ _ _ _ _ _ _ _ W) fun W2 HX2 BZ => ?_
          rw [show wr.drew.heap.size = wr.heap.size from rfl] at BZ
          have hy2 := (Ext.refl wr).drew.trans HX2.out
          refine AnyT.step 8 (by kernel_rfl) ?_
          intro o ho K hK
          simp only [List.getElem?_toArray, List.getElem?_cons_succ, List.getElem?_cons_zero, Option.some.injEq] at ho
          subst ho
          go_simp
          refine (HSUB.out _ _ _ (HVA.out.ext hy2) (HVB.out.ext hy2)).mono ?_
          rintro e w3 ⟨v3, rfl, hv3, hx3⟩
          have hy3 := hy2.trans hx3
          obtain ⟨r0, R0, r1, r2, s0, S0, s1, s2, rfl, _, _⟩ := hv3.parts
          refine hK.out _ _ (fun _ => HSE.out _ hy3) ?_
          have BZ3 := Lib.hid (BZ.out.ext hx3)
          obtain ⟨k0, k1, k2, k3⟩ := BZ3.out.four
          obtain ⟨f0, f1, f2, f3⟩ := BZ3.out.free4
          obtain ⟨W', hW', HBN, _, HE, _⟩ := Box.put BZ3.out hv3 hy3 (Nat.le_refl _)
          have HW := Lib.hid hW'
          clear hW' hx3 hy3
          refine AnyT.step 10 (by kernel_rfl) ?_
          intro o ho K hK
          simp only [List.getElem?_toArray, List.getElem?_cons_succ, List.getElem?_cons_zero, Option.some.injEq] at ho
          subst ho
          go_simp
          refine hK.out _ _ (fun h => by cases h) ?_
          refine AnyT.done (by kernel_rfl) ?_
          rw [HW.out]
          clear k0 k1 k2 k3 f0 f1 f2 f3
          go_wp2_with fail
          go_meet
          exact ⟨_, rfl, HBN, HE, Nat.le_refl _⟩
      case rest =>
        obtain ⟨gd, rfl, HBD, HXC, hgd⟩ := hcut
        have hgs : w1.heap.size < wr.heap.size := HBS.out.lt
        obtain ⟨x0, X0, x1, x2, y0, Y0, y1, y2, BS, VS⟩ := (HBS.out.ext HXC.out).parts
        obtain ⟨z0, Z0, z1, z2, t0, T0, t1, t2, BD, VD⟩ := HBD.out.parts
        have BRC := Lib.hid (HBR.out.ext HXC.out)
        have HXD := Lib.hid (HXS.out.trans HXC.out)
        clear p0 p1 p2 p3 q0 q1 q2 q3 HVA HVB HSUB
        go_upto_region 6 with fail
        obtain ⟨S, hSd⟩ : ∃ S : World → Prop, S = fun w' => (w'.cell? ⟨w1.heap.size, 0, none⟩ = some (.bool x0) ∧ w'.cell? ⟨w1.heap.size, 0 + 1, none⟩ = some (.slice X0 x1 x2) ∧ w'.cell? ⟨w1.heap.size, 0 + 2, none⟩ = some (.bool y0) ∧ w'.cell? ⟨w1.heap.size, 0 + 3, none⟩ = some (.slice Y0 y1 y2)) ∧ (w'.cell? ⟨gd, 0, none⟩ = some (.bool z0) ∧ w'.cell? ⟨gd, 0 + 1, none⟩ = some (.slice Z0 z1 z2) ∧ w'.cell? ⟨gd, 0 + 2, none⟩ = some (.bool t0) ∧ w'.cell? ⟨gd, 0 + 3, none⟩ = some (.slice T0 t1 t2)) := ⟨_, rfl⟩
        have HSI : Hid (∀ w', S w' → (w'.cell? ⟨w1.heap.size, 0, none⟩ = some (.bool x0) ∧ w'.cell? ⟨w1.heap.size, 0 + 1, none⟩ = some (.slice X0 x1 x2) ∧ w'.cell? ⟨w1.heap.size, 0 + 2, none⟩ = some (.bool y0) ∧ w'.cell? ⟨w1.heap.size, 0 + 3, none⟩ = some (.slice Y0 y1 y2)) ∧ (w'.cell? ⟨gd, 0, none⟩ = some (.bool z0) ∧ w'.cell? ⟨gd, 0 + 1, none⟩ = some (.slice Z0 z1 z2) ∧ w'.cell? ⟨gd, 0 + 2, none⟩ = some (.bool t0) ∧ w'.cell? ⟨gd, 0 + 3, none⟩ = some (.slice T0 t1 t2))) := by rw [Hid, hSd]; exact fun _ h => h
        have HSE : Hid (∀ w', Ext wc w' → S w') := by rw [Hid, hSd]; exact fun w' h => ⟨(BS.out.ext h).four, (BD.out.ext h).four⟩
        have HS0 : Hid (S wc.drew) := HSE.out _ (Ext.refl wc).drew
        clear hSd
        refine AnyT.start (S := S) (T := fun j => decide (5 ≤ j)) (by kernel_rfl) ?_
        refine AnyT.load 0 23 (.agg #[.bool x0, .slice X0 x1 x2, .bool y0, .slice Y0 y1 y2]) rfl (by kernel_rfl) (by kernel_rfl) (by kernel_rfl) (by kernel_rfl) (by kernel_rfl) (fun _ _ _ h => h) HS0.out ?_ ?_
        · intro o ho
          simp only [List.getElem?_toArray, List.getElem?_cons_zero, Option.some.injEq] at ho
          subst ho
          refine ⟨rfl, rfl, fun w' hSw => ?_⟩
          have hs := HSI.out w' hSw
          go_split_ands
          go_simp
        simp only [Act.put, List.setIfInBounds_toArray, List.set_cons_zero, List.set_cons_succ]
        refine AnyT.load 1 24 (.agg #[.bool z0, .slice Z0 z1 z2, .bool t0, .slice T0 t1 t2]) rfl (by kernel_rfl) (by kernel_rfl) (by kernel_rfl) (by kernel_rfl) (by kernel_rfl) (fun _ _ _ h => h) HS0.out ?_ ?_
        · intro o ho
          simp only [List.getElem?_toArray, List.getElem?_cons_succ, List.getElem?_cons_zero, Option.some.injEq] at ho
          subst ho
          refine ⟨rfl, rfl, fun w' hSw => ?_⟩
          have hs := HSI.out w' hSw
          go_split_ands
          go_simp
        simp only [Act.put, List.setIfInBounds_toArray, List.set_cons_zero, List.set_cons_succ]
        refine AnyT.load 2 25 (.agg #[.bool z0, .slice Z0 z1 z2, .bool t0, .slice T0 t1 t2]) rfl (by kernel_rfl) (by kernel_rfl) (by kernel_rfl) (by kernel_rfl) (by kernel_rfl) (fun _ _ _ h => h) HS0.out ?_ ?_
        · intro o ho
          simp only [List.getElem?_toArray, List.getElem?_cons_succ, List.getElem?_cons_zero, Option.some.injEq] at ho
          subst ho
          refine ⟨rfl, rfl, fun w' hSw => ?_⟩
          have hs := HSI.out w' hSw
          go_split_ands
          go_simp
        simp only [Act.put, List.setIfInBounds_toArray, List.set_cons_zero, List.set_cons_succ]
        refine AnyT.step 3 (by kernel_rfl) ?_
        intro o ho K hK
        simp only [List.getElem?_toArray, List.getElem?_cons_succ, List.getElem?_cons_zero, Option.some.injEq] at ho
        subst ho
        go_simp
        refine (fmul_any _ _ _ _ _ (VD.out.ext (Ext.refl wc).drew) (VD.out.ext (Ext.refl wc).drew) FD.out FD.out (by decide)).mono ?_
        rintro e w3 ⟨v3, rfl, hv3, hx3⟩
        have hy3 := (Ext.refl wc).drew.trans hx3
        refine hK.out _ _ (fun _ => HSE.out _ hy3) ?_
        refine AnyT.step 4 (by kernel_rfl) ?_
        intro o ho K hK
        simp only [List.getElem?_toArray, List.getElem?_cons_succ, List.getElem?_cons_zero, Option.some.injEq] at ho
        subst ho
        go_simp
        refine (fadd_any _ _ _ _ _ (VS.out.ext hy3) hv3 FS.out (FD.out.mul FD.out) (by omega)).mono ?_
        rintro e w4 ⟨v4, rfl, hv4, hx4⟩
        obtain ⟨r0, R0, r1, r2, s0, S0, s1, s2, rfl, _, _⟩ := hv4.parts
        have hy4 := hy3.trans hx4
        refine hK.out _ _ (fun _ => HSE.out _ hy4) ?_
        rw [← HNX.out] at hv4
        have BS4 := Lib.hid (BS.out.ext hy4)
        obtain ⟨k0, k1, k2, k3⟩ := BS4.out.four
        obtain ⟨f0, f1, f2, f3⟩ := BS4.out.free4
        obtain ⟨W', hW', HBN, _, HE, HON⟩ := Box.put BS4.out hv4 (HXD.out.trans hy4) (by omega)
        have HW := Lib.hid hW'
        have BRN := Lib.hid ((BRC.out.ext hy4).only HON.out (by omega))
        clear hW' hx3 hy3 hx4 hy4
        refine AnyT.step 5 (by kernel_rfl) ?_
        intro o ho K hK
        simp only [List.getElem?_toArray, List.getElem?_cons_succ, List.getElem?_cons_zero, Option.some.injEq] at ho
        subst ho
        go_simp
        refine hK.out _ _ (fun h => by cases h) ?_
        refine AnyT.done (by kernel_rfl) ?_
        rw [HW.out]
        clear k0 k1 k2 k3 f0 f1 f2 f3
        go_wp2_with fail
        go_roundw
        case rel => exact ⟨k + 1, by omega, by go_num, HBN, BRN, HE⟩
        case measure => simp [RowKit.intOf]; omega
    · obtain rfl : k = a.length := by omega
      rw [List.take_of_length_le (Nat.le_refl _), List.take_of_length_le (by have := HLN.out; omega)] at HBS
      obtain ⟨x0, X0, x1, x2, y0, Y0, y1, y2, BS, VS⟩ := HBS.out.parts
      obtain ⟨k0, k1, k2, k3⟩ := BS.out.four
      obtain ⟨f0, f1, f2, f3⟩ := HBR.out.free4
      obtain ⟨j0, j1, j2, j3⟩ := HBR.out.four
      go_wp2
      exact ret_frac rfl rfl rfl HBR.out VS.out HXS.out (Nat.le_refl _) (fun v W' h1 h2 => ⟨v, rfl, h1, h2⟩)
end Go.Proofs.YtkhmfgkbobblmaaGreatDoor
