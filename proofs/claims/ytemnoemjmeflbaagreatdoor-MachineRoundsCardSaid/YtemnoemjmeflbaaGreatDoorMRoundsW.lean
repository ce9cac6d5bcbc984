/- joinlearnlaw29.MachineRounds, walked. -/
import Derived.Test.YtemnoemjmeflbaaGreatDoorMSane
import Derived.Test.YtemnoemjmeflbaaGreatDoorLong
namespace Go.Proofs.YtemnoemjmeflbaaGreatDoor
open Go.RowKit Go.Lib

/-- block g is a box that holds q, of the references -/
def RBox (w : World) (g : Nat) (q : Rat) : Prop := ∃ b A n c b' A' n' c', Blk w g tFr [.bool b, .slice A n c, .bool b', .slice A' n' c'] ∧ RFrac w (.agg #[.bool b, .slice A n c, .bool b', .slice A' n' c']) q
theorem RBox.parts {w : World} {g : Nat} {q : Rat} (h : RBox w g q) : ∃ b A n c b' A' n' c', Hid (Blk w g tFr [.bool b, .slice A n c, .bool b', .slice A' n' c']) ∧ Hid (RFrac w (.agg #[.bool b, .slice A n c, .bool b', .slice A' n' c']) q) := h
theorem RBox.ext {w w' : World} {g : Nat} {q : Rat} (h : RBox w g q) (hx : Ext w w') : RBox w' g q := by
  obtain ⟨b, A, n, c, b', A', n', c', h1, h2⟩ := h
  exact ⟨b, A, n, c, b', A', n', c', h1.ext hx, h2.ext hx⟩
theorem RBox.lt {w : World} {g : Nat} {q : Rat} (h : RBox w g q) : g < w.heap.size := by
  obtain ⟨b, A, n, c, b', A', n', c', h1, h2⟩ := h
  exact h1.lt
theorem RBox.put {a w : World} {g : Nat} {q : Rat} {o0 o1 o2 o3 : Value} {b : Bool} {A : Option Addr} {n c : Nat} {b' : Bool} {A' : Option Addr} {n' c' : Nat} (hB : Blk w g tFr [o0, o1, o2, o3]) (hv : RFrac w (.agg #[.bool b, .slice A n c, .bool b', .slice A' n' c']) q) (he : Ext a w) (hg : a.heap.size ≤ g) :
    ∃ W', ((((w.setCell ⟨g, 0, none⟩ (.bool b)).setCell ⟨g, 1, none⟩ (.slice A n c)).setCell ⟨g, 2, none⟩ (.bool b')).setCell ⟨g, 3, none⟩ (.slice A' n' c')) = W' ∧ Hid (RBox W' g q) ∧ Hid (Kept tI w W') ∧ Hid (Ext a W') ∧ Hid (Only g w W') := by
  have hk := hB.kept4 (t := tI) (by decide) 0 1 2 3 (.bool b) (.slice A n c) (.bool b') (.slice A' n' c')
  exact ⟨_, rfl, ⟨b, A, n, c, b', A', n', c', (((hB.set_ 0 (.bool b)).set_ 1 (.slice A n c)).set_ 2 (.bool b')).set_ 3 (.slice A' n' c'), hv.keep hk⟩, hk,
    (((he.setCell (p := ⟨g, 0, none⟩) hg _).setCell (p := ⟨g, 1, none⟩) hg _).setCell (p := ⟨g, 2, none⟩) hg _).setCell (p := ⟨g, 3, none⟩) hg _,
    (((Only.refl g w).set_ 0 _).set_ 1 _).set_ 2 _ |>.set_ 3 _⟩
theorem newrbox {P : World → Prop} {w : World} {q : Rat} {b : Bool} {A : Option Addr} {n c : Nat} {b' : Bool} {A' : Option Addr} {n' c' : Nat} (hv : RFrac w (.agg #[.bool b, .slice A n c, .bool b', .slice A' n' c']) q) (h : ∀ W, Hid (Ext w W) → Hid (RBox W w.heap.size q) → P W) : P (w.alloc (.cells #[.bool b, .slice A n c, .bool b', .slice A' n' c'] tFr)) :=
  h _ ((Ext.refl w).alloc _) ⟨b, A, n, c, b', A', n', c', Blk.new w tFr [.bool b, .slice A n c, .bool b', .slice A' n' c'], hv.ext ((Ext.refl w).alloc _)⟩
theorem two_next (k : Nat) : (((2 ^ (k + 1) : Nat) : Int) : Rat) = (((2 ^ k : Nat) : Int) : Rat) * ((2 : Int) : Rat) := by
  rw [← Rat.intCast_mul]
  congr 1
theorem ratN_pos {q : Rat} (h : 0 < q.num) : 0 < q := by
  rw [Rat.lt_iff]
  simpa using h
theorem ratP_num {q : Rat} (h : 0 < q) : 0 < q.num := by
  have h1 := (@Rat.num_nonneg q).2 (Rat.le_of_lt h)
  have h2 : q.num ≠ 0 := fun e => by rw [Rat.num_eq_zero.1 e] at h; exact absurd h (by grind)
  omega
theorem sign_le0 {q : Rat} (h : q - 1 ≤ 0) : (q - ((1 : Int) : Rat)).num.sign ≤ 0 := by
  rcases Int.lt_trichotomy (q - ((1 : Int) : Rat)).num 0 with h' | h' | h'
  · rw [Int.sign_eq_neg_one_of_neg h']; decide
  · rw [h']; decide
  · have := ratN_pos h'
    have e : ((1 : Int) : Rat) = 1 := rfl
    rw [e] at this
    grind
theorem sign_gt0 {q : Rat} (h : 0 < q + 1) : 0 < (q + ((1 : Int) : Rat)).num.sign := by
  have e : ((1 : Int) : Rat) = 1 := rfl
  rw [e]
  have := ratP_num h
  rw [Int.sign_eq_one_of_pos this]
  decide
set_option maxRecDepth 100000 in
set_option maxHeartbeats 4000000 in
theorem mrounds_walk (t : TypeId) (A : Option Addr) (zs : List Int) (c : Nat) (w : World) (hc : zs.length ≤ c) (hm : c ≤ 9223372036854775807) (hs : Sl w t A (zcells zs)) (hz : ∀ z ∈ zs, -9223372036854775808 ≤ z ∧ z ≤ 9223372036854775807) (ht : Tab w) :
    Calls Tryz.prog 5 #[.slice A zs.length c] w fun e w' => e = .returned (.bool true) ∧ Ext w w' := by
  have HS := Lib.hid hs
  have HZ := Lib.hid hz
  have HT := Lib.hid ht
  clear hs hz ht
  go_enter Tryz.func5, Tryz.ntmps5
  go_wp2_with fail
  refine (light_any A zs.length c w (by omega)).mono ?_
  rintro e w0 ⟨rfl, rfl⟩
  by_cases hl : zs.length ≤ 600
  · have hd : decide (zs.length ≤ 600) = true := decide_eq_true hl
    rw [hd]
    go_wp2_with fail
    refine (mnew_any t A zs c w hc hm hl HS.out HZ.out).mono ?_
    rintro e w1 ⟨rfl, hsrc1, hx1⟩
    clear hd
    go_wp2_with fail
    refine (mlong_any w.heap.size w1 hsrc1).mono ?_
    rintro e w2 ⟨q, fq, rfl, hsrc2, ho2⟩
    have HX2 := Lib.hid (hx1.only ho2 (Nat.le_refl _))
    clear hx1 ho2 hsrc1 hl
    have FQ := Lib.hid fq
    clear fq
    have MR := Lib.hid (fun (b : Nat) (hb : b ≤ 30) w' ht => mRound_any q b w' (FQ.out.mono (by decide)) hb ht)
    have RX := Lib.hid (fun w' => r2read_any q w' (e := 23) FQ.out (by decide))
    generalize htq : ratText q = tq at *
    clear htq
    go_wp2_with fail
    refine (n_any w.heap.size 31 w2 hsrc2 (by decide) (by decide)).mono ?_
    rintro e w3 ⟨b, hb, rfl, hsrc3, ho3⟩
    have HX3 := Lib.hid (HX2.out.only ho3 (Nat.le_refl _))
    clear ho3 hsrc2 hsrc3 HX2
    have hb30 : b ≤ 30 := by omega
    have MB := Lib.hid (fun w' ht => MR.out b hb30 w' ht)
    have FV := Lib.hid (rnd_fit FQ.out hb30)
    have hs0 := Nat.two_pow_pos b
    have FU := Lib.hid (fun k (hk : k ≤ b) => two_pow_fit (b := k) (by omega))
    have HAG := Lib.hid (rnd_again (x := q) (s := ((2 ^ b : Nat) : Int)) (by omega))
    have HUP := Lib.hid (rnd_up (x := q) (s := ((2 ^ b : Nat) : Int)) (by omega))
    have HDN := Lib.hid (rnd_down (x := q) (s := ((2 ^ b : Nat) : Int)) (by omega))
    have HMU := Lib.hid (rnd_mul (x := q) (s := ((2 ^ b : Nat) : Int)) (by omega))
    have MB2 := Lib.hid (fun w' ht => mRound_any (rnd q ((2 ^ b : Nat) : Int)) b w' (FV.out.mono (by decide)) hb30 ht)
    rw [HAG.out] at MB2
    generalize rnd q ((2 ^ b : Nat) : Int) = v at *
    have RV := Lib.hid (fun w' => r2read_any v w' (e := 45) (FV.out.mono (by decide)) (by decide))
    generalize htv : ratText v = tv at *
    clear htv MR HAG
    go_wp2_with fail
    refine (MB.out w3 (HT.out.ext HX3.out)).mono ?_
    rintro e w4 ⟨rfl, hx4⟩
    have HX4 := Lib.hid (HX3.out.trans hx4)
    clear hx4 HX3
    go_wp2_with fail
    refine (MB2.out w4 (HT.out.ext HX4.out)).mono ?_
    rintro e w5 ⟨rfl, hx5⟩
    have HX5 := Lib.hid (HX4.out.trans hx5)
    clear hx5 HX4
    go_wp2_with fail
    refine (r2of_any 1 w5 (by decide) (by decide)).mono ?_
    rintro e w6 ⟨v6, rfl, hv6, hx6⟩
    obtain ⟨a0, A0, a1, a2, b0, B0, b1, b2, rfl, _, _⟩ := hv6.parts
    have HX6 := Lib.hid (HX5.out.trans hx6)
    go_upto_region 8 with fail
    refine newrbox (P := fun W => Code.wp _ _ _ _ W) hv6 fun W HXW HB0 => ?_
    have HX7 := Lib.hid (HX6.out.trans HXW.out)
    have hg6 : w.heap.size ≤ w6.heap.size := HX6.out.size
    have HB1 : Hid (RBox W w6.heap.size (((2 ^ 0 : Nat) : Int) : Rat)) := HB0
    clear hx6 hv6 HXW HB0 HX6 HX5
    go_wp2_with fail
    go_loopw [41] (fun v41 wr => ∃ k : Nat, k ≤ b ∧ v41 = .int .i64 k ∧ Hid (RBox wr w6.heap.size (((2 ^ k : Nat) : Int) : Rat)) ∧ Hid (Ext w wr)) (fun v41 _ => b - (RowKit.intOf v41).toNat)
    case atStart => exact ⟨0, Nat.zero_le _, rfl, HB1, HX7⟩
    case round =>
      obtain ⟨k, hk, rfl, HBU, HXr⟩ := hrel
      by_cases hkb : k < b
      · have FK := Lib.hid (FU.out k hk)
        have HNX := Lib.hid (two_next k)
        obtain ⟨x0, X0, x1, x2, y0, Y0, y1, y2, BU, VU⟩ := HBU.out.parts
        generalize (((2 ^ k : Nat) : Int) : Rat) = uk at *
        go_upto_region 10 with fail
        obtain ⟨S, hSd⟩ : ∃ S : World → Prop, S = fun w' => (w'.cell? ⟨w6.heap.size, 0, none⟩ = some (.bool x0) ∧ w'.cell? ⟨w6.heap.size, 0 + 1, none⟩ = some (.slice X0 x1 x2) ∧ w'.cell? ⟨w6.heap.size, 0 + 2, none⟩ = some (.bool y0) ∧ w'.cell? ⟨w6.heap.size, 0 + 3, none⟩ = some (.slice Y0 y1 y2)) := ⟨_, rfl⟩
        have HSI : Hid (∀ w', S w' → (w'.cell? ⟨w6.heap.size, 0, none⟩ = some (.bool x0) ∧ w'.cell? ⟨w6.heap.size, 0 + 1, none⟩ = some (.slice X0 x1 x2) ∧ w'.cell? ⟨w6.heap.size, 0 + 2, none⟩ = some (.bool y0) ∧ w'.cell? ⟨w6.heap.size, 0 + 3, none⟩ = some (.slice Y0 y1 y2))) := by rw [Hid, hSd]; exact fun _ h => h
        have HSE : Hid (∀ w', Ext wr w' → S w') := by rw [Hid, hSd]; exact fun w' h => (BU.out.ext h).four
        have HS0 : Hid (S wr.drew) := HSE.out _ (Ext.refl wr).drew
        clear hSd
        refine AnyT.start (S := S) (T := fun j => decide (3 ≤ j)) (by kernel_rfl) ?_
        refine AnyT.load 0 43 (.agg #[.bool x0, .slice X0 x1 x2, .bool y0, .slice Y0 y1 y2]) rfl (by kernel_rfl) (by kernel_rfl) (by kernel_rfl) (by kernel_rfl) (by kernel_rfl) (fun _ _ _ h => h) HS0.out ?_ ?_
        · intro o ho
          simp only [List.getElem?_toArray, List.getElem?_cons_zero, Option.some.injEq] at ho
          subst ho
          refine ⟨rfl, rfl, fun w' hSw => ?_⟩
          have hs := HSI.out w' hSw
          go_split_ands
          go_simp
        simp only [Act.put, List.setIfInBounds_toArray, List.set_cons_zero, List.set_cons_succ]
        refine AnyT.step 1 (by kernel_rfl) ?_
        intro o ho K hK
        simp only [List.getElem?_toArray, List.getElem?_cons_succ, List.getElem?_cons_zero, Option.some.injEq] at ho
        subst ho
        go_simp
        refine (r2of_any 2 _ (by decide) (by decide)).mono ?_
        rintro e w7 ⟨v7, rfl, hv7, hx7⟩
        have hy7 := (Ext.refl wr).drew.trans hx7
        refine hK.out _ _ (fun _ => HSE.out _ hy7) ?_
        refine AnyT.step 2 (by kernel_rfl) ?_
        intro o ho K hK
        simp only [List.getElem?_toArray, List.getElem?_cons_succ, List.getElem?_cons_zero, Option.some.injEq] at ho
        subst ho
        go_simp
        refine (rfmul_any _ _ _ _ _ (VU.out.ext hy7) hv7 FK.out (int_fitR (e := 1) (by decide) (by decide)) (by decide)).mono ?_
        rintro e w8 ⟨v8, rfl, hv8, hx8⟩
        obtain ⟨e0, E0, e1, e2, f0, F0, f1, f2, rfl, _, _⟩ := hv8.parts
        have hy8 := hy7.trans hx8
        refine hK.out _ _ (fun _ => HSE.out _ hy8) ?_
        rw [← HNX.out] at hv8
        have BU8 := Lib.hid (BU.out.ext hy8)
        obtain ⟨k0, k1, k2, k3⟩ := BU8.out.four
        obtain ⟨m0, m1, m2, m3⟩ := BU8.out.free4
        obtain ⟨W', hW', HBN, _, HE, _⟩ := RBox.put BU8.out hv8 (HXr.out.trans hy8) hg6
        have HW' := Lib.hid hW'
        clear hW' hx7 hy7 hx8 hy8 hv7
        refine AnyT.step 3 (by kernel_rfl) ?_
        intro o ho K hK
        simp only [List.getElem?_toArray, List.getElem?_cons_succ, List.getElem?_cons_zero, Option.some.injEq] at ho
        subst ho
        go_simp
        refine hK.out _ _ (fun h => by cases h) ?_
        refine AnyT.done (by kernel_rfl) ?_
        rw [HW'.out]
        clear k0 k1 k2 k3 m0 m1 m2 m3
        go_wp2_with fail
        go_roundw
        case rel => exact ⟨k + 1, by omega, by go_num, HBN, HE⟩
        case measure => simp [RowKit.intOf]; omega
      · obtain rfl : k = b := by omega
        have FK := Lib.hid (FU.out k (Nat.le_refl _))
        obtain ⟨x0, X0, x1, x2, y0, Y0, y1, y2, BU, VU⟩ := HBU.out.parts
        generalize (((2 ^ k : Nat) : Int) : Rat) = uk at *
        go_upto_region 12 with fail
        obtain ⟨S, hSd⟩ : ∃ S : World → Prop, S = fun w' => (w'.cell? ⟨w6.heap.size, 0, none⟩ = some (.bool x0) ∧ w'.cell? ⟨w6.heap.size, 0 + 1, none⟩ = some (.slice X0 x1 x2) ∧ w'.cell? ⟨w6.heap.size, 0 + 2, none⟩ = some (.bool y0) ∧ w'.cell? ⟨w6.heap.size, 0 + 3, none⟩ = some (.slice Y0 y1 y2)) := ⟨_, rfl⟩
        have HSI : Hid (∀ w', S w' → (w'.cell? ⟨w6.heap.size, 0, none⟩ = some (.bool x0) ∧ w'.cell? ⟨w6.heap.size, 0 + 1, none⟩ = some (.slice X0 x1 x2) ∧ w'.cell? ⟨w6.heap.size, 0 + 2, none⟩ = some (.bool y0) ∧ w'.cell? ⟨w6.heap.size, 0 + 3, none⟩ = some (.slice Y0 y1 y2))) := by rw [Hid, hSd]; exact fun _ h => h
        have HSE : Hid (∀ w', Ext wr w' → S w') := by rw [Hid, hSd]; exact fun w' h => (BU.out.ext h).four
        have HS0 : Hid (S wr.drew) := HSE.out _ (Ext.refl wr).drew
        clear hSd
        refine AnyT.start (S := S) (T := fun _ => false) (by kernel_rfl) ?_
        refine AnyT.load 0 48 (.string ⟨tv.toArray⟩) rfl (by kernel_rfl) (by kernel_rfl) (by kernel_rfl) (by kernel_rfl) (by kernel_rfl) (fun _ _ _ h => h) HS0.out ?_ ?_
        · intro o ho
          simp only [List.getElem?_toArray, List.getElem?_cons_zero, Option.some.injEq] at ho
          subst ho
          refine ⟨rfl, rfl, fun w' hSw => ?_⟩
          have hs := HSI.out w' hSw
          go_split_ands
          go_simp
        simp only [Act.put, List.setIfInBounds_toArray, List.set_cons_zero, List.set_cons_succ]
        refine AnyT.load 2 50 (.agg #[.bool x0, .slice X0 x1 x2, .bool y0, .slice Y0 y1 y2]) rfl (by kernel_rfl) (by kernel_rfl) (by kernel_rfl) (by kernel_rfl) (by kernel_rfl) (fun _ _ _ h => h) HS0.out ?_ ?_
        · intro o ho
          simp only [List.getElem?_toArray, List.getElem?_cons_succ, List.getElem?_cons_zero, Option.some.injEq] at ho
          subst ho
          refine ⟨rfl, rfl, fun w' hSw => ?_⟩
          have hs := HSI.out w' hSw
          go_split_ands
          go_simp
        simp only [Act.put, List.setIfInBounds_toArray, List.set_cons_zero, List.set_cons_succ]
        refine AnyT.step 1 (by kernel_rfl) ?_
        intro o ho K hK
        simp only [List.getElem?_toArray, List.getElem?_cons_succ, List.getElem?_cons_zero, Option.some.injEq] at ho
        subst ho
        go_simp
        refine (RV.out _).mono ?_
        rintro e w7 ⟨v7, rfl, hv7, hx7⟩
        have hy7 := (Ext.refl wr).drew.trans hx7
        refine hK.out _ _ (fun _ => HSE.out _ hy7) ?_
        refine AnyT.step 3 (by kernel_rfl) ?_
        intro o ho K hK
        simp only [List.getElem?_toArray, List.getElem?_cons_succ, List.getElem?_cons_zero, Option.some.injEq] at ho
        subst ho
        go_simp
        refine (rfmul_any _ _ _ _ _ hv7 (VU.out.ext hy7) FV.out FK.out (by decide)).mono ?_
        rintro e w8 ⟨v8, rfl, hv8, hx8⟩
        have hy8 := hy7.trans hx8
        refine hK.out _ _ (fun _ => HSE.out _ hy8) ?_
        have FZ := Lib.hid (FV.out.mul FK.out)
        rw [HMU.out] at hv8 FZ
        generalize (q * uk + 1 / 2).floor = z at *
        have RG := Lib.hid (fun v w' h => rfgive_any v (z : Rat) w' h (FZ.out.mono (by decide)))
        have RP := Lib.hid (fun w' => rparts_any (z : Rat) w' (FZ.out.mono (by decide)))
        rw [show ((z : Rat)).den = 1 from rfl, show decDigits 1 = [49] from dec_small (by decide)] at RP
        generalize ratText (z : Rat) = tz at *
        generalize decZ ((z : Rat)).num = tn at *
        refine AnyT.step 4 (by kernel_rfl) ?_
        intro o ho K hK
        simp only [List.getElem?_toArray, List.getElem?_cons_succ, List.getElem?_cons_zero, Option.some.injEq] at ho
        subst ho
        go_simp
        refine (RG.out _ _ hv8).mono ?_
        rintro e w9 ⟨rfl, hx9⟩
        have hy9 := hy8.trans hx9
        refine hK.out _ _ (fun _ => HSE.out _ hy9) ?_
        clear HS0
        have HS0 := Lib.hid (HSE.out _ hy9)
        refine AnyT.load 5 47 (.tuple #[.string ⟨tz.toArray⟩, .int .i64 0]) rfl (by kernel_rfl) (by kernel_rfl) (by kernel_rfl) (by kernel_rfl) (by kernel_rfl) (fun _ _ _ h => h) HS0.out ?_ ?_
        · intro o ho
          simp only [List.getElem?_toArray, List.getElem?_cons_succ, List.getElem?_cons_zero, Option.some.injEq] at ho
          subst ho
          refine ⟨rfl, rfl, fun w' hSw => ?_⟩
          have hs := HSI.out w' hSw
          go_split_ands
          go_simp
        simp only [Act.put, List.setIfInBounds_toArray, List.set_cons_zero, List.set_cons_succ]
        refine AnyT.load 6 53 (.string ⟨tz.toArray⟩) rfl (by kernel_rfl) (by kernel_rfl) (by kernel_rfl) (by kernel_rfl) (by kernel_rfl) (fun _ _ _ h => h) HS0.out ?_ ?_
        · intro o ho
          simp only [List.getElem?_toArray, List.getElem?_cons_succ, List.getElem?_cons_zero, Option.some.injEq] at ho
          subst ho
          refine ⟨rfl, rfl, fun w' hSw => ?_⟩
          have hs := HSI.out w' hSw
          go_split_ands
          go_simp
        simp only [Act.put, List.setIfInBounds_toArray, List.set_cons_zero, List.set_cons_succ]
        refine AnyT.load 7 54 (.int .i64 0) rfl (by kernel_rfl) (by kernel_rfl) (by kernel_rfl) (by kernel_rfl) (by kernel_rfl) (fun _ _ _ h => h) HS0.out ?_ ?_
        · intro o ho
          simp only [List.getElem?_toArray, List.getElem?_cons_succ, List.getElem?_cons_zero, Option.some.injEq] at ho
          subst ho
          refine ⟨rfl, rfl, fun w' hSw => ?_⟩
          have hs := HSI.out w' hSw
          go_split_ands
          go_simp
        simp only [Act.put, List.setIfInBounds_toArray, List.set_cons_zero, List.set_cons_succ]
        refine AnyT.step 8 (by kernel_rfl) ?_
        intro o ho K hK
        simp only [List.getElem?_toArray, List.getElem?_cons_succ, List.getElem?_cons_zero, Option.some.injEq] at ho
        subst ho
        go_simp
        refine hK.out _ _ (fun _ => HS0.out) ?_
        refine AnyT.step 9 (by kernel_rfl) ?_
        intro o ho K hK
        simp only [List.getElem?_toArray, List.getElem?_cons_succ, List.getElem?_cons_zero, Option.some.injEq] at ho
        subst ho
        go_simp
        refine hK.out _ _ (fun _ => HS0.out) ?_
        refine AnyT.done (by kernel_rfl) ?_
        have HX9 := Lib.hid (HXr.out.trans hy9)
        have BU9 := Lib.hid (BU.out.ext hy9)
        have VU9 := Lib.hid (VU.out.ext hy9)
        clear hx7 hy7 hx8 hy8 hx9 hy9 hv7 hv8 HSI HSE HS0 HBU BU VU RG HXr
        go_wp2_with fail
        refine (RP.out w9).mono ?_
        rintro e w10 ⟨rfl, hx10⟩
        have HX10 := Lib.hid (HX9.out.trans hx10)
        have BU10 := Lib.hid (BU9.out.ext hx10)
        have VU10 := Lib.hid (VU9.out.ext hx10)
        clear hx10 HX9 BU9 VU9 RP
        go_upto_region 14 with fail
        go_cut [16] (fun s16 wx => ∃ gd, s16 = .pointer (some ⟨gd, 0, none⟩) ∧ Hid (RBox wx gd ((v - q) * uk * 2)) ∧ Hid (Ext w10 wx))
        case first =>
          obtain ⟨S, hSd⟩ : ∃ S : World → Prop, S = fun w' => (w'.cell? ⟨w6.heap.size, 0, none⟩ = some (.bool x0) ∧ w'.cell? ⟨w6.heap.size, 0 + 1, none⟩ = some (.slice X0 x1 x2) ∧ w'.cell? ⟨w6.heap.size, 0 + 2, none⟩ = some (.bool y0) ∧ w'.cell? ⟨w6.heap.size, 0 + 3, none⟩ = some (.slice Y0 y1 y2)) := ⟨_, rfl⟩
          have HSI : Hid (∀ w', S w' → (w'.cell? ⟨w6.heap.size, 0, none⟩ = some (.bool x0) ∧ w'.cell? ⟨w6.heap.size, 0 + 1, none⟩ = some (.slice X0 x1 x2) ∧ w'.cell? ⟨w6.heap.size, 0 + 2, none⟩ = some (.bool y0) ∧ w'.cell? ⟨w6.heap.size, 0 + 3, none⟩ = some (.slice Y0 y1 y2))) := by rw [Hid, hSd]; exact fun _ h => h
          have HSE : Hid (∀ w', Ext w10 w' → S w') := by rw [Hid, hSd]; exact fun w' h => (BU10.out.ext h).four
          have hyc : Ext w10 w10.drew := (Ext.refl w10).drew
          have HS0 : Hid (S w10.drew) := HSE.out _ hyc
          clear hSd
          refine AnyT.start (S := S) (T := fun j => decide (10 ≤ j)) (by kernel_rfl) ?_
          obtain ⟨wd, hwd⟩ : ∃ wd : World, w10.drew = wd := ⟨_, rfl⟩
          rw [hwd] at hyc HS0 ⊢
          clear hwd
          refine AnyT.load 0 61 (.string ⟨tv.toArray⟩) rfl (by kernel_rfl) (by kernel_rfl) (by kernel_rfl) (by kernel_rfl) (by kernel_rfl) (fun _ _ _ h => h) HS0.out ?_ ?_
          · intro o ho
            simp only [List.getElem?_toArray, List.getElem?_cons_zero, Option.some.injEq] at ho
            subst ho
            refine ⟨rfl, rfl, fun w' hSw => ?_⟩
            have hs := HSI.out w' hSw
            go_split_ands
            go_simp
          simp only [Act.put, List.setIfInBounds_toArray, List.set_cons_zero, List.set_cons_succ]
          refine AnyT.load 2 63 (.string ⟨tq.toArray⟩) rfl (by kernel_rfl) (by kernel_rfl) (by kernel_rfl) (by kernel_rfl) (by kernel_rfl) (fun _ _ _ h => h) HS0.out ?_ ?_
          · intro o ho
            simp only [List.getElem?_toArray, List.getElem?_cons_succ, List.getElem?_cons_zero, Option.some.injEq] at ho
            subst ho
            refine ⟨rfl, rfl, fun w' hSw => ?_⟩
            have hs := HSI.out w' hSw
            go_split_ands
            go_simp
          simp only [Act.put, List.setIfInBounds_toArray, List.set_cons_zero, List.set_cons_succ]
          refine AnyT.load 5 66 (.agg #[.bool x0, .slice X0 x1 x2, .bool y0, .slice Y0 y1 y2]) rfl (by kernel_rfl) (by kernel_rfl) (by kernel_rfl) (by kernel_rfl) (by kernel_rfl) (fun _ _ _ h => h) HS0.out ?_ ?_
          · intro o ho
            simp only [List.getElem?_toArray, List.getElem?_cons_succ, List.getElem?_cons_zero, Option.some.injEq] at ho
            subst ho
            refine ⟨rfl, rfl, fun w' hSw => ?_⟩
            have hs := HSI.out w' hSw
            go_split_ands
            go_simp
          simp only [Act.put, List.setIfInBounds_toArray, List.set_cons_zero, List.set_cons_succ]
          refine AnyT.two 1 9 (by kernel_rfl) ?_ ?_
          · skip
            intro o ho K hK
            simp only [List.getElem?_toArray, List.getElem?_cons_succ, List.getElem?_cons_zero, Option.some.injEq] at ho
            subst ho
            go_simp
            refine (RV.out _).mono ?_
            rintro e wn ⟨vn, rfl, hvn, hx⟩
            have hyc := hyc.trans hx
            refine hK.out _ _ (fun _ => HSE.out _ hyc) ?_
            have HVa := Lib.hid hvn
            clear hx hvn
            refine AnyT.two 3 9 (by kernel_rfl) ?_ ?_
            · skip
              intro o ho K hK
              simp only [List.getElem?_toArray, List.getElem?_cons_succ, List.getElem?_cons_zero, Option.some.injEq] at ho
              subst ho
              go_simp
              refine (RX.out _).mono ?_
              rintro e wn ⟨vn, rfl, hvn, hx⟩
              have hyc := hyc.trans hx
              refine hK.out _ _ (fun _ => HSE.out _ hyc) ?_
              have HVa := Lib.hid (HVa.out.ext (hx))
              have HVb := Lib.hid hvn
              clear hx hvn
              refine AnyT.two 4 9 (by kernel_rfl) ?_ ?_
              · skip
                intro o ho K hK
                simp only [List.getElem?_toArray, List.getElem?_cons_succ, List.getElem?_cons_zero, Option.some.injEq] at ho
                subst ho
                go_simp
                refine (rfsub_any _ _ _ _ _ HVa.out HVb.out FV.out FQ.out (by decide)).mono ?_
                rintro e wn ⟨vn, rfl, hvn, hx⟩
                have hyc := hyc.trans hx
                refine hK.out _ _ (fun _ => HSE.out _ hyc) ?_
                have HVa := Lib.hid (HVa.out.ext (hx))
                have HVb := Lib.hid (HVb.out.ext (hx))
                have HVc := Lib.hid hvn
                clear hx hvn
                refine AnyT.two 6 9 (by kernel_rfl) ?_ ?_
                · skip
                  intro o ho K hK
                  simp only [List.getElem?_toArray, List.getElem?_cons_succ, List.getElem?_cons_zero, Option.some.injEq] at ho
                  subst ho
                  go_simp
                  refine (rfmul_any _ _ _ _ _ HVc.out (VU10.out.ext hyc) (FV.out.sub FQ.out) FK.out (by decide)).mono ?_
                  rintro e wn ⟨vn, rfl, hvn, hx⟩
                  have hyc := hyc.trans hx
                  refine hK.out _ _ (fun _ => HSE.out _ hyc) ?_
                  have HVa := Lib.hid (HVa.out.ext (hx))
                  have HVb := Lib.hid (HVb.out.ext (hx))
                  have HVc := Lib.hid (HVc.out.ext (hx))
                  have HVd := Lib.hid hvn
                  clear hx hvn
                  refine AnyT.two 7 9 (by kernel_rfl) ?_ ?_
                  · skip
                    intro o ho K hK
                    simp only [List.getElem?_toArray, List.getElem?_cons_succ, List.getElem?_cons_zero, Option.some.injEq] at ho
                    subst ho
                    go_simp
                    refine (r2of_any 2 _ (by decide) (by decide)).mono ?_
                    rintro e wn ⟨vn, rfl, hvn, hx⟩
                    have hyc := hyc.trans hx
                    refine hK.out _ _ (fun _ => HSE.out _ hyc) ?_
                    have HVa := Lib.hid (HVa.out.ext (hx))
                    have HVb := Lib.hid (HVb.out.ext (hx))
                    have HVc := Lib.hid (HVc.out.ext (hx))
                    have HVd := Lib.hid (HVd.out.ext (hx))
                    have HVe := Lib.hid hvn
                    clear hx hvn
                    refine AnyT.two 8 9 (by kernel_rfl) ?_ ?_
                    · skip
                      intro o ho K hK
                      simp only [List.getElem?_toArray, List.getElem?_cons_succ, List.getElem?_cons_zero, Option.some.injEq] at ho
                      subst ho
                      go_simp
                      refine (rfmul_any _ _ _ _ _ HVd.out HVe.out ((FV.out.sub FQ.out).mul FK.out) (int_fitR (e := 1) (by decide) (by decide)) (by decide)).mono ?_
                      rintro e wn ⟨vn, rfl, hvn, hx⟩
                      have hyc := hyc.trans hx
                      refine hK.out _ _ (fun _ => HSE.out _ hyc) ?_
                      have HVa := Lib.hid (HVa.out.ext (hx))
                      have HVb := Lib.hid (HVb.out.ext (hx))
                      have HVc := Lib.hid (HVc.out.ext (hx))
                      have HVd := Lib.hid (HVd.out.ext (hx))
                      have HVe := Lib.hid (HVe.out.ext (hx))
                      have HVf := Lib.hid hvn
                      clear hx hvn
                      refine AnyT.step 9 (by kernel_rfl) ?_
                      intro o ho K hK
                      simp only [List.getElem?_toArray, List.getElem?_cons_succ, List.getElem?_cons_zero, Option.some.injEq] at ho
                      subst ho
                      go_simp
                      refine hK.out _ _ (fun _ => HSE.out _ (hyc.alloc _)) ?_
                      have hgz := hyc.size
                      refine box1 (P := fun W => AnyT _ _ _ _ _ _ _ _ _ W) fun WZ HXZ BZ => ?_
                      have hyc := hyc.trans HXZ.out
                      have HVa := Lib.hid (HVa.out.ext (HXZ.out))
                      have HVb := Lib.hid (HVb.out.ext (HXZ.out))
                      have HVc := Lib.hid (HVc.out.ext (HXZ.out))
                      have HVd := Lib.hid (HVd.out.ext (HXZ.out))
                      have HVe := Lib.hid (HVe.out.ext (HXZ.out))
                      have HVf := Lib.hid (HVf.out.ext (HXZ.out))
                      clear HXZ
                      obtain ⟨e0, E0, e1, e2, f0, F0, f1, f2, rfl, _, _⟩ := HVf.out.parts
                      obtain ⟨k0, k1, k2, k3⟩ := BZ.out.four
                      obtain ⟨m0, m1, m2, m3⟩ := BZ.out.free4
                      obtain ⟨W', hW', HBN, _, HE, _⟩ := RBox.put BZ.out HVf.out hyc hgz
                      have HW' := Lib.hid hW'
                      clear hW' hyc
                      refine AnyT.step 10 (by kernel_rfl) ?_
                      intro o ho K hK
                      simp only [List.getElem?_toArray, List.getElem?_cons_succ, List.getElem?_cons_zero, Option.some.injEq] at ho
                      subst ho
                      go_simp
                      refine hK.out _ _ (fun h => by cases h) ?_
                      refine AnyT.done (by kernel_rfl) ?_
                      rw [HW'.out]
                      clear k0 k1 k2 k3 m0 m1 m2 m3
                      go_wp2_with fail
                      go_meet
                      exact ⟨_, rfl, HBN, HE⟩
                    · skip
                      intro o ho K hK
                      simp only [List.getElem?_toArray, List.getElem?_cons_succ, List.getElem?_cons_zero, Option.some.injEq] at ho
                      subst ho
                      go_simp
                      refine hK.out _ _ (fun _ => HSE.out _ (hyc.alloc _)) ?_
                      have hgz := hyc.size
                      refine box1 (P := fun W => AnyT _ _ _ _ _ _ _ _ _ W) fun WZ HXZ BZ => ?_
                      have hyc := hyc.trans HXZ.out
                      have HVa := Lib.hid (HVa.out.ext (HXZ.out))
                      have HVb := Lib.hid (HVb.out.ext (HXZ.out))
                      have HVc := Lib.hid (HVc.out.ext (HXZ.out))
                      have HVd := Lib.hid (HVd.out.ext (HXZ.out))
                      have HVe := Lib.hid (HVe.out.ext (HXZ.out))
                      clear HXZ
                      refine AnyT.step 8 (by kernel_rfl) ?_
                      intro o ho K hK
                      simp only [List.getElem?_toArray, List.getElem?_cons_succ, List.getElem?_cons_zero, Option.some.injEq] at ho
                      subst ho
                      go_simp
                      refine (rfmul_any _ _ _ _ _ HVd.out HVe.out ((FV.out.sub FQ.out).mul FK.out) (int_fitR (e := 1) (by decide) (by decide)) (by decide)).mono ?_
                      rintro e wn ⟨vn, rfl, hvn, hx⟩
                      have hyc := hyc.trans hx
                      refine hK.out _ _ (fun _ => HSE.out _ hyc) ?_
                      have HVa := Lib.hid (HVa.out.ext (hx))
                      have HVb := Lib.hid (HVb.out.ext (hx))
                      have HVc := Lib.hid (HVc.out.ext (hx))
                      have HVd := Lib.hid (HVd.out.ext (hx))
                      have HVe := Lib.hid (HVe.out.ext (hx))
                      have BZ := Lib.hid (BZ.out.ext (hx))
                      have HVf := Lib.hid hvn
                      clear hx hvn
                      obtain ⟨e0, E0, e1, e2, f0, F0, f1, f2, rfl, _, _⟩ := HVf.out.parts
                      obtain ⟨k0, k1, k2, k3⟩ := BZ.out.four
                      obtain ⟨m0, m1, m2, m3⟩ := BZ.out.free4
                      obtain ⟨W', hW', HBN, _, HE, _⟩ := RBox.put BZ.out HVf.out hyc hgz
                      have HW' := Lib.hid hW'
                      clear hW' hyc
                      refine AnyT.step 10 (by kernel_rfl) ?_
                      intro o ho K hK
                      simp only [List.getElem?_toArray, List.getElem?_cons_succ, List.getElem?_cons_zero, Option.some.injEq] at ho
                      subst ho
                      go_simp
                      refine hK.out _ _ (fun h => by cases h) ?_
                      refine AnyT.done (by kernel_rfl) ?_
                      rw [HW'.out]
                      clear k0 k1 k2 k3 m0 m1 m2 m3
                      go_wp2_with fail
                      go_meet
                      exact ⟨_, rfl, HBN, HE⟩
                  · skip
                    intro o ho K hK
                    simp only [List.getElem?_toArray, List.getElem?_cons_succ, List.getElem?_cons_zero, Option.some.injEq] at ho
                    subst ho
                    go_simp
                    refine hK.out _ _ (fun _ => HSE.out _ (hyc.alloc _)) ?_
                    have hgz := hyc.size
                    refine box1 (P := fun W => AnyT _ _ _ _ _ _ _ _ _ W) fun WZ HXZ BZ => ?_
                    have hyc := hyc.trans HXZ.out
                    have HVa := Lib.hid (HVa.out.ext (HXZ.out))
                    have HVb := Lib.hid (HVb.out.ext (HXZ.out))
                    have HVc := Lib.hid (HVc.out.ext (HXZ.out))
                    have HVd := Lib.hid (HVd.out.ext (HXZ.out))
                    clear HXZ
                    refine AnyT.step 7 (by kernel_rfl) ?_
                    intro o ho K hK
                    simp only [List.getElem?_toArray, List.getElem?_cons_succ, List.getElem?_cons_zero, Option.some.injEq] at ho
                    subst ho
                    go_simp
                    refine (r2of_any 2 _ (by decide) (by decide)).mono ?_
                    rintro e wn ⟨vn, rfl, hvn, hx⟩
                    have hyc := hyc.trans hx
                    refine hK.out _ _ (fun _ => HSE.out _ hyc) ?_
                    have HVa := Lib.hid (HVa.out.ext (hx))
                    have HVb := Lib.hid (HVb.out.ext (hx))
                    have HVc := Lib.hid (HVc.out.ext (hx))
                    have HVd := Lib.hid (HVd.out.ext (hx))
                    have BZ := Lib.hid (BZ.out.ext (hx))
                    have HVe := Lib.hid hvn
                    clear hx hvn
                    refine AnyT.step 8 (by kernel_rfl) ?_
                    intro o ho K hK
                    simp only [List.getElem?_toArray, List.getElem?_cons_succ, List.getElem?_cons_zero, Option.some.injEq] at ho
                    subst ho
                    go_simp
                    refine (rfmul_any _ _ _ _ _ HVd.out HVe.out ((FV.out.sub FQ.out).mul FK.out) (int_fitR (e := 1) (by decide) (by decide)) (by decide)).mono ?_
                    rintro e wn ⟨vn, rfl, hvn, hx⟩
                    have hyc := hyc.trans hx
                    refine hK.out _ _ (fun _ => HSE.out _ hyc) ?_
                    have HVa := Lib.hid (HVa.out.ext (hx))
                    have HVb := Lib.hid (HVb.out.ext (hx))
                    have HVc := Lib.hid (HVc.out.ext (hx))
                    have HVd := Lib.hid (HVd.out.ext (hx))
                    have BZ := Lib.hid (BZ.out.ext (hx))
                    have HVe := Lib.hid (HVe.out.ext (hx))
                    have HVf := Lib.hid hvn
                    clear hx hvn
                    obtain ⟨e0, E0, e1, e2, f0, F0, f1, f2, rfl, _, _⟩ := HVf.out.parts
                    obtain ⟨k0, k1, k2, k3⟩ := BZ.out.four
                    obtain ⟨m0, m1, m2, m3⟩ := BZ.out.free4
                    obtain ⟨W', hW', HBN, _, HE, _⟩ := RBox.put BZ.out HVf.out hyc hgz
                    have HW' := Lib.hid hW'
                    clear hW' hyc
                    refine AnyT.step 10 (by kernel_rfl) ?_
                    intro o ho K hK
                    simp only [List.getElem?_toArray, List.getElem?_cons_succ, List.getElem?_cons_zero, Option.some.injEq] at ho
                    subst ho
                    go_simp
                    refine hK.out _ _ (fun h => by cases h) ?_
                    refine AnyT.done (by kernel_rfl) ?_
                    rw [HW'.out]
                    clear k0 k1 k2 k3 m0 m1 m2 m3
                    go_wp2_with fail
                    go_meet
                    exact ⟨_, rfl, HBN, HE⟩
                · skip
                  intro o ho K hK
                  simp only [List.getElem?_toArray, List.getElem?_cons_succ, List.getElem?_cons_zero, Option.some.injEq] at ho
                  subst ho
                  go_simp
                  refine hK.out _ _ (fun _ => HSE.out _ (hyc.alloc _)) ?_
                  have hgz := hyc.size
                  refine box1 (P := fun W => AnyT _ _ _ _ _ _ _ _ _ W) fun WZ HXZ BZ => ?_
                  have hyc := hyc.trans HXZ.out
                  have HVa := Lib.hid (HVa.out.ext (HXZ.out))
                  have HVb := Lib.hid (HVb.out.ext (HXZ.out))
                  have HVc := Lib.hid (HVc.out.ext (HXZ.out))
                  clear HXZ
                  refine AnyT.step 6 (by kernel_rfl) ?_
                  intro o ho K hK
                  simp only [List.getElem?_toArray, List.getElem?_cons_succ, List.getElem?_cons_zero, Option.some.injEq] at ho
                  subst ho
                  go_simp
                  refine (rfmul_any _ _ _ _ _ HVc.out (VU10.out.ext hyc) (FV.out.sub FQ.out) FK.out (by decide)).mono ?_
                  rintro e wn ⟨vn, rfl, hvn, hx⟩
                  have hyc := hyc.trans hx
                  refine hK.out _ _ (fun _ => HSE.out _ hyc) ?_
                  have HVa := Lib.hid (HVa.out.ext (hx))
                  have HVb := Lib.hid (HVb.out.ext (hx))
                  have HVc := Lib.hid (HVc.out.ext (hx))
                  have BZ := Lib.hid (BZ.out.ext (hx))
                  have HVd := Lib.hid hvn
                  clear hx hvn
                  refine AnyT.step 7 (by kernel_rfl) ?_
                  intro o ho K hK
                  simp only [List.getElem?_toArray, List.getElem?_cons_succ, List.getElem?_cons_zero, Option.some.injEq] at ho
                  subst ho
                  go_simp
                  refine (r2of_any 2 _ (by decide) (by decide)).mono ?_
                  rintro e wn ⟨vn, rfl, hvn, hx⟩
                  have hyc := hyc.trans hx
                  refine hK.out _ _ (fun _ => HSE.out _ hyc) ?_
                  have HVa := Lib.hid (HVa.out.ext (hx))
                  have HVb := Lib.hid (HVb.out.ext (hx))
                  have HVc := Lib.hid (HVc.out.ext (hx))
                  have BZ := Lib.hid (BZ.out.ext (hx))
                  have HVd := Lib.hid (HVd.out.ext (hx))
                  have HVe := Lib.hid hvn
                  clear hx hvn
                  refine AnyT.step 8 (by kernel_rfl) ?_
                  intro o ho K hK
                  simp only [List.getElem?_toArray, List.getElem?_cons_succ, List.getElem?_cons_zero, Option.some.injEq] at ho
                  subst ho
                  go_simp
                  refine (rfmul_any _ _ _ _ _ HVd.out HVe.out ((FV.out.sub FQ.out).mul FK.out) (int_fitR (e := 1) (by decide) (by decide)) (by decide)).mono ?_
                  rintro e wn ⟨vn, rfl, hvn, hx⟩
                  have hyc := hyc.trans hx
                  refine hK.out _ _ (fun _ => HSE.out _ hyc) ?_
                  have HVa := Lib.hid (HVa.out.ext (hx))
                  have HVb := Lib.hid (HVb.out.ext (hx))
                  have HVc := Lib.hid (HVc.out.ext (hx))
                  have BZ := Lib.hid (BZ.out.ext (hx))
                  have HVd := Lib.hid (HVd.out.ext (hx))
                  have HVe := Lib.hid (HVe.out.ext (hx))
                  have HVf := Lib.hid hvn
                  clear hx hvn
                  obtain ⟨e0, E0, e1, e2, f0, F0, f1, f2, rfl, _, _⟩ := HVf.out.parts
                  obtain ⟨k0, k1, k2, k3⟩ := BZ.out.four
                  obtain ⟨m0, m1, m2, m3⟩ := BZ.out.free4
                  obtain ⟨W', hW', HBN, _, HE, _⟩ := RBox.put BZ.out HVf.out hyc hgz
                  have HW' := Lib.hid hW'
                  clear hW' hyc
                  refine AnyT.step 10 (by kernel_rfl) ?_
                  intro o ho K hK
                  simp only [List.getElem?_toArray, List.getElem?_cons_succ, List.getElem?_cons_zero, Option.some.injEq] at ho
                  subst ho
                  go_simp
                  refine hK.out _ _ (fun h => by cases h) ?_
                  refine AnyT.done (by kernel_rfl) ?_
                  rw [HW'.out]
                  clear k0 k1 k2 k3 m0 m1 m2 m3
                  go_wp2_with fail
                  go_meet
                  exact ⟨_, rfl, HBN, HE⟩
              · skip
                intro o ho K hK
                simp only [List.getElem?_toArray, List.getElem?_cons_succ, List.getElem?_cons_zero, Option.some.injEq] at ho
                subst ho
                go_simp
                refine hK.out _ _ (fun _ => HSE.out _ (hyc.alloc _)) ?_
                have hgz := hyc.size
                refine box1 (P := fun W => AnyT _ _ _ _ _ _ _ _ _ W) fun WZ HXZ BZ => ?_
                have hyc := hyc.trans HXZ.out
                have HVa := Lib.hid (HVa.out.ext (HXZ.out))
                have HVb := Lib.hid (HVb.out.ext (HXZ.out))
                clear HXZ
                refine AnyT.step 4 (by kernel_rfl) ?_
                intro o ho K hK
                simp only [List.getElem?_toArray, List.getElem?_cons_succ, List.getElem?_cons_zero, Option.some.injEq] at ho
                subst ho
                go_simp
                refine (rfsub_any _ _ _ _ _ HVa.out HVb.out FV.out FQ.out (by decide)).mono ?_
                rintro e wn ⟨vn, rfl, hvn, hx⟩
                have hyc := hyc.trans hx
                refine hK.out _ _ (fun _ => HSE.out _ hyc) ?_
                have HVa := Lib.hid (HVa.out.ext (hx))
                have HVb := Lib.hid (HVb.out.ext (hx))
                have BZ := Lib.hid (BZ.out.ext (hx))
                have HVc := Lib.hid hvn
                clear hx hvn
                refine AnyT.step 6 (by kernel_rfl) ?_
                intro o ho K hK
                simp only [List.getElem?_toArray, List.getElem?_cons_succ, List.getElem?_cons_zero, Option.some.injEq] at ho
                subst ho
                go_simp
                refine (rfmul_any _ _ _ _ _ HVc.out (VU10.out.ext hyc) (FV.out.sub FQ.out) FK.out (by decide)).mono ?_
                rintro e wn ⟨vn, rfl, hvn, hx⟩
                have hyc := hyc.trans hx
                refine hK.out _ _ (fun _ => HSE.out _ hyc) ?_
                have HVa := Lib.hid (HVa.out.ext (hx))
                have HVb := Lib.hid (HVb.out.ext (hx))
                have BZ := Lib.hid (BZ.out.ext (hx))
                have HVc := Lib.hid (HVc.out.ext (hx))
                have HVd := Lib.hid hvn
                clear hx hvn
                refine AnyT.step 7 (by kernel_rfl) ?_
                intro o ho K hK
                simp only [List.getElem?_toArray, List.getElem?_cons_succ, List.getElem?_cons_zero, Option.some.injEq] at ho
                subst ho
                go_simp
                refine (r2of_any 2 _ (by decide) (by decide)).mono ?_
                rintro e wn ⟨vn, rfl, hvn, hx⟩
                have hyc := hyc.trans hx
                refine hK.out _ _ (fun _ => HSE.out _ hyc) ?_
                have HVa := Lib.hid (HVa.out.ext (hx))
                have HVb := Lib.hid (HVb.out.ext (hx))
                have BZ := Lib.hid (BZ.out.ext (hx))
                have HVc := Lib.hid (HVc.out.ext (hx))
                have HVd := Lib.hid (HVd.out.ext (hx))
                have HVe := Lib.hid hvn
                clear hx hvn
                refine AnyT.step 8 (by kernel_rfl) ?_
                intro o ho K hK
                simp only [List.getElem?_toArray, List.getElem?_cons_succ, List.getElem?_cons_zero, Option.some.injEq] at ho
                subst ho
                go_simp
                refine (rfmul_any _ _ _ _ _ HVd.out HVe.out ((FV.out.sub FQ.out).mul FK.out) (int_fitR (e := 1) (by decide) (by decide)) (by decide)).mono ?_
                rintro e wn ⟨vn, rfl, hvn, hx⟩
                have hyc := hyc.trans hx
                refine hK.out _ _ (fun _ => HSE.out _ hyc) ?_
                have HVa := Lib.hid (HVa.out.ext (hx))
                have HVb := Lib.hid (HVb.out.ext (hx))
                have BZ := Lib.hid (BZ.out.ext (hx))
                have HVc := Lib.hid (HVc.out.ext (hx))
                have HVd := Lib.hid (HVd.out.ext (hx))
                have HVe := Lib.hid (HVe.out.ext (hx))
                have HVf := Lib.hid hvn
                clear hx hvn
                obtain ⟨e0, E0, e1, e2, f0, F0, f1, f2, rfl, _, _⟩ := HVf.out.parts
                obtain ⟨k0, k1, k2, k3⟩ := BZ.out.four
                obtain ⟨m0, m1, m2, m3⟩ := BZ.out.free4
                obtain ⟨W', hW', HBN, _, HE, _⟩ := RBox.put BZ.out HVf.out hyc hgz
                have HW' := Lib.hid hW'
                clear hW' hyc
                refine AnyT.step 10 (by kernel_rfl) ?_
                intro o ho K hK
                simp only [List.getElem?_toArray, List.getElem?_cons_succ, List.getElem?_cons_zero, Option.some.injEq] at ho
                subst ho
                go_simp
                refine hK.out _ _ (fun h => by cases h) ?_
                refine AnyT.done (by kernel_rfl) ?_
                rw [HW'.out]
                clear k0 k1 k2 k3 m0 m1 m2 m3
                go_wp2_with fail
                go_meet
                exact ⟨_, rfl, HBN, HE⟩
            · skip
              intro o ho K hK
              simp only [List.getElem?_toArray, List.getElem?_cons_succ, List.getElem?_cons_zero, Option.some.injEq] at ho
              subst ho
              go_simp
              refine hK.out _ _ (fun _ => HSE.out _ (hyc.alloc _)) ?_
              have hgz := hyc.size
              refine box1 (P := fun W => AnyT _ _ _ _ _ _ _ _ _ W) fun WZ HXZ BZ => ?_
              have hyc := hyc.trans HXZ.out
              have HVa := Lib.hid (HVa.out.ext (HXZ.out))
              clear HXZ
              refine AnyT.step 3 (by kernel_rfl) ?_
              intro o ho K hK
              simp only [List.getElem?_toArray, List.getElem?_cons_succ, List.getElem?_cons_zero, Option.some.injEq] at ho
              subst ho
              go_simp
              refine (RX.out _).mono ?_
              rintro e wn ⟨vn, rfl, hvn, hx⟩
              have hyc := hyc.trans hx
              refine hK.out _ _ (fun _ => HSE.out _ hyc) ?_
              have HVa := Lib.hid (HVa.out.ext (hx))
              have BZ := Lib.hid (BZ.out.ext (hx))
              have HVb := Lib.hid hvn
              clear hx hvn
              refine AnyT.step 4 (by kernel_rfl) ?_
              intro o ho K hK
              simp only [List.getElem?_toArray, List.getElem?_cons_succ, List.getElem?_cons_zero, Option.some.injEq] at ho
              subst ho
              go_simp
              refine (rfsub_any _ _ _ _ _ HVa.out HVb.out FV.out FQ.out (by decide)).mono ?_
              rintro e wn ⟨vn, rfl, hvn, hx⟩
              have hyc := hyc.trans hx
              refine hK.out _ _ (fun _ => HSE.out _ hyc) ?_
              have HVa := Lib.hid (HVa.out.ext (hx))
              have BZ := Lib.hid (BZ.out.ext (hx))
              have HVb := Lib.hid (HVb.out.ext (hx))
              have HVc := Lib.hid hvn
              clear hx hvn
              refine AnyT.step 6 (by kernel_rfl) ?_
              intro o ho K hK
              simp only [List.getElem?_toArray, List.getElem?_cons_succ, List.getElem?_cons_zero, Option.some.injEq] at ho
              subst ho
              go_simp
              refine (rfmul_any _ _ _ _ _ HVc.out (VU10.out.ext hyc) (FV.out.sub FQ.out) FK.out (by decide)).mono ?_
              rintro e wn ⟨vn, rfl, hvn, hx⟩
              have hyc := hyc.trans hx
              refine hK.out _ _ (fun _ => HSE.out _ hyc) ?_
              have HVa := Lib.hid (HVa.out.ext (hx))
              have BZ := Lib.hid (BZ.out.ext (hx))
              have HVb := Lib.hid (HVb.out.ext (hx))
              have HVc := Lib.hid (HVc.out.ext (hx))
              have HVd := Lib.hid hvn
              clear hx hvn
              refine AnyT.step 7 (by kernel_rfl) ?_
              intro o ho K hK
              simp only [List.getElem?_toArray, List.getElem?_cons_succ, List.getElem?_cons_zero, Option.some.injEq] at ho
              subst ho
              go_simp
              refine (r2of_any 2 _ (by decide) (by decide)).mono ?_
              rintro e wn ⟨vn, rfl, hvn, hx⟩
              have hyc := hyc.trans hx
              refine hK.out _ _ (fun _ => HSE.out _ hyc) ?_
              have HVa := Lib.hid (HVa.out.ext (hx))
              have BZ := Lib.hid (BZ.out.ext (hx))
              have HVb := Lib.hid (HVb.out.ext (hx))
              have HVc := Lib.hid (HVc.out.ext (hx))
              have HVd := Lib.hid (HVd.out.ext (hx))
              have HVe := Lib.hid hvn
              clear hx hvn
              refine AnyT.step 8 (by kernel_rfl) ?_
              intro o ho K hK
              simp only [List.getElem?_toArray, List.getElem?_cons_succ, List.getElem?_cons_zero, Option.some.injEq] at ho
              subst ho
              go_simp
              refine (rfmul_any _ _ _ _ _ HVd.out HVe.out ((FV.out.sub FQ.out).mul FK.out) (int_fitR (e := 1) (by decide) (by decide)) (by decide)).mono ?_
              rintro e wn ⟨vn, rfl, hvn, hx⟩
              have hyc := hyc.trans hx
              refine hK.out _ _ (fun _ => HSE.out _ hyc) ?_
              have HVa := Lib.hid (HVa.out.ext (hx))
              have BZ := Lib.hid (BZ.out.ext (hx))
              have HVb := Lib.hid (HVb.out.ext (hx))
              have HVc := Lib.hid (HVc.out.ext (hx))
              have HVd := Lib.hid (HVd.out.ext (hx))
              have HVe := Lib.hid (HVe.out.ext (hx))
              have HVf := Lib.hid hvn
              clear hx hvn
              obtain ⟨e0, E0, e1, e2, f0, F0, f1, f2, rfl, _, _⟩ := HVf.out.parts
              obtain ⟨k0, k1, k2, k3⟩ := BZ.out.four
              obtain ⟨m0, m1, m2, m3⟩ := BZ.out.free4
              obtain ⟨W', hW', HBN, _, HE, _⟩ := RBox.put BZ.out HVf.out hyc hgz
              have HW' := Lib.hid hW'
              clear hW' hyc
              refine AnyT.step 10 (by kernel_rfl) ?_
              intro o ho K hK
              simp only [List.getElem?_toArray, List.getElem?_cons_succ, List.getElem?_cons_zero, Option.some.injEq] at ho
              subst ho
              go_simp
              refine hK.out _ _ (fun h => by cases h) ?_
              refine AnyT.done (by kernel_rfl) ?_
              rw [HW'.out]
              clear k0 k1 k2 k3 m0 m1 m2 m3
              go_wp2_with fail
              go_meet
              exact ⟨_, rfl, HBN, HE⟩
          · skip
            intro o ho K hK
            simp only [List.getElem?_toArray, List.getElem?_cons_succ, List.getElem?_cons_zero, Option.some.injEq] at ho
            subst ho
            go_simp
            refine hK.out _ _ (fun _ => HSE.out _ (hyc.alloc _)) ?_
            have hgz := hyc.size
            refine box1 (P := fun W => AnyT _ _ _ _ _ _ _ _ _ W) fun WZ HXZ BZ => ?_
            have hyc := hyc.trans HXZ.out
            clear HXZ
            refine AnyT.step 1 (by kernel_rfl) ?_
            intro o ho K hK
            simp only [List.getElem?_toArray, List.getElem?_cons_succ, List.getElem?_cons_zero, Option.some.injEq] at ho
            subst ho
            go_simp
            refine (RV.out _).mono ?_
            rintro e wn ⟨vn, rfl, hvn, hx⟩
            have hyc := hyc.trans hx
            refine hK.out _ _ (fun _ => HSE.out _ hyc) ?_
            have BZ := Lib.hid (BZ.out.ext (hx))
            have HVa := Lib.hid hvn
            clear hx hvn
            refine AnyT.step 3 (by kernel_rfl) ?_
            intro o ho K hK
            simp only [List.getElem?_toArray, List.getElem?_cons_succ, List.getElem?_cons_zero, Option.some.injEq] at ho
            subst ho
            go_simp
            refine (RX.out _).mono ?_
            rintro e wn ⟨vn, rfl, hvn, hx⟩
            have hyc := hyc.trans hx
            refine hK.out _ _ (fun _ => HSE.out _ hyc) ?_
            have BZ := Lib.hid (BZ.out.ext (hx))
            have HVa := Lib.hid (HVa.out.ext (hx))
            have HVb := Lib.hid hvn
            clear hx hvn
            refine AnyT.step 4 (by kernel_rfl) ?_
            intro o ho K hK
            simp only [List.getElem?_toArray, List.getElem?_cons_succ, List.getElem?_cons_zero, Option.some.injEq] at ho
            subst ho
            go_simp
            refine (rfsub_any _ _ _ _ _ HVa.out HVb.out FV.out FQ.out (by decide)).mono ?_
            rintro e wn ⟨vn, rfl, hvn, hx⟩
            have hyc := hyc.trans hx
            refine hK.out _ _ (fun _ => HSE.out _ hyc) ?_
            have BZ := Lib.hid (BZ.out.ext (hx))
            have HVa := Lib.hid (HVa.out.ext (hx))
            have HVb := Lib.hid (HVb.out.ext (hx))
            have HVc := Lib.hid hvn
            clear hx hvn
            refine AnyT.step 6 (by kernel_rfl) ?_
            intro o ho K hK
            simp only [List.getElem?_toArray, List.getElem?_cons_succ, List.getElem?_cons_zero, Option.some.injEq] at ho
            subst ho
            go_simp
            refine (rfmul_any _ _ _ _ _ HVc.out (VU10.out.ext hyc) (FV.out.sub FQ.out) FK.out (by decide)).mono ?_
            rintro e wn ⟨vn, rfl, hvn, hx⟩
            have hyc := hyc.trans hx
            refine hK.out _ _ (fun _ => HSE.out _ hyc) ?_
            have BZ := Lib.hid (BZ.out.ext (hx))
            have HVa := Lib.hid (HVa.out.ext (hx))
            have HVb := Lib.hid (HVb.out.ext (hx))
            have HVc := Lib.hid (HVc.out.ext (hx))
            have HVd := Lib.hid hvn
            clear hx hvn
            refine AnyT.step 7 (by kernel_rfl) ?_
            intro o ho K hK
            simp only [List.getElem?_toArray, List.getElem?_cons_succ, List.getElem?_cons_zero, Option.some.injEq] at ho
            subst ho
            go_simp
            refine (r2of_any 2 _ (by decide) (by decide)).mono ?_
            rintro e wn ⟨vn, rfl, hvn, hx⟩
            have hyc := hyc.trans hx
            refine hK.out _ _ (fun _ => HSE.out _ hyc) ?_
            have BZ := Lib.hid (BZ.out.ext (hx))
            have HVa := Lib.hid (HVa.out.ext (hx))
            have HVb := Lib.hid (HVb.out.ext (hx))
            have HVc := Lib.hid (HVc.out.ext (hx))
            have HVd := Lib.hid (HVd.out.ext (hx))
            have HVe := Lib.hid hvn
            clear hx hvn
            refine AnyT.step 8 (by kernel_rfl) ?_
            intro o ho K hK
            simp only [List.getElem?_toArray, List.getElem?_cons_succ, List.getElem?_cons_zero, Option.some.injEq] at ho
            subst ho
            go_simp
            refine (rfmul_any _ _ _ _ _ HVd.out HVe.out ((FV.out.sub FQ.out).mul FK.out) (int_fitR (e := 1) (by decide) (by decide)) (by decide)).mono ?_
            rintro e wn ⟨vn, rfl, hvn, hx⟩
            have hyc := hyc.trans hx
            refine hK.out _ _ (fun _ => HSE.out _ hyc) ?_
            have BZ := Lib.hid (BZ.out.ext (hx))
            have HVa := Lib.hid (HVa.out.ext (hx))
            have HVb := Lib.hid (HVb.out.ext (hx))
            have HVc := Lib.hid (HVc.out.ext (hx))
            have HVd := Lib.hid (HVd.out.ext (hx))
            have HVe := Lib.hid (HVe.out.ext (hx))
            have HVf := Lib.hid hvn
            clear hx hvn
            obtain ⟨e0, E0, e1, e2, f0, F0, f1, f2, rfl, _, _⟩ := HVf.out.parts
            obtain ⟨k0, k1, k2, k3⟩ := BZ.out.four
            obtain ⟨m0, m1, m2, m3⟩ := BZ.out.free4
            obtain ⟨W', hW', HBN, _, HE, _⟩ := RBox.put BZ.out HVf.out hyc hgz
            have HW' := Lib.hid hW'
            clear hW' hyc
            refine AnyT.step 10 (by kernel_rfl) ?_
            intro o ho K hK
            simp only [List.getElem?_toArray, List.getElem?_cons_succ, List.getElem?_cons_zero, Option.some.injEq] at ho
            subst ho
            go_simp
            refine hK.out _ _ (fun h => by cases h) ?_
            refine AnyT.done (by kernel_rfl) ?_
            rw [HW'.out]
            clear k0 k1 k2 k3 m0 m1 m2 m3
            go_wp2_with fail
            go_meet
            exact ⟨_, rfl, HBN, HE⟩
        case rest =>
          obtain ⟨gd, rfl, HBD, HXC⟩ := hcut
          have FD : Hid (FitQ 100 ((v - q) * uk * 2)) := (((FV.out.sub FQ.out).mul FK.out).mul (int_fitR (z := 2) (e := 1) (by decide) (by decide))).mono (by decide)
          have HX11 := Lib.hid (HX10.out.trans HXC.out)
          generalize (v - q) * uk * 2 = dd at *
          obtain ⟨e0, E0, e1, e2, f0, F0, f1, f2, BD, VD⟩ := HBD.out.parts
          clear HBD BU10 VU10 HXC HX10
          go_upto_region 15 with fail
          obtain ⟨S, hSd⟩ : ∃ S : World → Prop, S = fun w' => (w'.cell? ⟨gd, 0, none⟩ = some (.bool e0) ∧ w'.cell? ⟨gd, 0 + 1, none⟩ = some (.slice E0 e1 e2) ∧ w'.cell? ⟨gd, 0 + 2, none⟩ = some (.bool f0) ∧ w'.cell? ⟨gd, 0 + 3, none⟩ = some (.slice F0 f1 f2)) := ⟨_, rfl⟩
          have HSI : Hid (∀ w', S w' → (w'.cell? ⟨gd, 0, none⟩ = some (.bool e0) ∧ w'.cell? ⟨gd, 0 + 1, none⟩ = some (.slice E0 e1 e2) ∧ w'.cell? ⟨gd, 0 + 2, none⟩ = some (.bool f0) ∧ w'.cell? ⟨gd, 0 + 3, none⟩ = some (.slice F0 f1 f2))) := by rw [Hid, hSd]; exact fun _ h => h
          have HSE : Hid (∀ w', Ext wc w' → S w') := by rw [Hid, hSd]; exact fun w' h => (BD.out.ext h).four
          have hyc : Ext wc wc.drew := (Ext.refl wc).drew
          have HS0 : Hid (S wc.drew) := HSE.out _ hyc
          clear hSd
          refine AnyT.start (S := S) (T := fun _ => false) (by kernel_rfl) ?_
          refine AnyT.load 0 70 (.int .i64 0) rfl (by kernel_rfl) (by kernel_rfl) (by kernel_rfl) (by kernel_rfl) (by kernel_rfl) (fun _ _ _ h => h) HS0.out ?_ ?_
          · intro o ho
            simp only [List.getElem?_toArray, List.getElem?_cons_zero, Option.some.injEq] at ho
            subst ho
            refine ⟨rfl, rfl, fun w' hSw => ?_⟩
            have hs := HSI.out w' hSw
            go_split_ands
            go_simp
          simp only [Act.put, List.setIfInBounds_toArray, List.set_cons_zero, List.set_cons_succ]
          refine AnyT.load 1 71 (.bool true) rfl (by kernel_rfl) (by kernel_rfl) (by kernel_rfl) (by kernel_rfl) (by kernel_rfl) (fun _ _ _ h => h) HS0.out ?_ ?_
          · intro o ho
            simp only [List.getElem?_toArray, List.getElem?_cons_succ, List.getElem?_cons_zero, Option.some.injEq] at ho
            subst ho
            refine ⟨rfl, rfl, fun w' hSw => ?_⟩
            have hs := HSI.out w' hSw
            go_split_ands
            go_simp
          simp only [Act.put, List.setIfInBounds_toArray, List.set_cons_zero, List.set_cons_succ]
          refine AnyT.load 2 72 (.bool true) rfl (by kernel_rfl) (by kernel_rfl) (by kernel_rfl) (by kernel_rfl) (by kernel_rfl) (fun _ _ _ h => h) HS0.out ?_ ?_
          · intro o ho
            simp only [List.getElem?_toArray, List.getElem?_cons_succ, List.getElem?_cons_zero, Option.some.injEq] at ho
            subst ho
            refine ⟨rfl, rfl, fun w' hSw => ?_⟩
            have hs := HSI.out w' hSw
            go_split_ands
            go_simp
          simp only [Act.put, List.setIfInBounds_toArray, List.set_cons_zero, List.set_cons_succ]
          refine AnyT.load 3 73 (.int .i64 0) rfl (by kernel_rfl) (by kernel_rfl) (by kernel_rfl) (by kernel_rfl) (by kernel_rfl) (fun _ _ _ h => h) HS0.out ?_ ?_
          · intro o ho
            simp only [List.getElem?_toArray, List.getElem?_cons_succ, List.getElem?_cons_zero, Option.some.injEq] at ho
            subst ho
            refine ⟨rfl, rfl, fun w' hSw => ?_⟩
            have hs := HSI.out w' hSw
            go_split_ands
            go_simp
          simp only [Act.put, List.setIfInBounds_toArray, List.set_cons_zero, List.set_cons_succ]
          refine AnyT.load 4 74 (.bool true) rfl (by kernel_rfl) (by kernel_rfl) (by kernel_rfl) (by kernel_rfl) (by kernel_rfl) (fun _ _ _ h => h) HS0.out ?_ ?_
          · intro o ho
            simp only [List.getElem?_toArray, List.getElem?_cons_succ, List.getElem?_cons_zero, Option.some.injEq] at ho
            subst ho
            refine ⟨rfl, rfl, fun w' hSw => ?_⟩
            have hs := HSI.out w' hSw
            go_split_ands
            go_simp
          simp only [Act.put, List.setIfInBounds_toArray, List.set_cons_zero, List.set_cons_succ]
          refine AnyT.load 5 75 (.bool true) rfl (by kernel_rfl) (by kernel_rfl) (by kernel_rfl) (by kernel_rfl) (by kernel_rfl) (fun _ _ _ h => h) HS0.out ?_ ?_
          · intro o ho
            simp only [List.getElem?_toArray, List.getElem?_cons_succ, List.getElem?_cons_zero, Option.some.injEq] at ho
            subst ho
            refine ⟨rfl, rfl, fun w' hSw => ?_⟩
            have hs := HSI.out w' hSw
            go_split_ands
            go_simp
          simp only [Act.put, List.setIfInBounds_toArray, List.set_cons_zero, List.set_cons_succ]
          refine AnyT.load 6 76 (.bool true) rfl (by kernel_rfl) (by kernel_rfl) (by kernel_rfl) (by kernel_rfl) (by kernel_rfl) (fun _ _ _ h => h) HS0.out ?_ ?_
          · intro o ho
            simp only [List.getElem?_toArray, List.getElem?_cons_succ, List.getElem?_cons_zero, Option.some.injEq] at ho
            subst ho
            refine ⟨rfl, rfl, fun w' hSw => ?_⟩
            have hs := HSI.out w' hSw
            go_split_ands
            go_simp
          simp only [Act.put, List.setIfInBounds_toArray, List.set_cons_zero, List.set_cons_succ]
          refine AnyT.load 7 77 (.string ⟨tv.toArray⟩) rfl (by kernel_rfl) (by kernel_rfl) (by kernel_rfl) (by kernel_rfl) (by kernel_rfl) (fun _ _ _ h => h) HS0.out ?_ ?_
          · intro o ho
            simp only [List.getElem?_toArray, List.getElem?_cons_succ, List.getElem?_cons_zero, Option.some.injEq] at ho
            subst ho
            refine ⟨rfl, rfl, fun w' hSw => ?_⟩
            have hs := HSI.out w' hSw
            go_split_ands
            go_simp
          simp only [Act.put, List.setIfInBounds_toArray, List.set_cons_zero, List.set_cons_succ]
          refine AnyT.load 8 78 (.string ⟨tv.toArray⟩) rfl (by kernel_rfl) (by kernel_rfl) (by kernel_rfl) (by kernel_rfl) (by kernel_rfl) (fun _ _ _ h => h) HS0.out ?_ ?_
          · intro o ho
            simp only [List.getElem?_toArray, List.getElem?_cons_succ, List.getElem?_cons_zero, Option.some.injEq] at ho
            subst ho
            refine ⟨rfl, rfl, fun w' hSw => ?_⟩
            have hs := HSI.out w' hSw
            go_split_ands
            go_simp
          simp only [Act.put, List.setIfInBounds_toArray, List.set_cons_zero, List.set_cons_succ]
          refine AnyT.load 9 79 (.bool true) rfl (by kernel_rfl) (by kernel_rfl) (by kernel_rfl) (by kernel_rfl) (by kernel_rfl) (fun _ _ _ h => h) HS0.out ?_ ?_
          · intro o ho
            simp only [List.getElem?_toArray, List.getElem?_cons_succ, List.getElem?_cons_zero, Option.some.injEq] at ho
            subst ho
            refine ⟨rfl, rfl, fun w' hSw => ?_⟩
            have hs := HSI.out w' hSw
            go_split_ands
            go_simp
          simp only [Act.put, List.setIfInBounds_toArray, List.set_cons_zero, List.set_cons_succ]
          refine AnyT.load 10 80 (.bool true) rfl (by kernel_rfl) (by kernel_rfl) (by kernel_rfl) (by kernel_rfl) (by kernel_rfl) (fun _ _ _ h => h) HS0.out ?_ ?_
          · intro o ho
            simp only [List.getElem?_toArray, List.getElem?_cons_succ, List.getElem?_cons_zero, Option.some.injEq] at ho
            subst ho
            refine ⟨rfl, rfl, fun w' hSw => ?_⟩
            have hs := HSI.out w' hSw
            go_split_ands
            go_simp
          simp only [Act.put, List.setIfInBounds_toArray, List.set_cons_zero, List.set_cons_succ]
          refine AnyT.load 11 81 (.bool true) rfl (by kernel_rfl) (by kernel_rfl) (by kernel_rfl) (by kernel_rfl) (by kernel_rfl) (fun _ _ _ h => h) HS0.out ?_ ?_
          · intro o ho
            simp only [List.getElem?_toArray, List.getElem?_cons_succ, List.getElem?_cons_zero, Option.some.injEq] at ho
            subst ho
            refine ⟨rfl, rfl, fun w' hSw => ?_⟩
            have hs := HSI.out w' hSw
            go_split_ands
            go_simp
          simp only [Act.put, List.setIfInBounds_toArray, List.set_cons_zero, List.set_cons_succ]
          refine AnyT.load 12 82 (.bool true) rfl (by kernel_rfl) (by kernel_rfl) (by kernel_rfl) (by kernel_rfl) (by kernel_rfl) (fun _ _ _ h => h) HS0.out ?_ ?_
          · intro o ho
            simp only [List.getElem?_toArray, List.getElem?_cons_succ, List.getElem?_cons_zero, Option.some.injEq] at ho
            subst ho
            refine ⟨rfl, rfl, fun w' hSw => ?_⟩
            have hs := HSI.out w' hSw
            go_split_ands
            go_simp
          simp only [Act.put, List.setIfInBounds_toArray, List.set_cons_zero, List.set_cons_succ]
          refine AnyT.load 13 83 (.bool true) rfl (by kernel_rfl) (by kernel_rfl) (by kernel_rfl) (by kernel_rfl) (by kernel_rfl) (fun _ _ _ h => h) HS0.out ?_ ?_
          · intro o ho
            simp only [List.getElem?_toArray, List.getElem?_cons_succ, List.getElem?_cons_zero, Option.some.injEq] at ho
            subst ho
            refine ⟨rfl, rfl, fun w' hSw => ?_⟩
            have hs := HSI.out w' hSw
            go_split_ands
            go_simp
          simp only [Act.put, List.setIfInBounds_toArray, List.set_cons_zero, List.set_cons_succ]
          refine AnyT.load 14 84 (.bool true) rfl (by kernel_rfl) (by kernel_rfl) (by kernel_rfl) (by kernel_rfl) (by kernel_rfl) (fun _ _ _ h => h) HS0.out ?_ ?_
          · intro o ho
            simp only [List.getElem?_toArray, List.getElem?_cons_succ, List.getElem?_cons_zero, Option.some.injEq] at ho
            subst ho
            refine ⟨rfl, rfl, fun w' hSw => ?_⟩
            have hs := HSI.out w' hSw
            go_split_ands
            go_simp
          simp only [Act.put, List.setIfInBounds_toArray, List.set_cons_zero, List.set_cons_succ]
          refine AnyT.load 15 85 (.string ⟨#[49]⟩) rfl (by kernel_rfl) (by kernel_rfl) (by kernel_rfl) (by kernel_rfl) (by kernel_rfl) (fun _ _ _ h => h) HS0.out ?_ ?_
          · intro o ho
            simp only [List.getElem?_toArray, List.getElem?_cons_succ, List.getElem?_cons_zero, Option.some.injEq] at ho
            subst ho
            refine ⟨rfl, rfl, fun w' hSw => ?_⟩
            have hs := HSI.out w' hSw
            go_split_ands
            go_simp
          simp only [Act.put, List.setIfInBounds_toArray, List.set_cons_zero, List.set_cons_succ]
          refine AnyT.load 16 86 (.bool true) rfl (by kernel_rfl) (by kernel_rfl) (by kernel_rfl) (by kernel_rfl) (by kernel_rfl) (fun _ _ _ h => h) HS0.out ?_ ?_
          · intro o ho
            simp only [List.getElem?_toArray, List.getElem?_cons_succ, List.getElem?_cons_zero, Option.some.injEq] at ho
            subst ho
            refine ⟨rfl, rfl, fun w' hSw => ?_⟩
            have hs := HSI.out w' hSw
            go_split_ands
            go_simp
          simp only [Act.put, List.setIfInBounds_toArray, List.set_cons_zero, List.set_cons_succ]
          refine AnyT.load 17 87 (.bool true) rfl (by kernel_rfl) (by kernel_rfl) (by kernel_rfl) (by kernel_rfl) (by kernel_rfl) (fun _ _ _ h => h) HS0.out ?_ ?_
          · intro o ho
            simp only [List.getElem?_toArray, List.getElem?_cons_succ, List.getElem?_cons_zero, Option.some.injEq] at ho
            subst ho
            refine ⟨rfl, rfl, fun w' hSw => ?_⟩
            have hs := HSI.out w' hSw
            go_split_ands
            go_simp
          simp only [Act.put, List.setIfInBounds_toArray, List.set_cons_zero, List.set_cons_succ]
          refine AnyT.load 18 88 (.bool true) rfl (by kernel_rfl) (by kernel_rfl) (by kernel_rfl) (by kernel_rfl) (by kernel_rfl) (fun _ _ _ h => h) HS0.out ?_ ?_
          · intro o ho
            simp only [List.getElem?_toArray, List.getElem?_cons_succ, List.getElem?_cons_zero, Option.some.injEq] at ho
            subst ho
            refine ⟨rfl, rfl, fun w' hSw => ?_⟩
            have hs := HSI.out w' hSw
            go_split_ands
            go_simp
          simp only [Act.put, List.setIfInBounds_toArray, List.set_cons_zero, List.set_cons_succ]
          refine AnyT.load 19 89 (.agg #[.bool e0, .slice E0 e1 e2, .bool f0, .slice F0 f1 f2]) rfl (by kernel_rfl) (by kernel_rfl) (by kernel_rfl) (by kernel_rfl) (by kernel_rfl) (fun _ _ _ h => h) HS0.out ?_ ?_
          · intro o ho
            simp only [List.getElem?_toArray, List.getElem?_cons_succ, List.getElem?_cons_zero, Option.some.injEq] at ho
            subst ho
            refine ⟨rfl, rfl, fun w' hSw => ?_⟩
            have hs := HSI.out w' hSw
            go_split_ands
            go_simp
          simp only [Act.put, List.setIfInBounds_toArray, List.set_cons_zero, List.set_cons_succ]
          refine AnyT.step 20 (by kernel_rfl) ?_
          intro o ho K hK
          simp only [List.getElem?_toArray, List.getElem?_cons_succ, List.getElem?_cons_zero, Option.some.injEq] at ho
          subst ho
          go_simp
          refine (r2of_any 1 _ (by decide) (by decide)).mono ?_
          rintro e wn ⟨vn, rfl, hvn, hx⟩
          have hyc := hyc.trans hx
          refine hK.out _ _ (fun _ => HSE.out _ hyc) ?_
          refine AnyT.step 21 (by kernel_rfl) ?_
          intro o ho K hK
          simp only [List.getElem?_toArray, List.getElem?_cons_succ, List.getElem?_cons_zero, Option.some.injEq] at ho
          subst ho
          go_simp
          refine (rfsub_any _ _ _ _ _ (VD.out.ext hyc) hvn FD.out (int_fitR (e := 1) (by decide) (by decide)) (by decide)).mono ?_
          rintro e wm ⟨vm, rfl, hvm, hx⟩
          have hyc := hyc.trans hx
          refine hK.out _ _ (fun _ => HSE.out _ hyc) ?_
          have HUP1 : Hid ((dd - ((1 : Int) : Rat)).num.sign ≤ 0) := sign_le0 HUP.out
          have SG := Lib.hid (rfsign_any vm _ wm hvm)
          generalize (dd - ((1 : Int) : Rat)).num.sign = s1 at *
          refine AnyT.step 22 (by kernel_rfl) ?_
          intro o ho K hK
          simp only [List.getElem?_toArray, List.getElem?_cons_succ, List.getElem?_cons_zero, Option.some.injEq] at ho
          subst ho
          go_simp
          refine SG.out.mono ?_
          rintro e wl ⟨rfl, hx⟩
          have hyc := hyc.trans hx
          refine hK.out _ _ (fun _ => HSE.out _ hyc) ?_
          clear HS0
          have HS0 := Lib.hid (HSE.out _ hyc)
          have d93 : decide (s1 ≤ 0) = true := decide_eq_true HUP1.out
          refine AnyT.load 23 93 (.bool true) rfl (by kernel_rfl) (by kernel_rfl) (by kernel_rfl) (by kernel_rfl) (by kernel_rfl) (fun _ _ _ h => h) HS0.out ?_ ?_
          · intro o ho
            simp only [List.getElem?_toArray, List.getElem?_cons_succ, List.getElem?_cons_zero, Option.some.injEq] at ho
            subst ho
            refine ⟨rfl, rfl, fun w' hSw => ?_⟩
            have hs := HSI.out w' hSw
            go_split_ands
            go_simp
          simp only [Act.put, List.setIfInBounds_toArray, List.set_cons_zero, List.set_cons_succ]
          refine AnyT.load 24 94 (.bool true) rfl (by kernel_rfl) (by kernel_rfl) (by kernel_rfl) (by kernel_rfl) (by kernel_rfl) (fun _ _ _ h => h) HS0.out ?_ ?_
          · intro o ho
            simp only [List.getElem?_toArray, List.getElem?_cons_succ, List.getElem?_cons_zero, Option.some.injEq] at ho
            subst ho
            refine ⟨rfl, rfl, fun w' hSw => ?_⟩
            have hs := HSI.out w' hSw
            go_split_ands
            go_simp
          simp only [Act.put, List.setIfInBounds_toArray, List.set_cons_zero, List.set_cons_succ]
          refine AnyT.load 25 95 (.bool true) rfl (by kernel_rfl) (by kernel_rfl) (by kernel_rfl) (by kernel_rfl) (by kernel_rfl) (fun _ _ _ h => h) HS0.out ?_ ?_
          · intro o ho
            simp only [List.getElem?_toArray, List.getElem?_cons_succ, List.getElem?_cons_zero, Option.some.injEq] at ho
            subst ho
            refine ⟨rfl, rfl, fun w' hSw => ?_⟩
            have hs := HSI.out w' hSw
            go_split_ands
            go_simp
          simp only [Act.put, List.setIfInBounds_toArray, List.set_cons_zero, List.set_cons_succ]
          refine AnyT.load 26 96 (.agg #[.bool e0, .slice E0 e1 e2, .bool f0, .slice F0 f1 f2]) rfl (by kernel_rfl) (by kernel_rfl) (by kernel_rfl) (by kernel_rfl) (by kernel_rfl) (fun _ _ _ h => h) HS0.out ?_ ?_
          · intro o ho
            simp only [List.getElem?_toArray, List.getElem?_cons_succ, List.getElem?_cons_zero, Option.some.injEq] at ho
            subst ho
            refine ⟨rfl, rfl, fun w' hSw => ?_⟩
            have hs := HSI.out w' hSw
            go_split_ands
            go_simp
          simp only [Act.put, List.setIfInBounds_toArray, List.set_cons_zero, List.set_cons_succ]
          clear d93
          refine AnyT.step 27 (by kernel_rfl) ?_
          intro o ho K hK
          simp only [List.getElem?_toArray, List.getElem?_cons_succ, List.getElem?_cons_zero, Option.some.injEq] at ho
          subst ho
          go_simp
          refine (r2of_any 1 _ (by decide) (by decide)).mono ?_
          rintro e wk ⟨vk, rfl, hvk, hx⟩
          have hyc := hyc.trans hx
          refine hK.out _ _ (fun _ => HSE.out _ hyc) ?_
          refine AnyT.step 28 (by kernel_rfl) ?_
          intro o ho K hK
          simp only [List.getElem?_toArray, List.getElem?_cons_succ, List.getElem?_cons_zero, Option.some.injEq] at ho
          subst ho
          go_simp
          refine (rfadd_any _ _ _ _ _ (VD.out.ext hyc) hvk FD.out (int_fitR (e := 1) (by decide) (by decide)) (by decide)).mono ?_
          rintro e wj ⟨vj, rfl, hvj, hx⟩
          have hyc := hyc.trans hx
          refine hK.out _ _ (fun _ => HSE.out _ hyc) ?_
          have HDN1 : Hid (0 < (dd + ((1 : Int) : Rat)).num.sign) := sign_gt0 HDN.out
          have SG2 := Lib.hid (rfsign_any vj _ wj hvj)
          generalize (dd + ((1 : Int) : Rat)).num.sign = s2 at *
          refine AnyT.step 29 (by kernel_rfl) ?_
          intro o ho K hK
          simp only [List.getElem?_toArray, List.getElem?_cons_succ, List.getElem?_cons_zero, Option.some.injEq] at ho
          subst ho
          go_simp
          refine SG2.out.mono ?_
          rintro e wi ⟨rfl, hx⟩
          have hyc := hyc.trans hx
          refine hK.out _ _ (fun _ => HSE.out _ hyc) ?_
          clear HS0
          have HS0 := Lib.hid (HSE.out _ hyc)
          have d100 : decide (s2 > 0) = true := decide_eq_true HDN1.out
          refine AnyT.load 30 100 (.bool true) rfl (by kernel_rfl) (by kernel_rfl) (by kernel_rfl) (by kernel_rfl) (by kernel_rfl) (fun _ _ _ h => h) HS0.out ?_ ?_
          · intro o ho
            simp only [List.getElem?_toArray, List.getElem?_cons_succ, List.getElem?_cons_zero, Option.some.injEq] at ho
            subst ho
            refine ⟨rfl, rfl, fun w' hSw => ?_⟩
            have hs := HSI.out w' hSw
            go_split_ands
            go_simp
          simp only [Act.put, List.setIfInBounds_toArray, List.set_cons_zero, List.set_cons_succ]
          refine AnyT.load 31 101 (.bool true) rfl (by kernel_rfl) (by kernel_rfl) (by kernel_rfl) (by kernel_rfl) (by kernel_rfl) (fun _ _ _ h => h) HS0.out ?_ ?_
          · intro o ho
            simp only [List.getElem?_toArray, List.getElem?_cons_succ, List.getElem?_cons_zero, Option.some.injEq] at ho
            subst ho
            refine ⟨rfl, rfl, fun w' hSw => ?_⟩
            have hs := HSI.out w' hSw
            go_split_ands
            go_simp
          simp only [Act.put, List.setIfInBounds_toArray, List.set_cons_zero, List.set_cons_succ]
          refine AnyT.load 32 102 (.bool true) rfl (by kernel_rfl) (by kernel_rfl) (by kernel_rfl) (by kernel_rfl) (by kernel_rfl) (fun _ _ _ h => h) HS0.out ?_ ?_
          · intro o ho
            simp only [List.getElem?_toArray, List.getElem?_cons_succ, List.getElem?_cons_zero, Option.some.injEq] at ho
            subst ho
            refine ⟨rfl, rfl, fun w' hSw => ?_⟩
            have hs := HSI.out w' hSw
            go_split_ands
            go_simp
          simp only [Act.put, List.setIfInBounds_toArray, List.set_cons_zero, List.set_cons_succ]
          clear d100
          refine AnyT.step 33 (by kernel_rfl) ?_
          intro o ho K hK
          simp only [List.getElem?_toArray, List.getElem?_cons_succ, List.getElem?_cons_zero, Option.some.injEq] at ho
          subst ho
          go_simp
          refine (msane_any _ (HT.out.ext (HX11.out.trans hyc))).mono ?_
          rintro e wh ⟨rfl, hx⟩
          have hyc := hyc.trans hx
          refine hK.out _ _ (fun _ => HSE.out _ hyc) ?_
          clear HS0
          have HS0 := Lib.hid (HSE.out _ hyc)
          refine AnyT.load 34 104 (.bool true) rfl (by kernel_rfl) (by kernel_rfl) (by kernel_rfl) (by kernel_rfl) (by kernel_rfl) (fun _ _ _ h => h) HS0.out ?_ ?_
          · intro o ho
            simp only [List.getElem?_toArray, List.getElem?_cons_succ, List.getElem?_cons_zero, Option.some.injEq] at ho
            subst ho
            refine ⟨rfl, rfl, fun w' hSw => ?_⟩
            have hs := HSI.out w' hSw
            go_split_ands
            go_simp
          simp only [Act.put, List.setIfInBounds_toArray, List.set_cons_zero, List.set_cons_succ]
          refine AnyT.step 35 (by kernel_rfl) ?_
          intro o ho K hK
          simp only [List.getElem?_toArray, List.getElem?_cons_succ, List.getElem?_cons_zero, Option.some.injEq] at ho
          subst ho
          go_simp
          refine hK.out _ _ (fun _ => HS0.out) ?_
          refine AnyT.done (by kernel_rfl) ?_
          go_wp2
          go_ret
          exact ⟨rfl, HX11.out.trans hyc⟩
  · have hd : decide (zs.length ≤ 600) = false := decide_eq_false hl
    rw [hd]
    go_wp2_with fail
    refine (msane_any w HT.out).mono ?_
    rintro e w1 ⟨rfl, hx1⟩
    go_wp2
    go_ret
    exact ⟨rfl, hx1⟩
end Go.Proofs.YtemnoemjmeflbaaGreatDoor
