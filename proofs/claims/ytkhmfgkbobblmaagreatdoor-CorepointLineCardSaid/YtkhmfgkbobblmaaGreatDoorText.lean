/- rational.Sign, slices.Clone, fraction.Texts, cluster.lists, cluster.texts. -/
import Derived.Test.YtkhmfgkbobblmaaGreatDoorNear
namespace Go.Proofs.YtkhmfgkbobblmaaGreatDoor
open Go.RowKit Go.Lib

theorem Ch.all {α : Type} {R : List Value → α → Prop} {P : Value → Prop} (h : ∀ c x, R c x → ∀ u ∈ c, P u) : ∀ {xs : List Value} {l : List α}, Ch R xs l → ∀ u ∈ xs, P u
  | _, [], hx => by rw [show _ = [] from hx]; simp
  | _, _ :: _, ⟨c, r, e, h1, h2⟩ => by
    subst e
    intro u hu
    rcases List.mem_append.1 hu with hu | hu
    · exact h _ _ h1 u hu
    · exact Ch.all h h2 u hu
theorem own_apart {w : World} {b1 b2 k1 k2 n m : Nat} {e1 e2 : TypeId} {v u : Value} {xs ys : List Value} (h : w.ownsRow b1 e1 k1 v n xs) (h' : w.ownsRow b2 e2 k2 u m ys) (hne : e1 ≠ e2) (g : Nat) (hg : v.ownBlock = some g) : u.ownBlock ≠ some g := by
  intro hu
  rcases h.2 with ⟨rfl, _⟩ | ⟨g1, cap, cur, rfl, _, hh, _⟩
  · cases hg
  · rcases h'.2 with ⟨rfl, _⟩ | ⟨g2, cap', cur', rfl, _, hh', _⟩
    · cases hu
    · have e1 : g1 = g := by simpa [Value.ownBlock] using hg
      have e2 : g2 = g := by simpa [Value.ownBlock] using hu
      subst e1 e2
      rw [hh] at hh'
      injection hh' with hh'
      injection hh' with _ ht
      exact hne ht
/-- an empty row that was just laid -/
theorem own_empty (w : World) (e : TypeId) (size : Nat) : (w.alloc (.cells #[] e)).ownsRow w.heap.size e size (.slice (some ⟨w.heap.size, 0, none⟩) 0 0) 0 [] :=
  ⟨by simp, .inr ⟨w.heap.size, 0, #[], rfl, Nat.le_refl _, heap_alloc_new w _, Nat.le_refl _, by unfold maxLen; omega, by simp, by simp⟩⟩
set_option maxRecDepth 100000 in
set_option maxHeartbeats 4000000 in
theorem rsign_any (q : Rat) (w : World) (hf : FitQ 400 q) :
    Calls Tryz.prog 61 #[.string ⟨(ratText q).toArray⟩] w fun e w' => e = .returned (.int .i64 q.num.sign) ∧ Ext w w' := by
  have V := Lib.hid (fun w => rvalid_any q w hf)
  have R := Lib.hid (fun w => fread_any q w (e := 399) hf (by decide))
  have G := Lib.hid (fun v w h => fsign_any v q w h hf (by decide))
  generalize ratText q = t at *
  go_enter Tryz.func61, Tryz.ntmps61
  go_wp2_with fail
  refine (V.out w).mono ?_
  rintro e w1 ⟨rfl, hx1⟩
  go_wp2_with fail
  refine (R.out w1).mono ?_
  rintro e w2 ⟨v, rfl, hv, hx2⟩
  go_wp2_with fail
  refine (G.out v w2 hv).mono ?_
  rintro e w3 ⟨rfl, hx3⟩
  go_wp2
  go_ret
  exact ⟨rfl, hx1.trans (hx2.trans hx3)⟩
set_option maxRecDepth 100000 in
set_option maxHeartbeats 4000000 in
theorem ftexts_any (v : Value) (l : List Rat) (w : World) (h : FL w v l) (hf : ∀ q ∈ l, FitQ 400 q) (hn : l.length ≤ 1000) (ht : Tab w) :
    Calls Tryz.prog 42 #[v] w fun e w' => ∃ A c, e = .returned (.tuple #[.slice A l.length c, .int .i64 0]) ∧ RL w' (.slice A l.length c) l ∧ Ext w w' := by
  obtain ⟨A, c, rfl, hlc, hcm, HL⟩ := h.parts
  have HF := Lib.hid hf
  have HT := Lib.hid ht
  have hcm : c ≤ 9223372036854775807 := by unfold maxLen at hcm; omega
  clear hf h ht
  go_enter Tryz.func42, Tryz.ntmps42
  go_wp2_with fail
  go_loopw [4, 6, 7, 8, 11] (fun v4 _ _ _ v11 wr => ∃ k : Nat, k ≤ l.length ∧ v11 = .int .i64 k ∧ Hid (OwnL tRat 1 RatR w.heap.size wr v4 (l.take k)) ∧ Hid (Ext w wr)) (fun _ _ _ _ v11 _ => l.length - (RowKit.intOf v11).toNat)
  case atStart => exact ⟨0, Nat.zero_le _, rfl, OwnL.nil, Ext.refl w⟩
  case round =>
    obtain ⟨k, hk, rfl, HO, HX⟩ := hrel
    have hlk : (l.take k).length = k := by rw [List.length_take, Nat.min_eq_left hk]
    by_cases hkl : k < l.length
    · obtain ⟨g1, o1, x0, X0, x1, x2, y0, Y0, y1, y2, rfl, _, HVA, p0, p1, p2, p3⟩ := FL.get (FL.ext HL.out HX.out) hkl
      have HNX := Lib.hid (List.take_succ_eq_append_getElem hkl)
      have FI := Lib.hid (fun (v : Value) (w : World) (h : FracV w v l[k]) (ht : Tab w) => ffits_any v l[k] w h (HF.out _ (List.getElem_mem hkl)) ht)
      obtain ⟨A4, c4, xs, rfl, _, _, HR, HC⟩ := HO.out.parts
      rw [hlk] at HR ⊢
      generalize hq : l[k] = q at *
      clear hq
      obtain ⟨tq, htq⟩ : ∃ tq, ratText q = tq := ⟨_, rfl⟩
      rw [htq] at FI
      have HTQ := Lib.hid htq
      clear htq
      go_upto_region 5 with fail
      refine newbox (P := fun W => Code.wp _ _ _ _ W) HVA.out fun W1 HX1 BX hsz => ?_
      obtain ⟨z0, Z0, z1, z2, t0, T0, t1, t2, BD, VD⟩ := BX.out.parts
      obtain ⟨j0, j1, j2, j3⟩ := BD.out.four
      clear p0 p1 p2 p3
      go_wp2_with fail
      refine (FI.out _ _ VD.out (HT.out.ext (HX.out.trans HX1.out))).mono ?_
      rintro e w2 ⟨rfl, hx2⟩
      have HO2 := Lib.hid (own_grown HR.out (grown_ext (HX1.out.trans hx2)) (fun k hk => by cases hk))
      have HX2 := Lib.hid (HX.out.trans (HX1.out.trans hx2))
      have hw2 := HX2.out.size
      have hbt : (k + 1) * 16 ≤ 140737488355328 := by omega
      clear hx2 j0 j1 j2 j3
      go_wp2_with (at_builtin; refine wpList_app1 rfl _ _ tRats rfl w.heap.size rat_slice _ _ _ rfl HO2.out #[.string ⟨tq.toArray⟩] 1 1 rfl rfl rfl hbt hw2 ?_)
      intro v' w3 ho3 hg3 _
      have HX3 := Lib.hid (HX2.out.grownO HO2.out hg3)
      have O3 : Hid (OwnL tRat 1 RatR w.heap.size w3 v' (l.take k ++ [q])) := OwnL.snoc (R := RatR) (w := w2) (x := q) RatR.stab (fun u hu => by cases hu) (by rw [hlk]; exact HO2.out) HC.out (by rw [RatR, HTQ.out]) (by rw [hlk]; exact ho3) hg3
      clear ho3 hg3
      go_wp2
      go_roundw
      case rel => exact ⟨k + 1, by omega, by go_num, by rw [HNX.out]; exact O3, HX3⟩
      case measure => simp [RowKit.intOf]; omega
    · obtain rfl : k = l.length := by omega
      rw [List.take_of_length_le (Nat.le_refl _)] at HO
      obtain ⟨A4, c4, xs, rfl, _, _, HR, HC⟩ := HO.out.parts
      go_wp2
      go_ret2
      exact ⟨A4, c4, rfl, HO.out.ls, HX.out⟩
end Go.Proofs.YtkhmfgkbobblmaaGreatDoor
