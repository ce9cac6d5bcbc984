/- joinlearnlaw28.sane. -/
import Derived.Test.YtlfcicfebhjchaaGreatDoorClaw
namespace Go.Proofs.YtlfcicfebhjchaaGreatDoor
open Go.RowKit Go.Lib

theorem Ls.of_blk {α : Type} {t : TypeId} {R : World → List Value → α → Prop} {w : World} {g : Nat} {l : List α} {xs : List Value} (hB : Blk w g t xs) (hc : Ch (R w) xs l) (hl : l.length ≤ 1000) : Ls t R w (.slice (some ⟨g, 0, none⟩) l.length l.length) l :=
  ⟨some ⟨g, 0, none⟩, l.length, xs, rfl, Nat.le_refl _, by unfold maxLen; omega, (fun h => by cases h), hB.sl 0, hc⟩
def sl : List Pt := [([0], 1), ([4], 3)]
theorem txt0 : ratText (0 : Rat) = [48] := ratText_dig (n := 0) (by decide)
theorem txt1 : ratText (1 : Rat) = [49] := ratText_dig (n := 1) (by decide)
theorem txt2 : ratText (2 : Rat) = [50] := ratText_dig (n := 2) (by decide)
theorem txt3 : ratText (3 : Rat) = [51] := ratText_dig (n := 3) (by decide)
theorem txt4 : ratText (4 : Rat) = [52] := ratText_dig (n := 4) (by decide)
theorem txt6 : ratText (6 : Rat) = [54] := ratText_dig (n := 6) (by decide)
theorem rl1 {w : World} {g : Nat} {q : Rat} {u : UInt8} (h : Blk w g tRat [.string ⟨#[u]⟩]) (hq : ratText q = [u]) : RL w (.slice (some ⟨g, 0, none⟩) 1 1) [q] :=
  Ls.of_blk (l := [q]) h ⟨[.string ⟨#[u]⟩], [], rfl, by rw [RatR, hq], rfl⟩ (by simp)
theorem rl2 {w : World} {g : Nat} {q r : Rat} {u v : UInt8} (h : Blk w g tRat [.string ⟨#[u]⟩, .string ⟨#[v]⟩]) (hq : ratText q = [u]) (hr : ratText r = [v]) : RL w (.slice (some ⟨g, 0, none⟩) 2 2) [q, r] :=
  Ls.of_blk (l := [q, r]) h ⟨[.string ⟨#[u]⟩], _, rfl, by rw [RatR, hq], [.string ⟨#[v]⟩], [], rfl, by rw [RatR, hr], rfl⟩ (by simp)
theorem pl1 {w : World} {g g' : Nat} {q : Rat} (h : Blk w g tRats [.slice (some ⟨g', 0, none⟩) 1 1]) (h' : RL w (.slice (some ⟨g', 0, none⟩) 1 1) [q]) : PL w (.slice (some ⟨g, 0, none⟩) 1 1) [[q]] :=
  Ls.of_blk (l := [[q]]) h ⟨_, [], rfl, ⟨_, _, rfl, h'⟩, rfl⟩ (by simp)
theorem cl2 {w : World} {g g1 g2 : Nat} (h : Blk w g tCore [.slice (some ⟨g1, 0, none⟩) 1 1, .string ⟨#[49]⟩, .slice (some ⟨g2, 0, none⟩) 1 1, .string ⟨#[51]⟩]) (h1 : RL w (.slice (some ⟨g1, 0, none⟩) 1 1) [0]) (h2 : RL w (.slice (some ⟨g2, 0, none⟩) 1 1) [4]) : CL w (.slice (some ⟨g, 0, none⟩) 2 2) sl :=
  Ls.of_blk (l := sl) h ⟨[.slice (some ⟨g1, 0, none⟩) 1 1, .string ⟨#[49]⟩], _, rfl, ⟨_, _, by rw [txt1]; rfl, h1⟩, [.slice (some ⟨g2, 0, none⟩) 1 1, .string ⟨#[51]⟩], [], rfl, ⟨_, _, by rw [txt3]; rfl, h2⟩, rfl⟩ (by decide)
theorem smallfit {q : Rat} (h : decide (q.num.natAbs < 100 ∧ q.den < 100) = true) : FitQ 400 q := by
  have h := of_decide_eq_true h
  exact (show FitQ 2 q from h).mono (by decide)
theorem sane_step : stepF 1 sl [[0]] = [[3]] := of_decide_eq_true (by kernel_rfl)
theorem sane_cost : cost sl [[3]] = 12 := of_decide_eq_true (by kernel_rfl)
theorem sane_dist : dist [1, 2] [4, 6] = 25 := of_decide_eq_true (by kernel_rfl)
theorem sane_good {q : Rat} (hq : FitQ 400 q) : Good 1 sl [[q]] := by
  refine ⟨by decide, by decide, by decide, by simp, ?_, ?_, ?_, ?_, ?_, ?_⟩
  · intro x hx; simp only [sl, List.mem_cons, List.not_mem_nil, or_false] at hx; rcases hx with rfl | rfl <;> rfl
  · intro x hx; simp only [List.mem_cons, List.not_mem_nil, or_false] at hx; subst hx; rfl
  · intro x hx p hp
    simp only [sl, List.mem_cons, List.not_mem_nil, or_false] at hx
    rcases hx with rfl | rfl <;> (simp only [List.mem_cons, List.not_mem_nil, or_false] at hp; subst hp; exact smallfit (by kernel_rfl))
  · intro x hx p hp
    simp only [List.mem_cons, List.not_mem_nil, or_false] at hx
    subst hx
    simp only [List.mem_cons, List.not_mem_nil, or_false] at hp
    subst hp
    exact hq
  · intro x hx; simp only [sl, List.mem_cons, List.not_mem_nil, or_false] at hx; rcases hx with rfl | rfl <;> exact smallfit (by kernel_rfl)
  · intro x hx; simp only [sl, List.mem_cons, List.not_mem_nil, or_false] at hx; rcases hx with rfl | rfl <;> exact of_decide_eq_true (by kernel_rfl)
theorem txt12 : ratText (12 : Rat) = [49, 50] := by
  have h := ratText_z 12
  rw [show ((12 : Int) : Rat) = 12 from rfl] at h
  rw [h, show (12 : Int) = ((12 : Nat) : Int) from rfl, decZ_nat, dec_big (by decide), dec_small (by decide)]
  rfl
theorem txt25 : ratText (25 : Rat) = [50, 53] := by
  have h := ratText_z 25
  rw [show ((25 : Int) : Rat) = 25 from rfl] at h
  rw [h, show (25 : Int) = ((25 : Nat) : Int) from rfl, decZ_nat, dec_big (by decide), dec_small (by decide)]
  rfl
theorem fit01 : FitQ 400 (0 : Rat) ∧ FitQ 400 (3 : Rat) ∧ FitQ 400 (12 : Rat) ∧ FitQ 400 (25 : Rat) := ⟨smallfit (by kernel_rfl), smallfit (by kernel_rfl), smallfit (by kernel_rfl), smallfit (by kernel_rfl)⟩
theorem box5 {P : World → Prop} {w : World} {t1 t2 t3 t4 t5 : TypeId} {l1 l2 l3 l4 l5 : List Value} (h : ∀ W, Hid (Ext w W) → Hid (Blk W w.heap.size t1 l1) → Hid (Blk W (w.heap.size + 1) t2 l2) → Hid (Blk W (w.heap.size + 1 + 1) t3 l3) → Hid (Blk W (w.heap.size + 1 + 1 + 1) t4 l4) → Hid (Blk W (w.heap.size + 1 + 1 + 1 + 1) t5 l5) → P W) :
    P (((((w.alloc (.cells l1.toArray t1)).alloc (.cells l2.toArray t2)).alloc (.cells l3.toArray t3)).alloc (.cells l4.toArray t4)).alloc (.cells l5.toArray t5)) := by
  exact h _ ((((((Ext.refl w).alloc _).alloc _).alloc _).alloc _).alloc _) (((((Blk.new w t1 l1).alloc _).alloc _).alloc _).alloc _) ((((Blk.new' (w.alloc _) t2 l2 _ (by simp)).alloc _).alloc _).alloc _) (((Blk.new' ((w.alloc _).alloc _) t3 l3 _ (by simp)).alloc _).alloc _) ((Blk.new' (((w.alloc _).alloc _).alloc _) t4 l4 _ (by simp)).alloc _) (Blk.new' ((((w.alloc _).alloc _).alloc _).alloc _) t5 l5 _ (by simp))
set_option maxRecDepth 100000 in
set_option maxHeartbeats 4000000 in
theorem csane_any (w : World) (ht : Tab w) : Calls Tryz.prog 9 #[] w fun e w' => e = .returned (.bool true) ∧ Ext w w' := by
  have HT := Lib.hid ht
  clear ht
  have S1 := Lib.hid (fun vl vc w' h1 h2 ht => kstep_any vl vc 1 sl [[0]] w' h1 h2 (sane_good fit01.1) (by decide) (by rw [sane_step]; intro p hp q hq; simp only [List.mem_cons, List.not_mem_nil, or_false] at hp; subst hp; simp only [List.mem_cons, List.not_mem_nil, or_false] at hq; subst hq; exact fit01.2.1) ht)
  rw [sane_step] at S1
  have S2 := Lib.hid (fun vl vc w' h1 h2 ht => cost_any vl vc 1 sl [[3]] w' h1 h2 (sane_good fit01.2.1) (by decide) (by rw [sane_cost]; exact fit01.2.2.1) ht)
  rw [sane_cost, txt12] at S2
  have S3 := Lib.hid (fun va vb w' h1 h2 ht => cdist_any va vb [1, 2] [4, 6] w' h1 h2 rfl (by decide) (fun q hq => by simp only [List.mem_cons, List.not_mem_nil, or_false] at hq; rcases hq with rfl | rfl <;> exact smallfit (by kernel_rfl)) (fun q hq => by simp only [List.mem_cons, List.not_mem_nil, or_false] at hq; rcases hq with rfl | rfl <;> exact smallfit (by kernel_rfl)) (by rw [sane_dist]; exact fit01.2.2.2) ht)
  rw [sane_dist, txt25] at S3
  go_enter Tryz.func9, Tryz.ntmps9
  go_wp2_with fail
  refine box5 (P := fun W => Calls _ _ _ W _) fun W HX B1 B2 B3 B4 B5 => ?_
  have L1 := Lib.hid (cl2 B3.out (rl1 B1.out txt0) (rl1 B2.out txt4))
  refine (S1.out _ _ W L1.out (pl1 B5.out (rl1 B4.out txt0)) (HT.out.ext HX.out)).mono ?_
  rintro e w1 ⟨A1, c1, rfl, hp1, hx1⟩
  have HP1 := Lib.hid hp1
  have HX1 := Lib.hid (HX.out.trans hx1)
  have L2 := Lib.hid (CL.ext L1.out hx1)
  clear hp1 hx1 B1 B2 B3 B4 B5
  go_wp2_with fail
  refine box2 (P := fun W => Calls _ _ _ W _) fun W2 HX2 B1 B2 => ?_
  refine (lists_any _ _ _ _ W2 (PL.ext HP1.out HX2.out) (pl1 B2.out (rl1 B1.out txt3))).mono ?_
  rintro e w2 ⟨rfl, n2, rfl⟩
  have HX3 := Lib.hid (HX1.out.trans (HX2.out.drewN n2))
  have L3 := Lib.hid (CL.ext L2.out (HX2.out.drewN n2))
  have hd : decide (([[3]] : List (List Rat)) = [[3]]) = true := decide_eq_true rfl
  rw [hd]
  clear hd B1 B2
  generalize W2.drewN n2 = w3 at *
  go_wp2_with fail
  refine box2 (P := fun W => Calls _ _ _ W _) fun W4 HX4 B1 B2 => ?_
  refine (S2.out _ _ W4 (CL.ext L3.out HX4.out) (pl1 B2.out (rl1 B1.out txt3)) (HT.out.ext (HX3.out.trans HX4.out))).mono ?_
  rintro e w5 ⟨rfl, hx5⟩
  have HX5 := Lib.hid (HX3.out.trans (HX4.out.trans hx5))
  clear hx5 B1 B2
  go_wp2_with fail
  refine box2 (P := fun W => Calls _ _ _ W _) fun W6 HX6 B1 B2 => ?_
  refine (S3.out _ _ W6 (rl2 B1.out txt1 txt2) (rl2 B2.out txt4 txt6) (HT.out.ext (HX5.out.trans HX6.out))).mono ?_
  rintro e w7 ⟨rfl, hx7⟩
  have HX7 := Lib.hid (HX5.out.trans (HX6.out.trans hx7))
  clear hx7 B1 B2
  go_wp2
  go_ret
  exact ⟨rfl, HX7.out⟩
end Go.Proofs.YtlfcicfebhjchaaGreatDoor
