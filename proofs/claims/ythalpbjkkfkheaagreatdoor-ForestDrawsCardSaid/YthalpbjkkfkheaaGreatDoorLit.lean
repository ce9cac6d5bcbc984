/- Literal texts, numbers and lists in blocks of their own. -/
import Derived.Test.YthalpbjkkfkheaaGreatDoorSame
namespace Go.Proofs.YthalpbjkkfkheaaGreatDoor
open Go.RowKit Go.Lib

theorem ratText_dig {n : Nat} (h : n < 10) : ratText ((n : Int) : Rat) = [UInt8.ofNat (48 + n)] := by
  rw [ratText_z, decZ_nat, dec_small h]
theorem ratText_half : ratText (1 / 2 : Rat) = [49, 47, 50] := by
  have hn : ((1 : Rat) / 2).num = ((1 : Nat) : Int) := by kernel_rfl
  have hd : ((1 : Rat) / 2).den = 2 := by kernel_rfl
  rw [ratText_frac (by rw [hd]; decide), hn, hd, decZ_nat, dec_small (by decide), dec_small (by decide)]
  rfl
theorem Ls.of_blk {α : Type} {t : TypeId} {R : World → List Value → α → Prop} {w : World} {g : Nat} {l : List α} {xs : List Value} (hB : Blk w g t xs) (hc : Ch (R w) xs l) (hl : l.length ≤ 1000) : Ls t R w (.slice (some ⟨g, 0, none⟩) l.length l.length) l :=
  ⟨some ⟨g, 0, none⟩, l.length, xs, rfl, Nat.le_refl _, by unfold maxLen; omega, (fun h => by cases h), hB.sl 0, hc⟩
theorem txt0 : ratText (0 : Rat) = [48] := ratText_dig (n := 0) (by decide)
theorem txt1 : ratText (1 : Rat) = [49] := ratText_dig (n := 1) (by decide)
theorem txt2 : ratText (2 : Rat) = [50] := ratText_dig (n := 2) (by decide)
theorem txt3 : ratText (3 : Rat) = [51] := ratText_dig (n := 3) (by decide)
theorem txt4 : ratText (4 : Rat) = [52] := ratText_dig (n := 4) (by decide)
theorem txt6 : ratText (6 : Rat) = [54] := ratText_dig (n := 6) (by decide)
theorem rl1 {w : World} {g : Nat} {q : Rat} {u : UInt8} (h : Blk w g tRat [.string ⟨#[u]⟩]) (hq : ratText q = [u]) : RL w (.slice (some ⟨g, 0, none⟩) 1 1) [q] :=
  Ls.of_blk (l := [q]) h ⟨[.string ⟨#[u]⟩], [], rfl, by rw [RatR, hq], rfl⟩ (by simp)
theorem rl2 {w : World} {g : Nat} {q r : Rat} {u v : UInt8} (h : Blk w g tRat [.string ⟨#[u]⟩, .string ⟨#[v]⟩]) (hq : ratText q = [u]) (hr : ratText r = [v]) : RL w (.slice (some ⟨g, 0, none⟩) 2 2) [q, r] :=
  Ls.of_blk (l := [q, r]) h ⟨[.string ⟨#[u]⟩], _, rfl, by rw [RatR, hq], [.string ⟨#[v]⟩], [], rfl, by rw [RatR, hr], rfl⟩ (by simp)
theorem smallfit {q : Rat} (h : decide (q.num.natAbs < 100 ∧ q.den < 100) = true) : FitQ 400 q := by
  have h := of_decide_eq_true h
  exact (show FitQ 2 q from h).mono (by decide)
theorem box5 {P : World → Prop} {w : World} {t1 t2 t3 t4 t5 : TypeId} {l1 l2 l3 l4 l5 : List Value} (h : ∀ W, Hid (Ext w W) → Hid (Blk W w.heap.size t1 l1) → Hid (Blk W (w.heap.size + 1) t2 l2) → Hid (Blk W (w.heap.size + 1 + 1) t3 l3) → Hid (Blk W (w.heap.size + 1 + 1 + 1) t4 l4) → Hid (Blk W (w.heap.size + 1 + 1 + 1 + 1) t5 l5) → P W) :
    P (((((w.alloc (.cells l1.toArray t1)).alloc (.cells l2.toArray t2)).alloc (.cells l3.toArray t3)).alloc (.cells l4.toArray t4)).alloc (.cells l5.toArray t5)) := by
  exact h _ ((((((Ext.refl w).alloc _).alloc _).alloc _).alloc _).alloc _) (((((Blk.new w t1 l1).alloc _).alloc _).alloc _).alloc _) ((((Blk.new' (w.alloc _) t2 l2 _ (by simp)).alloc _).alloc _).alloc _) (((Blk.new' ((w.alloc _).alloc _) t3 l3 _ (by simp)).alloc _).alloc _) ((Blk.new' (((w.alloc _).alloc _).alloc _) t4 l4 _ (by simp)).alloc _) (Blk.new' ((((w.alloc _).alloc _).alloc _).alloc _) t5 l5 _ (by simp))
theorem box6 {P : World → Prop} {w : World} {t1 t2 t3 t4 t5 t6 : TypeId} {l1 l2 l3 l4 l5 l6 : List Value} (h : ∀ W, Hid (Ext w W) → Hid (Blk W w.heap.size t1 l1) → Hid (Blk W (w.heap.size + 1) t2 l2) → Hid (Blk W (w.heap.size + 1 + 1) t3 l3) → Hid (Blk W (w.heap.size + 1 + 1 + 1) t4 l4) → Hid (Blk W (w.heap.size + 1 + 1 + 1 + 1) t5 l5) → Hid (Blk W (w.heap.size + 1 + 1 + 1 + 1 + 1) t6 l6) → P W) :
    P ((((((w.alloc (.cells l1.toArray t1)).alloc (.cells l2.toArray t2)).alloc (.cells l3.toArray t3)).alloc (.cells l4.toArray t4)).alloc (.cells l5.toArray t5)).alloc (.cells l6.toArray t6)) :=
  h _ (((((((Ext.refl w).alloc _).alloc _).alloc _).alloc _).alloc _).alloc _) ((((((Blk.new w t1 l1).alloc _).alloc _).alloc _).alloc _).alloc _) (((((Blk.new' (w.alloc _) t2 l2 _ (by simp)).alloc _).alloc _).alloc _).alloc _) ((((Blk.new' ((w.alloc _).alloc _) t3 l3 _ (by simp)).alloc _).alloc _).alloc _) (((Blk.new' (((w.alloc _).alloc _).alloc _) t4 l4 _ (by simp)).alloc _).alloc _) ((Blk.new' ((((w.alloc _).alloc _).alloc _).alloc _) t5 l5 _ (by simp)).alloc _) (Blk.new' (((((w.alloc _).alloc _).alloc _).alloc _).alloc _) t6 l6 _ (by simp))
theorem il2 {w : World} {g : Nat} {a b : Int} (h : Blk w g tInt [.int .i64 a, .int .i64 b]) : IL w (.slice (some ⟨g, 0, none⟩) 2 2) [a, b] :=
  Ls.of_blk (l := [a, b]) h ⟨[.int .i64 a], _, rfl, rfl, [.int .i64 b], [], rfl, rfl, rfl⟩ (by simp)
theorem txt5 : ratText (5 : Rat) = [53] := ratText_dig (n := 5) (by decide)
end Go.Proofs.YthalpbjkkfkheaaGreatDoor
