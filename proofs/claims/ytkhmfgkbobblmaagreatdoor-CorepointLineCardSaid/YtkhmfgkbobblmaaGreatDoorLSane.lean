/- joinlearnlaw27.sane. -/
import Derived.Test.YtkhmfgkbobblmaaGreatDoorLineW
import Derived.Test.YtkhmfgkbobblmaaGreatDoorMasses
namespace Go.Proofs.YtkhmfgkbobblmaaGreatDoor
open Go.RowKit Go.Lib

def saneL : List Ms := [(0, 1), (1, 1), (10, 1)]
theorem lsane_cen : lcen saneL 2 = [1 / 2, 10] := by decide +kernel
theorem lsane_cost : lcost saneL 2 = 1 / 2 := by decide +kernel
theorem lsane_ok : MsOk saneL := ⟨by decide, fun x hx => by
  simp only [saneL, List.mem_cons, List.not_mem_nil, or_false] at hx
  rcases hx with rfl | rfl | rfl
  · exact ⟨0, 2, by decide +kernel, by decide +kernel, by decide, by decide, by decide⟩
  · exact ⟨12, 2, by decide +kernel, by decide +kernel, by decide, by decide, by decide⟩
  · exact ⟨120, 2, by decide +kernel, by decide +kernel, by decide, by decide, by decide⟩⟩
theorem lsane_asc : Asc saneL := by
  unfold Asc saneL
  refine List.Pairwise.cons (fun x hx => ?_) (List.Pairwise.cons (fun x hx => ?_) (List.pairwise_singleton _ _))
  · simp only [List.mem_cons, List.not_mem_nil, or_false] at hx
    rcases hx with rfl | rfl <;> decide +kernel
  · simp only [List.mem_cons, List.not_mem_nil, or_false] at hx
    rcases hx with rfl; decide +kernel
set_option maxRecDepth 100000 in
set_option maxHeartbeats 1000000 in
theorem lsane_any (w : World) (ht : Tab w) : Calls Tryz.prog 8 #[] w fun e w' => e = .returned (.bool true) ∧ Ext w w' := by
  have HT := Lib.hid ht
  clear ht
  have L1 := Lib.hid (fun v w' h ht => line_any v saneL 2 w' h lsane_ok lsane_asc (by simp [saneL]) (by decide) (by decide) ht)
  rw [lsane_cen, lsane_cost, ratText_half, show ([1 / 2, 10] : List Rat).length = 2 from rfl] at L1
  have SM := Lib.hid (fun va vb w' h1 h2 => (same_any va vb [1 / 2, 10] [1 / 2, 10] w' h1 h2).mono fun e w'' h => (⟨h.1.trans (by rw [decide_eq_true rfl]), h.2⟩ : e = .returned (.bool true) ∧ ∃ n, w'' = w'.drewN n))
  go_enter Tryz.func8, Tryz.ntmps8
  go_wp2_with fail
  refine box1 (P := fun W => Calls _ _ _ W _) fun W HX B => ?_
  have HML : ML W (.slice (some ⟨w.heap.size, 0, none⟩) 3 3) saneL := Ls.of_blk (l := saneL) B.out ⟨[.string ⟨#[48]⟩, .string ⟨#[49]⟩], _, rfl, by rw [MaR, txt0, txt1], [.string ⟨#[49]⟩, .string ⟨#[49]⟩], _, rfl, by rw [MaR, txt1], [.string ⟨#[49, 48]⟩, .string ⟨#[49]⟩], [], rfl, by rw [MaR, txt10, txt1], rfl⟩ (by simp [saneL])
  refine (L1.out _ W HML (HT.out.ext HX.out)).mono ?_
  rintro e w2 ⟨A, c, rfl, hrl, hx2⟩
  have HX2 := Lib.hid (HX.out.trans hx2)
  have HRL := Lib.hid hrl
  clear HML hrl hx2 B HX
  go_wp2_with fail
  refine box1 (P := fun W => Calls _ _ _ W _) fun W HX B => ?_
  refine (SM.out _ _ W (RL.ext HRL.out HX.out) (Ls.of_blk (l := [1 / 2, 10]) B.out ⟨[.string ⟨#[49, 47, 50]⟩], _, rfl, by rw [RatR, ratText_half], [.string ⟨#[49, 48]⟩], [], rfl, by rw [RatR, txt10], rfl⟩ (by simp))).mono ?_
  rintro e w3 ⟨rfl, m, rfl⟩
  go_wp2
  go_ret
  exact ⟨rfl, (HX2.out.trans HX.out).drewN m⟩
end Go.Proofs.YtkhmfgkbobblmaaGreatDoor
