/- From a walk to a law's row: a call that returns true and leaves all old memory as it was meets the law's specification; how an argument that is a slice of integers is opened. -/
import Derived.Test.YthalpbjkkfkheaaGreatDoorBase
import Derived.ProofKit
import Derived.OpenShut
import Derived.Deep.DeepHandedRow
import Derived.Lib.LaidTab
import Derived.Carry
import Derived.LaidSub
import Derived.MakeChecks
namespace Go.Proofs.YthalpbjkkfkheaaGreatDoor
open Go.ChangeShapes Go.WideShapes Go.ChangeAt Go.RowKit

section
variable {H : Type} {enc : TypeId × Value → H} {P : Program}
theorem trodAll_stays (hl : laidOutB P = true) {W W' : World} (hb : Below W.heap.size W W') {sp : Nat → Bool} : ∀ (ts : List TypeId) (vs : List Value) (ds : List (DataW H)) (ps : List MemPlace),
    (∀ t ∈ ts, P.readableRec t = true ∧ t < P.types.size) → DataW.TrodAll enc P W 0 (fun _ => true) true ts vs ds ps → (∀ x ∈ ps, x.block < W.heap.size) → (∀ p ∈ ps, sp p.block = true) → DataW.TrodAll enc P W' 0 sp true ts vs ds ps := by
  intro ts
  induction ts with
  | nil =>
    intro vs ds ps _ h _ _
    obtain ⟨rfl, rfl, rfl⟩ := trodAll_nil h
    exact trodAll_mk0
  | cons t ts ih =>
    intro vs ds ps ht h hlt hsp
    obtain ⟨v, vs', d, ds', p, q, rfl, rfl, rfl, h1, h2⟩ := trodAll_cons h
    have ht1 := ht t (by simp)
    refine trodAll_cons_mk (WideElems.Trod_stays hl ht1.1 ht1.2 h1 (fun x hx => hb.same (hlt x (by simp [hx]))) (fun x hx => hsp x (by simp [hx]))) ?_
    exact ih vs' ds' q (fun t' h' => ht t' (by simp [h'])) h2 (fun x hx => hlt x (by simp [hx])) (fun x hx => hsp x (by simp [hx]))

theorem post_true (hl : laidOutB P = true) {f : Func} {s : ChangeSpec} (hs : s.vars = []) {tb : TypeId} (htb : P.underlying tb = some .bool) (hr : f.resultTypes = #[tb])
    (hp : ∀ t ∈ f.params.toList, P.readableRec t = true ∧ t < P.types.size) {W W' : World} {args : Array Value} {ds gs : List (DataW H)} {before : List MemPlace}
    (hW : DataW.Whole enc P f.params.toList s.vars false W args.toList ds gs before)
    (hfn : s.fn H (ds ++ gs) = { results := [.lit (.bool true)], args := ds }) (hok : (f.resultTypes.size = 1) → ∀ (j : Nat) (t : TypeId) (r : Value), f.resultTypes[j]? = some t → ((Value.bool true).resultList f.resultTypes.size)[j]? = some r → Value.okWide P W' .any 0 t r) (hb : Below W.heap.size W W') : s.post enc P f false true false false W args (.bool true) W' := by
  have hlt : ∀ p ∈ before, p.block < W.heap.size := fun p hp => hW.lt p hp
  have hW' := hW
  obtain ⟨p, q, hA, hV, rfl, hz, hn⟩ := hW
  rw [hs] at hV
  obtain ⟨rfl, rfl⟩ := trodVars_none hV
  have hargs : ∀ sp : Nat → Bool, (∀ x ∈ p ++ [], sp x.block = true) → DataW.TrodAll enc P W' 0 sp true f.params.toList args.toList (s.fn H (ds ++ [])).args p := by
    intro sp hsp
    rw [hfn]
    exact trodAll_stays hl hb _ _ _ _ hp hA (fun x hx => hlt x (by simp [hx])) (fun x hx => hsp x (by simp [hx]))
  have hres : ∀ (b : Nat) (sp : Nat → Bool) (hd : Bool), DataW.TrodAll enc P W' b sp hd f.resultTypes.toList ((Value.bool true).resultList f.resultTypes.size) (s.fn H (ds ++ [])).results [] := by
    intro b sp hd
    rw [hfn, hr]
    exact trodAll_cons_mk (shut_bool htb true) trodAll_mk0
  have hvars : ∀ sp : Nat → Bool, DataW.TrodVars enc P W' sp s.vars (s.fn H (ds ++ [])).vars [] := by
    intro sp
    rw [hfn, hs]
    rfl
  have hold : ∀ x ∈ p ++ [], (fun b => decide (b < W.heap.size)) x.block = true := fun x hx => by simpa using hlt x hx
  refine ⟨ds, [], p ++ [], [], p, [], hW', hres _ _ _, hargs _ hold, hvars _, World.keptBut_mono (fun x hx => ⟨hx, Or.inr ?_⟩) (hb.frame (· ∈ p ++ [])), fun _ => ?_⟩
  · simpa using hx
  · refine ⟨hok (by rw [hr]; rfl), _, _, ([] ++ p) ++ [], ⟨[] ++ p, [], trodAll_append (hargs _ (fun _ _ => rfl)) (hres _ _ _), hvars _, rfl, ?_, ?_⟩, ?_⟩
    · intro b off hx
      have hin : MemPlace.cell b off ∈ p ++ [] := by simpa using hx
      rw [hb.frozen (hlt _ hin)]
      exact hz b off hin
    · intro ha; cases ha
    · intro x hx _
      simpa using hx

theorem u8_of_wf (n : Int) (hn : (Lit.int .u8 n).wf = true) : ∃ y : UInt8, n = (y.toNat : Int) := by
  have hn' : 0 ≤ n ∧ n ≤ 255 := by
    rw [Lit.wf, Bool.and_eq_true] at hn
    exact ⟨of_decide_eq_true hn.1, of_decide_eq_true hn.2⟩
  refine ⟨UInt8.ofNat n.toNat, ?_⟩
  simp only [UInt8.toNat_ofNat']
  have h2 : n.toNat % 2 ^ 8 = n.toNat := Nat.mod_eq_of_lt (by omega)
  rw [h2]
  omega
theorem bytes_of_wf (l : List Int) (h : ∀ n ∈ l, (Lit.int .u8 n).wf = true) : ∃ b : List UInt8, l = b.map fun y => (y.toNat : Int) := by
  induction l with
  | nil => exact ⟨[], rfl⟩
  | cons x l ih =>
    obtain ⟨b, rfl⟩ := ih (fun n hn => h n (List.mem_cons_of_mem _ hn))
    obtain ⟨y, rfl⟩ := u8_of_wf x (h _ (by simp))
    exact ⟨y :: b, rfl⟩
theorem tab_of_laid {W : World} {laid : List (String × DataW Unit)} {zs : List Int} {k : IntKind} {name : String} {g : Nat} {t e : TypeId} {n : Nat} (hn : (laid.all fun x => x.2.handleName?.isNone) = true) (hf : laid.filter (fun x => x.1 == name) = [(name, Lib.tabData k zs)])
    (hg : P.globalNamed name = some g) (hty : (P.globals[g]?).map (·.type) = some t) (ht : P.underlying t = some (.array n e)) (he : P.underlying e = some (.int k)) (hce : P.cellsOf e = 1) (hct : P.cellsOf t = n)
    (h : laidMetH P laid W) : Lib.TabIs P W name k zs := by
  rw [MakeChecks.laidMetH_plain _ _ _ hn] at h
  have h2 := h.filter (fun x => x.1 == name)
  rw [hf] at h2
  exact Lib.tabIs_of_head hg hty ht he hce hct h2

/-- a slice of integers that came in: its value and its reading -/
theorem open_nums {w : World} {r : Reach} {b0 : Nat} {t e : TypeId} {k : IntKind} {v : Value} {d : DataW H} {ps : List MemPlace} (ht : P.underlying t = some (.slice e)) (he : P.underlying e = some (.int k)) (hc : P.cellsOf e = 1)
    (hv : Value.okWide P w r b0 t v) (h : DataW.Trod enc P w 0 (fun _ => true) true t v d ps) :
    ∃ (A : Option Addr) (zs : List Int) (c : Nat), v = .slice A zs.length c ∧ (A = none → c = 0) ∧ zs.length ≤ c ∧ c ≤ maxLen ∧ (∀ n ∈ zs, (Lit.int k n).wf = true) ∧ (∀ j (hj : j < zs.length), ∃ ad, A = some ad ∧ w.cell? (ad.add j) = some (.int k zs[j])) := by
  obtain ⟨fuel, hf⟩ := h
  have hcells : v.cells.toList = [v] := by
    obtain ⟨x, y, z, rfl⟩ := okWide_slice ht hv
    rfl
  rcases open_ints ht he hc hf with ⟨h0, _⟩ | ⟨a, len, cap, zs, h0, _, hl, hm, hz, _, hcell, hwf⟩
  · rw [hcells] at h0
    injection h0 with h0
    exact ⟨none, [], 0, h0, fun _ => rfl, by simp, by unfold maxLen; omega, by simp, by simp⟩
  · rw [hcells] at h0
    injection h0 with h0
    have hlz : len ≤ zs.length := by rw [hz]; simp; exact hl
    refine ⟨some a, zs.take len, cap, by rw [h0, List.length_take, Nat.min_eq_left hlz], (fun h => by cases h), by rw [List.length_take, Nat.min_eq_left hlz]; exact hl, hm, fun n hn => hwf n (List.mem_of_mem_take hn), fun j hj => ?_⟩
    rw [List.length_take, Nat.min_eq_left hlz] at hj
    refine ⟨a, rfl, ?_⟩
    rw [hcell j (by omega), List.getElem_take]
    simp [List.getD_eq_getElem?_getD, List.getElem?_eq_getElem (show j < zs.length by omega)]
end
end Go.Proofs.YthalpbjkkfkheaaGreatDoor
