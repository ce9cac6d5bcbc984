/- Rows that a walk builds: owned lists of elements; lists of lists, points. -/
import Derived.Test.YtlfcicfebhjchaaGreatDoorLst
namespace Go.Proofs.YtlfcicfebhjchaaGreatDoor
open Go.RowKit Go.Lib

theorem own_grown {w w' : World} {base k n : Nat} {t : TypeId} {v : Value} {xs : List Value} {row : Option Nat} (h : w.ownsRow base t k v n xs) (hg : w.grownBy w' row) (hr : ∀ k, row = some k → v.ownBlock ≠ some k) : w'.ownsRow base t k v n xs := by
  refine World.ownsRow.kept h hg ?_
  cases row with
  | none => cases v.ownBlock <;> simp
  | some k => exact .inr (hr k rfl)
theorem grown_ext {w w' : World} (hx : Ext w w') : w.grownBy w' none := ⟨hx.os, hx.tape, hx.output, hx.size, fun k hk _ => hx.block k hk⟩
theorem ext_grown {w w' : World} (hx : w.grownBy w' none) : Ext w w' := ⟨hx.os, hx.tape, hx.output, hx.size, fun k hk => hx.block k hk (by simp)⟩
/-- an owned row of elements -/
def OwnL {α : Type} (t : TypeId) (k : Nat) (R : World → List Value → α → Prop) (base : Nat) (w : World) (v : Value) (l : List α) : Prop := ∃ xs, w.ownsRow base t k v l.length xs ∧ Ch (R w) xs l
section
variable {α : Type} {t : TypeId} {k base : Nat} {R : World → List Value → α → Prop} {T : List TypeId} {w w' : World} {v v' : Value} {l : List α}
theorem OwnL.nil : OwnL t k R base w (.slice none 0 0) ([] : List α) := ⟨[], World.ownsRow_nil _ _ _ _, rfl⟩
theorem OwnL.grown (hR : Stab T R) (h : OwnL t k R base w v l) {row : Option Nat} (hg : w.grownBy w' row) (hr : ∀ k, row = some k → v.ownBlock ≠ some k) (hk : ∀ u ∈ T, Kept u w w') : OwnL t k R base w' v l := by
  obtain ⟨xs, h1, h2⟩ := h
  exact ⟨xs, own_grown h1 hg hr, h2.mono fun c x hc => hR _ _ _ _ hk hc⟩
theorem OwnL.ext (hR : Stab T R) (h : OwnL t k R base w v l) (hx : Ext w w') : OwnL t k R base w' v l :=
  h.grown hR (grown_ext hx) (fun k hk => by cases hk) (fun _ _ => .of_below hx)
theorem OwnL.only (hR : Stab T R) (h : OwnL t k R base w v l) {g : Nat} (hg : Only g w w') (hl : g < base) (hk : ∀ u ∈ T, Kept u w w') : OwnL t k R base w' v l :=
  h.grown hR hg (fun k hk he => by
    injection hk with hk
    obtain ⟨xs, h1, _⟩ := h
    have := (h1.lt k he).1
    omega) hk
theorem OwnL.snoc (hR : Stab T R) (hT : ∀ u ∈ T, t ≠ u) {xs cs : List Value} {x : α} (hown : w.ownsRow base t k v l.length xs) (hc : Ch (R w) xs l) (hx : R w cs x)
    (ho : w'.ownsRow base t k v' (l.length + 1) (xs ++ cs)) (hg : w.grownBy w' v.ownBlock) : OwnL t k R base w' v' (l ++ [x]) := by
  have hk : ∀ u ∈ T, Kept u w w' := fun u hu => Kept.grown hown hg (hT u hu)
  refine ⟨xs ++ cs, by rw [List.length_append]; exact ho, ?_⟩
  exact Ch.snoc (hR _ _ _ _ hk hx) (hc.mono fun c x hc => hR _ _ _ _ hk hc)
theorem OwnL.ls (h : OwnL t k R base w v l) : Ls t R w v l := by
  obtain ⟨xs, h1, h2⟩ := h
  exact Ls.of_own h1 h2
theorem OwnL.parts (h : OwnL t k R base w v l) : ∃ A c xs, v = .slice A l.length c ∧ l.length ≤ c ∧ c ≤ maxLen ∧ Hid (w.ownsRow base t k (.slice A l.length c) l.length xs) ∧ Hid (Ch (R w) xs l) := by
  obtain ⟨xs, h1, h2⟩ := h
  obtain ⟨A, c, rfl, h3, h4, _⟩ := own_parts h1
  exact ⟨A, c, xs, rfl, h3, h4, h1, h2⟩
theorem OwnL.of {xs : List Value} {A : Option Addr} {c : Nat} (h1 : w.ownsRow base t k (.slice A l.length c) l.length xs) (h2 : Ch (R w) xs l) : OwnL t k R base w (.slice A l.length c) l := ⟨xs, h1, h2⟩
end
/-- what is new is owned -/
theorem Ext.grownO {a w w' : World} {t : TypeId} {k n : Nat} {v : Value} {xs : List Value} (h : Ext a w) (hown : w.ownsRow a.heap.size t k v n xs) (hg : w.grownBy w' v.ownBlock) : Ext a w' :=
  Below.grown h hg h.size (fun k hk => (hown.lt k hk).1)
/-- a row that is owned from base on grows: what lay below base stands -/
theorem grown_below {a w w' : World} {base : Nat} {t : TypeId} {k n : Nat} {v : Value} {xs : List Value} (h : Ext a w) (hown : w.ownsRow base t k v n xs) (hg : w.grownBy w' v.ownBlock) (hb : a.heap.size ≤ base) : Ext a w' :=
  Below.grown h hg h.size (fun k hk => by have := (hown.lt k hk).1; omega)
theorem Src.kept {w w' : World} {g : Nat} {t : TypeId} (hs : SrcAt w g) (ho : Only g w w') (ht : tSrc ≠ t) : Kept t w w' := by
  intro g' cur fr hc
  refine (ho.block g' (lt_of_some hc) ?_).trans hc
  intro he
  injection he with he
  subst he
  obtain ⟨t, A, zs, c, k, _, _, h3, _⟩ := hs
  unfold Blk at h3
  rw [h3] at hc
  injection hc with hc
  injection hc with _ h
  exact ht h
/-- a cell that is a list -/
def OneR {α : Type} (t : TypeId) (R : World → List Value → α → Prop) (w : World) (c : List Value) (l : List α) : Prop := ∃ A cp, c = [.slice A l.length cp] ∧ Ls t R w (.slice A l.length cp) l
theorem OneR.stab {α : Type} {t : TypeId} {T : List TypeId} {R : World → List Value → α → Prop} (hR : Stab T R) : Stab (t :: T) (OneR t R) := fun _ _ _ _ hk ⟨A, cp, h1, h2⟩ => ⟨A, cp, h1, h2.keep hR hk⟩
theorem OneR.one {α : Type} {t : TypeId} {R : World → List Value → α → Prop} (w : World) (c : List Value) (l : List α) (h : OneR t R w c l) : c.length = 1 := by obtain ⟨_, _, rfl, _⟩ := h; rfl
theorem OneR.get {α : Type} {t u : TypeId} {R : World → List Value → α → Prop} {w : World} {A : Option Addr} {n c : Nat} {l : List (List α)} (h : Ls u (OneR t R) w (.slice A n c) l) {i : Nat} (hi : i < l.length) :
    ∃ g o A1 c1, A = some ⟨g, o, none⟩ ∧ g < w.heap.size ∧ Hid (Ls t R w (.slice A1 l[i].length c1) l[i]) ∧ w.cell? ⟨g, o + i, none⟩ = some (.slice A1 l[i].length c1) := by
  obtain ⟨g, o, d, h1, h2, ⟨A1, c1, rfl, h3⟩, h4⟩ := Ls.get OneR.one (by decide) h hi
  have h5 := h4 0 _ rfl
  rw [Nat.mul_one, Nat.add_zero] at h5
  exact ⟨g, o, A1, c1, h1, h2, h3, h5⟩
abbrev tRats : TypeId := 34
abbrev tFracs : TypeId := 79
abbrev PR := OneR tRat RatR
abbrev GR := OneR tFrac FrR
abbrev PL := Ls tRats PR
abbrev GL := Ls tFracs GR
theorem PR.stab : Stab [tRat] PR := OneR.stab RatR.stab
theorem GR.stab : Stab [tFrac, tU64] GR := OneR.stab FrR.stab
theorem PL.ext {w w' : World} {v : Value} {l : List (List Rat)} (h : PL w v l) (hx : Ext w w') : PL w' v l := Ls.ext PR.stab h hx
theorem GL.ext {w w' : World} {v : Value} {l : List (List Rat)} (h : GL w v l) (hx : Ext w w') : GL w' v l := Ls.ext GR.stab h hx
/-- a place and its weight -/
abbrev Pt := List Rat × Rat
abbrev tCore : TypeId := 36
abbrev tPoint : TypeId := 81
/-- a point as texts -/
def CoR (w : World) (c : List Value) (x : Pt) : Prop := ∃ A cp, c = [.slice A x.1.length cp, .string ⟨(ratText x.2).toArray⟩] ∧ RL w (.slice A x.1.length cp) x.1
theorem CoR.stab : Stab [tRat] CoR := fun _ _ _ _ hk ⟨A, cp, h1, h2⟩ => ⟨A, cp, h1, h2.keep RatR.stab hk⟩
theorem CoR.two (w : World) (c : List Value) (x : Pt) (h : CoR w c x) : c.length = 2 := by obtain ⟨_, _, rfl, _⟩ := h; rfl
abbrev CL := Ls tCore CoR
theorem CL.ext {w w' : World} {v : Value} {l : List Pt} (h : CL w v l) (hx : Ext w w') : CL w' v l := Ls.ext CoR.stab h hx
theorem CL.get {w : World} {A : Option Addr} {n c : Nat} {l : List Pt} (h : CL w (.slice A n c) l) {i : Nat} (hi : i < l.length) :
    ∃ g o A1 c1, A = some ⟨g, o, none⟩ ∧ g < w.heap.size ∧ Hid (RL w (.slice A1 l[i].1.length c1) l[i].1) ∧ w.cell? ⟨g, o + i * 2, none⟩ = some (.slice A1 l[i].1.length c1) ∧ w.cell? ⟨g, o + i * 2 + 1, none⟩ = some (.string ⟨(ratText l[i].2).toArray⟩) := by
  obtain ⟨g, o, d, h1, h2, ⟨A1, c1, rfl, h3⟩, h4⟩ := Ls.get CoR.two (by decide) h hi
  exact ⟨g, o, A1, c1, h1, h2, h3, h4 0 _ rfl, h4 1 _ rfl⟩
/-- a point -/
def PoR (w : World) (c : List Value) (x : Pt) : Prop := ∃ A cp b A1 n1 c1 b' A2 n2 c2, c = [.slice A x.1.length cp, .bool b, .slice A1 n1 c1, .bool b', .slice A2 n2 c2] ∧ FL w (.slice A x.1.length cp) x.1 ∧ FracV w (.agg #[.bool b, .slice A1 n1 c1, .bool b', .slice A2 n2 c2]) x.2
theorem PoR.stab : Stab [tFrac, tU64] PoR := fun _ _ _ _ hk ⟨A, cp, b, A1, n1, c1, b', A2, n2, c2, h1, h2, h3⟩ => ⟨A, cp, b, A1, n1, c1, b', A2, n2, c2, h1, h2.keep FrR.stab hk, h3.keep (hk _ (by simp))⟩
theorem PoR.five (w : World) (c : List Value) (x : Pt) (h : PoR w c x) : c.length = 5 := by obtain ⟨_, _, _, _, _, _, _, _, _, _, rfl, _⟩ := h; rfl
abbrev QL := Ls tPoint PoR
theorem QL.ext {w w' : World} {v : Value} {l : List Pt} (h : QL w v l) (hx : Ext w w') : QL w' v l := Ls.ext PoR.stab h hx
theorem QL.get {w : World} {A : Option Addr} {n c : Nat} {l : List Pt} (h : QL w (.slice A n c) l) {i : Nat} (hi : i < l.length) :
    ∃ g o Ap cp b A1 n1 c1 b' A2 n2 c2, A = some ⟨g, o, none⟩ ∧ g < w.heap.size ∧ Hid (FL w (.slice Ap l[i].1.length cp) l[i].1) ∧ Hid (FracV w (.agg #[.bool b, .slice A1 n1 c1, .bool b', .slice A2 n2 c2]) l[i].2) ∧
    w.cell? ⟨g, o + i * 5, none⟩ = some (.slice Ap l[i].1.length cp) ∧ w.cell? ⟨g, o + i * 5 + 1, none⟩ = some (.bool b) ∧ w.cell? ⟨g, o + i * 5 + 2, none⟩ = some (.slice A1 n1 c1) ∧ w.cell? ⟨g, o + i * 5 + 3, none⟩ = some (.bool b') ∧ w.cell? ⟨g, o + i * 5 + 4, none⟩ = some (.slice A2 n2 c2) := by
  obtain ⟨g, o, d, h1, h2, ⟨Ap, cp, b, A1, n1, c1, b', A2, n2, c2, rfl, h3, h4⟩, h5⟩ := Ls.get PoR.five (by decide) h hi
  exact ⟨g, o, Ap, cp, b, A1, n1, c1, b', A2, n2, c2, h1, h2, h3, h4, h5 0 _ rfl, h5 1 _ rfl, h5 2 _ rfl, h5 3 _ rfl, h5 4 _ rfl⟩
section
variable {a b c : World} {g : Nat}
theorem Only.trans (h : Only g a b) (k : Only g b c) : Only g a c := ⟨k.os.trans h.os, k.tape.trans h.tape, k.output.trans h.output, Nat.le_trans h.size k.size, fun i hi hne => (k.block i (Nat.lt_of_lt_of_le hi h.size) hne).trans (h.block i hi hne)⟩
theorem Only.of_ext (h : Ext a b) : Only g a b := ⟨h.os, h.tape, h.output, h.size, fun i hi _ => h.block i hi⟩
theorem Only.grown {t : TypeId} {k n : Nat} {v : Value} {xs : List Value} (h : Only g a b) (hown : b.ownsRow a.heap.size t k v n xs) (hg : b.grownBy c v.ownBlock) : Only g a c :=
  ⟨hg.os.trans h.os, hg.tape.trans h.tape, hg.output.trans h.output, Nat.le_trans h.size hg.size, fun i hi hne => (hg.block i (Nat.lt_of_lt_of_le hi h.size) (fun e => by have := (hown.lt i e.symm).1; omega)).trans (h.block i hi hne)⟩
end
theorem rat_slice : SliceTy Tryz.prog tRats tRat 1 16 := .mk' (z := .string ⟨#[]⟩) (by kernel_rfl) (by kernel_rfl) rfl (by decide) (by decide)
theorem rats_slice : SliceTy Tryz.prog 30 tRats 1 24 := .mk' (z := .slice none 0 0) (by kernel_rfl) (by kernel_rfl) rfl (by decide) (by decide)
theorem fracs_slice : SliceTy Tryz.prog 69 tFracs 1 24 := .mk' (z := .slice none 0 0) (by kernel_rfl) (by kernel_rfl) rfl (by decide) (by decide)
theorem frac_slice : SliceTy Tryz.prog tFracs tFrac 4 64 := .mk' (z := .agg #[.bool false, .slice none 0 0, .bool false, .slice none 0 0]) (by kernel_rfl) (by kernel_rfl) rfl (by decide) (by decide)
theorem core_slice : SliceTy Tryz.prog 28 tCore 2 40 := .mk' (z := .agg #[.slice none 0 0, .string ⟨#[]⟩]) (by kernel_rfl) (by kernel_rfl) rfl (by decide) (by decide)
theorem point_slice : SliceTy Tryz.prog 68 tPoint 5 88 := .mk' (z := .agg #[.slice none 0 0, .bool false, .slice none 0 0, .bool false, .slice none 0 0]) (by kernel_rfl) (by kernel_rfl) rfl (by decide) (by decide)
end Go.Proofs.YtlfcicfebhjchaaGreatDoor
