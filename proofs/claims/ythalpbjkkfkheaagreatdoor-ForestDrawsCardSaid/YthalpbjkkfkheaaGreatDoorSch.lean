/- Schemas in memory, and which are valid; joinlearnmake.letter. -/
import Derived.Test.YthalpbjkkfkheaaGreatDoorGen
import Derived.Test.YthalpbjkkfkheaaGreatDoorMkL
namespace Go.Proofs.YthalpbjkkfkheaaGreatDoor
open Go.RowKit Go.Lib

abbrev tAtt : TypeId := 56
abbrev tRel : TypeId := 58
abbrev tFea : TypeId := 60
abbrev tSch : TypeId := 31
/-- an attribute: its name and kind; a relation: its name and attributes; a feature: its attribute, kind, missing -/
abbrev Att := List UInt8 × Int
abbrev Rl := List UInt8 × List Int
abbrev Fe := Int × Int × Int
structure Sch where
  atts : List Att
  rels : List Rl
  feats : List Fe
  label : Int
def AttR (_ : World) (c : List Value) (x : Att) : Prop := c = [.string ⟨x.1.toArray⟩, .int .i64 x.2]
def RlR (w : World) (c : List Value) (x : Rl) : Prop := ∃ A n d, c = [.string ⟨x.1.toArray⟩, .slice A n d] ∧ IL w (.slice A n d) x.2
def FeR (_ : World) (c : List Value) (x : Fe) : Prop := c = [.int .i64 x.1, .int .i64 x.2.1, .int .i64 x.2.2]
theorem AttR.stab : Stab [] AttR := fun _ _ _ _ _ h => h
theorem FeR.stab : Stab [] FeR := fun _ _ _ _ _ h => h
theorem RlR.stab : Stab [tInt] RlR := fun _ _ _ _ hk ⟨A, n, d, e, h⟩ => ⟨A, n, d, e, Ls.keep IntR.stab h hk⟩
theorem AttR.two (w : World) (c : List Value) (x : Att) (h : AttR w c x) : c.length = 2 := by rw [h]; rfl
theorem RlR.two (w : World) (c : List Value) (x : Rl) (h : RlR w c x) : c.length = 2 := by obtain ⟨_, _, _, rfl, _⟩ := h; rfl
theorem FeR.three (w : World) (c : List Value) (x : Fe) (h : FeR w c x) : c.length = 3 := by rw [h]; rfl
abbrev AL := Ls tAtt AttR
abbrev RlL := Ls tRel RlR
abbrev FeL := Ls tFea FeR
/-- v is the schema x -/
def SchV (w : World) (v : Value) (x : Sch) : Prop := ∃ A c B d D e, v = .agg #[.slice A x.atts.length c, .slice B x.rels.length d, .slice D x.feats.length e, .int .i64 x.label] ∧ AL w (.slice A x.atts.length c) x.atts ∧ RlL w (.slice B x.rels.length d) x.rels ∧ FeL w (.slice D x.feats.length e) x.feats
theorem SchV.ext {w w' : World} {v : Value} {x : Sch} (h : SchV w v x) (hx : Ext w w') : SchV w' v x := by
  obtain ⟨A, c, B, d, D, e, h1, h2, h3, h4⟩ := h
  exact ⟨A, c, B, d, D, e, h1, h2.ext AttR.stab hx, h3.ext RlR.stab hx, h4.ext FeR.stab hx⟩
theorem SchV.kept {w w' : World} {v : Value} {x : Sch} (h : SchV w v x) {s : TypeId} (hk : ∀ u, s ≠ u → Kept u w w') (h1 : s ≠ tAtt) (h2 : s ≠ tRel) (h3 : s ≠ tFea) (h4 : s ≠ tInt) : SchV w' v x := by
  obtain ⟨A, c, B, d, D, e, e1, e2, e3, e4⟩ := h
  exact ⟨A, c, B, d, D, e, e1, e2.kept AttR.stab hk ⟨h1, fun u hu => by cases hu⟩, e3.kept RlR.stab hk ⟨h2, fun u hu => by rw [List.mem_singleton.1 hu]; exact h4⟩, e4.kept FeR.stab hk ⟨h3, fun u hu => by cases hu⟩⟩
theorem AL.get {w : World} {A : Option Addr} {n c : Nat} {l : List Att} (h : AL w (.slice A n c) l) {i : Nat} (hi : i < l.length) :
    ∃ g o, A = some ⟨g, o, none⟩ ∧ g < w.heap.size ∧ w.cell? ⟨g, o + i * 2, none⟩ = some (.string ⟨l[i].1.toArray⟩) ∧ w.cell? ⟨g, o + i * 2 + 1, none⟩ = some (.int .i64 l[i].2) := by
  obtain ⟨g, o, d, h1, h2, h3, h4⟩ := Ls.get AttR.two (by decide) h hi
  rw [show d = _ from h3] at h4
  exact ⟨g, o, h1, h2, h4 0 _ rfl, h4 1 _ rfl⟩
theorem RlL.get {w : World} {A : Option Addr} {n c : Nat} {l : List Rl} (h : RlL w (.slice A n c) l) {i : Nat} (hi : i < l.length) :
    ∃ g o B m d, A = some ⟨g, o, none⟩ ∧ g < w.heap.size ∧ w.cell? ⟨g, o + i * 2, none⟩ = some (.string ⟨l[i].1.toArray⟩) ∧ w.cell? ⟨g, o + i * 2 + 1, none⟩ = some (.slice B m d) ∧ IL w (.slice B m d) l[i].2 := by
  obtain ⟨g, o, d, h1, h2, ⟨B, m, d', rfl, h3⟩, h4⟩ := Ls.get RlR.two (by decide) h hi
  exact ⟨g, o, B, m, d', h1, h2, h4 0 _ rfl, h4 1 _ rfl, h3⟩
theorem FeL.get {w : World} {A : Option Addr} {n c : Nat} {l : List Fe} (h : FeL w (.slice A n c) l) {i : Nat} (hi : i < l.length) :
    ∃ g o, A = some ⟨g, o, none⟩ ∧ g < w.heap.size ∧ w.cell? ⟨g, o + i * 3, none⟩ = some (.int .i64 l[i].1) ∧ w.cell? ⟨g, o + i * 3 + 1, none⟩ = some (.int .i64 l[i].2.1) ∧ w.cell? ⟨g, o + i * 3 + 2, none⟩ = some (.int .i64 l[i].2.2) := by
  obtain ⟨g, o, d, h1, h2, h3, h4⟩ := Ls.get FeR.three (by decide) h hi
  rw [show d = _ from h3] at h4
  exact ⟨g, o, h1, h2, h4 0 _ rfl, h4 1 _ rfl, h4 2 _ rfl⟩
/-- a byte of a word -/
def letterB (c : UInt8) : Prop := 97 ≤ c ∧ c ≤ 122
def wordB (c : UInt8) : Prop := letterB c ∨ (48 ≤ c ∧ c ≤ 57) ∨ c = 45
instance (c : UInt8) : Decidable (letterB c) := inferInstanceAs (Decidable (_ ∧ _))
instance (c : UInt8) : Decidable (wordB c) := inferInstanceAs (Decidable (_ ∨ _ ∨ _))
def WordT (s : List UInt8) : Prop := 1 ≤ s.length ∧ s.length ≤ 12 ∧ (∀ c, s[0]? = some c → letterB c) ∧ ∀ c ∈ s, wordB c
/-- a feature that fits its attribute's kind -/
def FeOk (atts : List Att) (f : Fe) : Prop := 0 ≤ f.1 ∧ ∃ x, atts[f.1.toNat]? = some x ∧ ((f.2.1 = 1 ∧ x.2 = 2 ∧ (f.2.2 = 0 ∨ f.2.2 = 1)) ∨ (f.2.1 = 2 ∧ x.2 = 3 ∧ f.2.2 = 0))
structure SchOk (x : Sch) : Prop where
  a1 : 1 ≤ x.atts.length
  a12 : x.atts.length ≤ 12
  r1 : 1 ≤ x.rels.length
  r6 : x.rels.length ≤ 6
  f8 : x.feats.length ≤ 8
  aw : ∀ a ∈ x.atts, WordT a.1
  ad : x.atts.Pairwise fun a b => a.1 ≠ b.1
  ak : ∀ a ∈ x.atts, 1 ≤ a.2 ∧ a.2 ≤ 3
  rw' : ∀ r ∈ x.rels, WordT r.1
  rd : x.rels.Pairwise fun a b => a.1 ≠ b.1
  rn : ∀ r ∈ x.rels, r.2 ≠ []
  ri : ∀ r ∈ x.rels, ∀ a ∈ r.2, 0 ≤ a ∧ a < x.atts.length
  ra : ∀ r ∈ x.rels, r.2.Pairwise (· < ·)
  used : ∀ a : Nat, a < x.atts.length → ∃ r ∈ x.rels, (a : Int) ∈ r.2
  fo : ∀ f ∈ x.feats, FeOk x.atts f
  fd : x.feats.Pairwise fun f h => f.1 ≠ h.1
  fl : ∀ f ∈ x.feats, f.1 ≠ x.label
  lb : -1 ≤ x.label ∧ x.label < x.atts.length
  lk : 0 ≤ x.label → ∃ a, x.atts[x.label.toNat]? = some a ∧ a.2 = 2
theorem conv_letter {d : Nat} (hd : d < 26) (w : World) : (convert tInt t8 (.int .i64 (97 + (d : Nat)))).run Tryz.prog w = .ok (.int .u8 ((UInt8.ofNat (97 + d)).toNat : Int)) w := by
  rcases d with _ | _ | _ | _ | _ | _ | _ | _ | _ | _ | _ | _ | _ | _ | _ | _ | _ | _ | _ | _ | _ | _ | _ | _ | _ | _ | d
  all_goals first | omega | kernel_rfl
set_option maxRecDepth 100000 in
set_option maxHeartbeats 1000000 in
theorem letter_any (p : List UInt8) (i : Nat) (w : World) (h : i < 26) (hp : p.length ≤ 1000) :
    Calls Tryz.prog 16 #[.string ⟨p.toArray⟩, .int .i64 i] w fun e w' => e = .returned (.string ⟨(p ++ [UInt8.ofNat (97 + i)]).toArray⟩) ∧ Ext w w' := by
  have HCV := Lib.hid (fun w' => conv_letter h w')
  have hcv := HCV.out
  have hbs := fun w' => byte_str w' (UInt8.ofNat (97 + i))
  have HSA := Lib.hid (str_snoc p (UInt8.ofNat (97 + i)))
  generalize UInt8.ofNat (97 + i) = ch at *
  clear HCV
  have hmod : Int.tmod (i : Int) 26 = (i : Int) := by rw [Int.tmod_eq_emod_of_nonneg (by omega)]; omega
  go_enter Tryz.func16, Tryz.ntmps16
  go_wp2
  go_ret
  exact ⟨by rw [HSA.out]; rfl, (Ext.refl w).alloc _⟩
end Go.Proofs.YthalpbjkkfkheaaGreatDoor
