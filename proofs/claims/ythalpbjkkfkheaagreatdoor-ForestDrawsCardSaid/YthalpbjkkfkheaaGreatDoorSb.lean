/- A schema that is being made: its box, its rows, the source of numbers. -/
import Derived.Test.YthalpbjkkfkheaaGreatDoorSch
namespace Go.Proofs.YthalpbjkkfkheaaGreatDoor
open Go.RowKit Go.Lib

theorem att_slice : SliceTy Tryz.prog 27 tAtt 2 24 := .mk' (z := .agg #[.string ⟨#[]⟩, .int .i64 0]) (by kernel_rfl) (by kernel_rfl) rfl (by decide) (by decide)
theorem rel_slice : SliceTy Tryz.prog 28 tRel 2 40 := .mk' (z := .agg #[.string ⟨#[]⟩, .slice none 0 0]) (by kernel_rfl) (by kernel_rfl) rfl (by decide) (by decide)
theorem fea_slice : SliceTy Tryz.prog 29 tFea 3 24 := .mk' (z := .agg #[.int .i64 0, .int .i64 0, .int .i64 0]) (by kernel_rfl) (by kernel_rfl) rfl (by decide) (by decide)
/-- rows' elements, as they stood in wz -/
abbrev RlZ (wz : World) : World → List Value → Rl → Prop := fun _ => RlR wz
theorem RlZ.stab (wz : World) : Stab [] (RlZ wz) := fun _ _ _ _ _ h => h
structure SB (w0 : World) (g b base : Nat) (z cs : List Value) (wz : World) (va vr vf : Value) (atts : List Att) (rels : List Rl) (feats : List Fe) (w : World) : Prop where
  blk : Blk w (b + 1) tSch cs
  res : Blk w b tSch z
  oa : OwnL tAtt 2 AttR base w va atts
  ol : OwnL tRel 2 (RlZ wz) base w vr rels
  of : OwnL tFea 3 FeR base w vf feats
  src : SrcAt w g
  on : Only g w0 w
  kz : Kept tInt wz w
  sz : base ≤ w.heap.size
  zz : wz.heap.size ≤ w.heap.size
section
variable {w0 w w' wz : World} {g b base n k : Nat} {z cs xs : List Value} {va vr vf v va' vr' vf' : Value} {atts : List Att} {rels : List Rl} {feats : List Fe}
/-- what is asked of the blocks' numbers -/
structure Bs (w0 : World) (g b base : Nat) : Prop where
  g0 : g < w0.heap.size
  b0 : w0.heap.size ≤ b
  bb : b + 1 < base
theorem SB.ext (h : SB w0 g b base z cs wz va vr vf atts rels feats w) (hx : Ext w w') : SB w0 g b base z cs wz va vr vf atts rels feats w' :=
  ⟨h.blk.ext hx, h.res.ext hx, h.oa.ext AttR.stab hx, h.ol.ext (RlZ.stab wz) hx, h.of.ext FeR.stab hx, h.src.ext hx, h.on.trans (Only.of_ext hx), h.kz.trans (.of_below hx), Nat.le_trans h.sz hx.size, Nat.le_trans h.zz hx.size⟩
theorem SB.call (q : Bs w0 g b base) (h : SB w0 g b base z cs wz va vr vf atts rels feats w) (ho : Only g w w') (hs : SrcAt w' g) : SB w0 g b base z cs wz va vr vf atts rels feats w' :=
  have q1 := q.g0
  have q2 := q.b0
  have q3 := q.bb
  ⟨h.blk.only ho (by omega), h.res.only ho (by omega), h.oa.only AttR.stab ho (by omega) (fun u hu => by cases hu), h.ol.only (RlZ.stab wz) ho (by omega) (fun u hu => by cases hu), h.of.only FeR.stab ho (by omega) (fun u hu => by cases hu), hs, h.on.trans ho, h.kz.trans (Src.kept h.src ho (by decide)), Nat.le_trans h.sz ho.size, Nat.le_trans h.zz ho.size⟩
theorem SB.rebase (h : SB w0 g b base z cs wz va vr vf atts rels feats w) : SB w0 g b base z cs w va vr vf atts rels feats w :=
  ⟨h.blk, h.res, h.oa, (by obtain ⟨xs, h1, h2⟩ := h.ol; exact ⟨xs, h1, h2.mono fun c x hc => RlR.stab _ _ _ _ (fun u hu => by rw [List.mem_singleton.1 hu]; exact h.kz) hc⟩), h.of, h.src, h.on, Kept.refl _ _, h.sz, Nat.le_refl _⟩
theorem SB.put (q : Bs w0 g b base) (h : SB w0 g b base z cs wz va vr vf atts rels feats w) (i : Nat) (x : Value) : ∃ W, w.setCell ⟨b + 1, i, none⟩ x = W ∧ Hid (SB w0 g b base z (cs.set i x) wz va vr vf atts rels feats W) ∧ Hid (Only (b + 1) w W) := by
  have q1 := q.g0
  have q2 := q.b0
  have q3 := q.bb
  obtain ⟨W, hW, hB, hK, hO⟩ := put1 (i := i) h.blk x
  refine ⟨W, hW, ⟨hB.out, h.res.only hO.out (by omega), h.oa.only AttR.stab hO.out (by omega) (fun u hu => by cases hu), h.ol.only (RlZ.stab wz) hO.out (by omega) (fun u hu => by cases hu), h.of.only FeR.stab hO.out (by omega) (fun u hu => by cases hu), h.src.past hO.out (by omega), h.on.fresh hO.out (by omega), h.kz.trans (hK.out _ (by decide)), Nat.le_trans h.sz hO.out.size, Nat.le_trans h.zz hO.out.size⟩, hO⟩
theorem SB.appA (q : Bs w0 g b base) (h : SB w0 g b base z cs wz va vr vf atts rels feats w) {x : Att} (hn : atts.length = n) (hown : w.ownsRow base tAtt 2 va n xs) (hc : Ch (AttR w) xs atts) (ho : w'.ownsRow base tAtt 2 va' (n + 1) (xs ++ [.string ⟨x.1.toArray⟩, .int .i64 x.2])) (hg : w.grownBy w' va.ownBlock) :
    SB w0 g b base z cs wz va' vr vf (atts ++ [x]) rels feats w' := by
  have q1 := q.g0
  have q2 := q.b0
  have q3 := q.bb
  subst hn
  refine ⟨blkG h.blk hown hg q3, blkG h.res hown hg (by omega), OwnL.snoc (R := AttR) AttR.stab (fun u hu => by cases hu) hown hc rfl ho hg, ?_, ?_, h.src.grown hg (fun j hj => by have := (hown.lt j hj).1; omega), Only.grownF h.on hown hg (by omega), h.kz.trans (Kept.grown hown hg (by decide)), Nat.le_trans h.sz hg.size, Nat.le_trans h.zz hg.size⟩
  · obtain ⟨ys, h1, h2⟩ := h.ol
    exact ⟨ys, own_grown h1 hg (own_apartT hown h1 (by decide)), h2⟩
  · obtain ⟨ys, h1, h2⟩ := h.of
    exact ⟨ys, own_grown h1 hg (own_apartT hown h1 (by decide)), h2⟩
theorem SB.appR (q : Bs w0 g b base) (h : SB w0 g b base z cs wz va vr vf atts rels feats w) {x : Rl} {A : Option Addr} {m d : Nat} (hn : rels.length = n) (hown : w.ownsRow base tRel 2 vr n xs) (hc : Ch (RlZ wz w) xs rels) (hx : IL wz (.slice A m d) x.2) (ho : w'.ownsRow base tRel 2 vr' (n + 1) (xs ++ [.string ⟨x.1.toArray⟩, .slice A m d])) (hg : w.grownBy w' vr.ownBlock) :
    SB w0 g b base z cs wz va vr' vf atts (rels ++ [x]) feats w' := by
  have q1 := q.g0
  have q2 := q.b0
  have q3 := q.bb
  subst hn
  refine ⟨blkG h.blk hown hg q3, blkG h.res hown hg (by omega), ?_, OwnL.snoc (R := RlZ wz) (RlZ.stab wz) (fun u hu => by cases hu) hown hc ⟨A, m, d, rfl, hx⟩ ho hg, ?_, h.src.grown hg (fun j hj => by have := (hown.lt j hj).1; omega), Only.grownF h.on hown hg (by omega), h.kz.trans (Kept.grown hown hg (by decide)), Nat.le_trans h.sz hg.size, Nat.le_trans h.zz hg.size⟩
  · obtain ⟨ys, h1, h2⟩ := h.oa
    exact ⟨ys, own_grown h1 hg (own_apartT hown h1 (by decide)), h2⟩
  · obtain ⟨ys, h1, h2⟩ := h.of
    exact ⟨ys, own_grown h1 hg (own_apartT hown h1 (by decide)), h2⟩
theorem SB.appF (q : Bs w0 g b base) (h : SB w0 g b base z cs wz va vr vf atts rels feats w) {x : Fe} (hn : feats.length = n) (hown : w.ownsRow base tFea 3 vf n xs) (hc : Ch (FeR w) xs feats) (ho : w'.ownsRow base tFea 3 vf' (n + 1) (xs ++ [.int .i64 x.1, .int .i64 x.2.1, .int .i64 x.2.2])) (hg : w.grownBy w' vf.ownBlock) :
    SB w0 g b base z cs wz va vr vf' atts rels (feats ++ [x]) w' := by
  have q1 := q.g0
  have q2 := q.b0
  have q3 := q.bb
  subst hn
  refine ⟨blkG h.blk hown hg q3, blkG h.res hown hg (by omega), ?_, ?_, OwnL.snoc (R := FeR) FeR.stab (fun u hu => by cases hu) hown hc rfl ho hg, h.src.grown hg (fun j hj => by have := (hown.lt j hj).1; omega), Only.grownF h.on hown hg (by omega), h.kz.trans (Kept.grown hown hg (by decide)), Nat.le_trans h.sz hg.size, Nat.le_trans h.zz hg.size⟩
  · obtain ⟨ys, h1, h2⟩ := h.oa
    exact ⟨ys, own_grown h1 hg (own_apartT hown h1 (by decide)), h2⟩
  · obtain ⟨ys, h1, h2⟩ := h.ol
    exact ⟨ys, own_grown h1 hg (own_apartT hown h1 (by decide)), h2⟩
/-- behind an append to a row of ints that began later -/
theorem SB.appI (q : Bs w0 g b base) (h : SB w0 g b base z cs wz va vr vf atts rels feats w) {base2 : Nat} (h2 : base ≤ base2) (hz : wz.heap.size ≤ base2) (hown : w.ownsRow base2 tInt 1 v n xs) (hg : w.grownBy w' v.ownBlock) : SB w0 g b base z cs wz va vr vf atts rels feats w' := by
  have q1 := q.g0
  have q2 := q.b0
  have q3 := q.bb
  refine ⟨blkG h.blk hown hg (by omega), blkG h.res hown hg (by omega), ?_, ?_, ?_, h.src.grown hg (fun j hj => by have := (hown.lt j hj).1; omega), Only.grownF h.on hown hg (by omega), Kept.base h.kz hown hg hz, Nat.le_trans h.sz hg.size, Nat.le_trans h.zz hg.size⟩
  · obtain ⟨ys, h1, h2⟩ := h.oa
    exact ⟨ys, own_grown h1 hg (own_apartT hown h1 (by decide)), h2⟩
  · obtain ⟨ys, h1, h2⟩ := h.ol
    exact ⟨ys, own_grown h1 hg (own_apartT hown h1 (by decide)), h2⟩
  · obtain ⟨ys, h1, h2⟩ := h.of
    exact ⟨ys, own_grown h1 hg (own_apartT hown h1 (by decide)), h2⟩
end
end Go.Proofs.YthalpbjkkfkheaaGreatDoor
