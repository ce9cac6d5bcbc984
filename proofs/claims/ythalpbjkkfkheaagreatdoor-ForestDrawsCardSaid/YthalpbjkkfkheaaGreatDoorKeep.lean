/- forest.Keep walked: a schema with some of its features alone. -/
import Derived.Test.YthalpbjkkfkheaaGreatDoorPickW
import Derived.Test.YthalpbjkkfkheaaGreatDoorMkSch
namespace Go.Proofs.YthalpbjkkfkheaaGreatDoor
open Go.RowKit Go.Lib

theorem ls_cells {α : Type} {t : TypeId} {R : World → List Value → α → Prop} {w : World} {A : Option Addr} {n c : Nat} {l : List α} (h : Ls t R w (.slice A n c) l) :
    n = l.length ∧ n ≤ c ∧ (A = none → c = 0) ∧ ∃ xs, Sl w t A xs ∧ Ch (R w) xs l := by
  obtain ⟨A', c', xs, e, h2, h3, h4, h5, h6⟩ := h
  injection e with e1 e2 e3
  subst e1 e2 e3
  exact ⟨rfl, h2, h4, xs, h5, h6⟩
theorem own_ls {α : Type} {t : TypeId} {k : Nat} {R : World → List Value → α → Prop} {w : World} {base n : Nat} {v : Value} {xs : List Value} {l : List α} (h : w.ownsRow base t k v n xs) (hn : n = l.length) (hc : Ch (R w) xs l) : ∃ A c, v = .slice A n c ∧ Ls t R w (.slice A n c) l := by
  subst hn
  obtain ⟨A, c, rfl, _, _, _⟩ := own_parts h
  exact ⟨A, c, rfl, OwnL.ls (base := base) (k := k) ⟨xs, h, hc⟩⟩
theorem AL.ext {w w' : World} {v : Value} {l : List Att} (h : AL w v l) (hx : Ext w w') : AL w' v l := Ls.ext AttR.stab h hx
/-- the schema that is being made: its block bo, the old schema's block b, the result's block b + 1 -/
structure KB (a : World) (b bo base : Nat) (ss z cs : List Value) (va vr vf : Value) (atts : List Att) (rels : List Rl) (feats : List Fe) (w : World) : Prop where
  blk : Blk w bo tSch cs
  old : Blk w b tSch ss
  res : Blk w (b + 1) tSch z
  al : AL w va atts
  ol : OwnL tRel 2 RlR base w vr rels
  of : OwnL tFea 3 FeR base w vf feats
  ext : Ext a w
  sz : base ≤ w.heap.size
structure Kn (a : World) (b bo base : Nat) : Prop where
  b0 : a.heap.size ≤ b
  bb : b + 1 < bo
  bs : bo < base
section
variable {a w w' : World} {b bo base n : Nat} {ss z cs xs : List Value} {va vr vf vr' vf' : Value} {atts : List Att} {rels : List Rl} {feats : List Fe}
theorem KB.ext' (h : KB a b bo base ss z cs va vr vf atts rels feats w) (hx : Ext w w') : KB a b bo base ss z cs va vr vf atts rels feats w' :=
  ⟨h.blk.ext hx, h.old.ext hx, h.res.ext hx, h.al.ext hx, h.ol.ext RlR.stab hx, h.of.ext FeR.stab hx, h.ext.trans hx, Nat.le_trans h.sz hx.size⟩
theorem KB.put (q : Kn a b bo base) (h : KB a b bo base ss z cs va vr vf atts rels feats w) (i : Nat) (x : Value) : ∃ W, w.setCell ⟨bo, i, none⟩ x = W ∧ Hid (KB a b bo base ss z (cs.set i x) va vr vf atts rels feats W) := by
  have q1 := q.b0
  have q2 := q.bb
  have q3 := q.bs
  obtain ⟨W, hW, hB, hK, hO⟩ := put1 (i := i) h.blk x
  exact ⟨W, hW, ⟨hB.out, h.old.only hO.out (by omega), h.res.only hO.out (by omega), h.al.kept AttR.stab hK.out ⟨by decide, fun u hu => by cases hu⟩, h.ol.only RlR.stab hO.out (by omega) (fun u hu => by rw [List.mem_singleton.1 hu]; exact hK.out _ (by decide)), h.of.only FeR.stab hO.out (by omega) (fun u hu => by cases hu), h.ext.only hO.out (by omega), Nat.le_trans h.sz hO.out.size⟩⟩
theorem KB.appR (q : Kn a b bo base) (h : KB a b bo base ss z cs va vr vf atts rels feats w) {x : Rl} {A : Option Addr} {m d : Nat} (hn : rels.length = n) (hown : w.ownsRow base tRel 2 vr n xs) (hc : Ch (RlR w) xs rels) (hx : IL w (.slice A m d) x.2) (ho : w'.ownsRow base tRel 2 vr' (n + 1) (xs ++ [.string ⟨x.1.toArray⟩, .slice A m d])) (hg : w.grownBy w' vr.ownBlock) :
    KB a b bo base ss z cs va vr' vf atts (rels ++ [x]) feats w' := by
  have q1 := q.b0
  have q2 := q.bb
  have q3 := q.bs
  subst hn
  refine ⟨blkG h.blk hown hg q3, blkG h.old hown hg (by omega), blkG h.res hown hg (by omega), h.al.keep AttR.stab (fun u hu => by rw [List.mem_singleton.1 hu]; exact Kept.grown hown hg (by decide)), OwnL.snoc (R := RlR) RlR.stab (fun u hu => by rw [List.mem_singleton.1 hu]; decide) hown hc ⟨A, m, d, rfl, hx⟩ ho hg, ?_, Below.grown h.ext hg h.ext.size (fun k hk => by have := (hown.lt k hk).1; omega), Nat.le_trans h.sz hg.size⟩
  obtain ⟨ys, h1, h2⟩ := h.of
  exact ⟨ys, own_grown h1 hg (own_apartT hown h1 (by decide)), h2⟩
theorem KB.appF (q : Kn a b bo base) (h : KB a b bo base ss z cs va vr vf atts rels feats w) {x : Fe} (hn : feats.length = n) (hown : w.ownsRow base tFea 3 vf n xs) (hc : Ch (FeR w) xs feats) (ho : w'.ownsRow base tFea 3 vf' (n + 1) (xs ++ [.int .i64 x.1, .int .i64 x.2.1, .int .i64 x.2.2])) (hg : w.grownBy w' vf.ownBlock) :
    KB a b bo base ss z cs va vr vf' atts rels (feats ++ [x]) w' := by
  have q1 := q.b0
  have q2 := q.bb
  have q3 := q.bs
  subst hn
  refine ⟨blkG h.blk hown hg q3, blkG h.old hown hg (by omega), blkG h.res hown hg (by omega), h.al.keep AttR.stab (fun u hu => by rw [List.mem_singleton.1 hu]; exact Kept.grown hown hg (by decide)), ?_, OwnL.snoc (R := FeR) FeR.stab (fun u hu => by cases hu) hown hc rfl ho hg, Below.grown h.ext hg h.ext.size (fun k hk => by have := (hown.lt k hk).1; omega), Nat.le_trans h.sz hg.size⟩
  obtain ⟨ys, h1, h2⟩ := h.ol
  exact ⟨ys, own_grown h1 hg (own_apartT hown h1 (by decide)), h2.mono fun c x hc => RlR.stab _ _ _ _ (fun u hu => by rw [List.mem_singleton.1 hu]; exact Kept.grown hown hg (by decide)) hc⟩
end
theorem asc_len {n : Int} : ∀ {l : List Int} {k : Int}, l.Pairwise (· < ·) → (∀ a ∈ l, k ≤ a ∧ a < n) → l = [] ∨ (l.length : Int) + k ≤ n
  | [], _, _, _ => .inl rfl
  | x :: l, k, hp, h => by
    have h0 := h x (by simp)
    have hp' := List.pairwise_cons.1 hp
    right
    rcases asc_len (k := x + 1) hp'.2 (fun a ha => ⟨by have := hp'.1 a ha; omega, (h a (by simp [ha])).2⟩) with h1 | h1
    · subst h1
      simp only [List.length_cons, List.length_nil]
      omega
    · simp only [List.length_cons]
      omega
/-- the features of these numbers -/
def fsF (fs : List Fe) (l : List Int) : List Fe := l.filterMap fun f => if 0 ≤ f then fs[f.toNat]? else none
theorem fsF_snoc {fs : List Fe} {l : List Int} {i q : Nat} (h : l[i]? = some (q : Int)) (hq : q < fs.length) : fsF fs (l.take (i + 1)) = fsF fs (l.take i) ++ [fs[q]] := by
  unfold fsF
  rw [List.take_add_one, h, List.filterMap_append]
  simp [hq]
theorem fsF_length {fs : List Fe} : ∀ {l : List Int}, (∀ f ∈ l, 0 ≤ f ∧ f < fs.length) → (fsF fs l).length = l.length
  | [], _ => rfl
  | f :: l, h => by
    have h1 := h f (by simp)
    have h2 := fsF_length (l := l) fun y hy => h y (by simp [hy])
    have h3 : f.toNat < fs.length := by omega
    unfold fsF at h2 ⊢
    rw [List.filterMap_cons_some (b := fs[f.toNat]) (by simp [h1.1, h3]), List.length_cons, h2, List.length_cons]
/-- the schema with the features of these numbers -/
def keepF (x : Sch) (l : List Int) : Sch := { x with feats := fsF x.feats l }
end Go.Proofs.YthalpbjkkfkheaaGreatDoor
