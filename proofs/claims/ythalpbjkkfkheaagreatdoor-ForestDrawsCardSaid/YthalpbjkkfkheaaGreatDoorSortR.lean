/- joinlearnref06.Sort: insertion with merging. -/
import Derived.Test.YthalpbjkkfkheaaGreatDoorTxs
namespace Go.Proofs.YthalpbjkkfkheaaGreatDoor
open Go.RowKit Go.Lib

/-- a row is put among rows in order -/
def insR (x : Rw) : List Rw → List Rw
  | [] => [x]
  | y :: l => if ltT y.1 x.1 = true then y :: insR x l else if (y.1 == x.1) = true then (y.1, y.2 + x.2) :: l else x :: y :: l
def foldR (l : List Rw) (i : Nat) : List Rw := (l.take i).foldl (fun o x => insR x o) []
theorem foldR_succ {l : List Rw} {i : Nat} (h : i < l.length) : foldR l (i + 1) = insR l[i] (foldR l i) := by
  unfold foldR
  rw [List.take_add_one, List.getElem?_eq_getElem h, List.foldl_append]
  rfl
def keptR (l : List Rw) (i : Nat) : List Rw := (l.take i).filter fun x => x.2 != 0
theorem keptR_succ {l : List Rw} {i : Nat} (h : i < l.length) : keptR l (i + 1) = if (l[i].2 != 0) = true then keptR l i ++ [l[i]] else keptR l i := by
  unfold keptR
  rw [List.take_add_one, List.getElem?_eq_getElem h, List.filter_append]
  simp only [Option.toList, List.filter_cons, List.filter_nil]
  split <;> simp
/-- the rows in order, equal ones as one -/
def sortR (l : List Rw) : List Rw := keptR (foldR l l.length) (foldR l l.length).length
theorem insR_step {x : Rw} {o : List Rw} {k : Nat} (hk : k < o.length) (h : insR x o = o.take k ++ insR x (o.drop k)) (hl : ltT o[k].1 x.1 = true) : insR x o = o.take (k + 1) ++ insR x (o.drop (k + 1)) := by
  rw [h, List.drop_eq_getElem_cons hk]
  show o.take k ++ (if ltT o[k].1 x.1 = true then o[k] :: insR x (o.drop (k + 1)) else _) = _
  rw [if_pos hl, List.take_add_one, List.getElem?_eq_getElem hk, List.append_assoc]
  rfl
theorem insR_new {x : Rw} {o : List Rw} {k : Nat} (hk : k < o.length) (h : insR x o = o.take k ++ insR x (o.drop k)) (hl : ltT o[k].1 x.1 = false) (he : (o[k].1 == x.1) = false) : insR x o = o.take k ++ x :: o.drop k := by
  rw [h, List.drop_eq_getElem_cons hk]
  show o.take k ++ (if ltT o[k].1 x.1 = true then o[k] :: insR x (o.drop (k + 1)) else if (o[k].1 == x.1) = true then _ else _) = _
  rw [hl, he]
  rfl
theorem insR_old {x : Rw} {o : List Rw} {k : Nat} (hk : k < o.length) (h : insR x o = o.take k ++ insR x (o.drop k)) (hl : ltT o[k].1 x.1 = false) (he : (o[k].1 == x.1) = true) : insR x o = o.set k (o[k].1, o[k].2 + x.2) := by
  rw [h, List.set_eq_take_append_cons_drop, if_pos hk, List.drop_eq_getElem_cons hk]
  show o.take k ++ (if ltT o[k].1 x.1 = true then o[k] :: insR x (o.drop (k + 1)) else if (o[k].1 == x.1) = true then _ else _) = _
  rw [hl, he]
  rfl
theorem insR_end {x : Rw} {o : List Rw} (h : insR x o = o.take o.length ++ insR x (o.drop o.length)) : insR x o = o.take o.length ++ x :: o.drop o.length := by
  rw [h, List.drop_length]
  rfl
theorem insR_len (x : Rw) : ∀ o : List Rw, (insR x o).length ≤ o.length + 1
  | [] => Nat.le_refl _
  | y :: l => by
    unfold insR
    have h := insR_len x l
    split
    · simp only [List.length_cons]; omega
    · split <;> simp only [List.length_cons] <;> omega
theorem insR_w {x : Rw} {m : Nat} (hx : x.2.natAbs ≤ 1000000) : ∀ {o : List Rw}, (∀ y ∈ o, y.2.natAbs ≤ m) → ∀ y ∈ insR x o, y.2.natAbs ≤ m + 1000000
  | [], _, y, hy => by
    rw [List.mem_singleton.1 hy]; omega
  | z :: l, h, y, hy => by
    have h1 := h z (by simp)
    have h2 := insR_w (o := l) hx (fun y hy => h y (by simp [hy]))
    unfold insR at hy
    split at hy
    · rcases List.mem_cons.1 hy with rfl | hy
      · omega
      · exact h2 y hy
    · split at hy
      · rcases List.mem_cons.1 hy with rfl | hy
        · simp only; omega
        · have := h y (by simp [hy]); omega
      · rcases List.mem_cons.1 hy with rfl | hy
        · omega
        · have := h y hy; omega
theorem foldR_w {l : List Rw} (hl : ∀ y ∈ l, y.2.natAbs ≤ 1000000) : ∀ i, i ≤ l.length → (foldR l i).length ≤ i ∧ ∀ y ∈ foldR l i, y.2.natAbs ≤ i * 1000000
  | 0, _ => ⟨by simp [foldR], fun y hy => by simp [foldR] at hy⟩
  | i + 1, h => by
    obtain ⟨h1, h2⟩ := foldR_w hl i (by omega)
    rw [foldR_succ (by omega)]
    refine ⟨Nat.le_trans (insR_len _ _) (by omega), ?_⟩
    rw [Nat.succ_mul]
    exact insR_w (hl _ (List.getElem_mem _)) h2
/-- a row's first elements, owned alike -/
theorem own_in {w : World} {base k : Nat} {e : TypeId} {g n c : Nat} {xs : List Value} (h : w.ownsRow base e k (.slice (some ⟨g, 0, none⟩) n c) n xs) : g < w.heap.size := (h.lt g rfl).2
theorem own_takeK {w : World} {base k : Nat} {e : TypeId} {g n c m : Nat} {xs : List Value} (h : w.ownsRow base e k (.slice (some ⟨g, 0, none⟩) n c) n xs) (hm : m ≤ n) : w.ownsRow base e k (.slice (some ⟨g, 0, none⟩) m c) m (xs.take (m * k)) := by
  obtain ⟨h1, h2 | ⟨g', cap, cur, hv, hb, hh, h3, h4, h5, h6⟩⟩ := h
  · cases h2.1
  · injection hv with e1 e2 e3
    injection e1 with e1
    injection e1 with e1
    subst e1 e3
    have hmk : m * k ≤ n * k := Nat.mul_le_mul_right _ hm
    refine ⟨by rw [List.length_take, h1]; omega, .inr ⟨g, c, cur, rfl, hb, hh, by omega, h4, h5, ?_⟩⟩
    rw [← h6, List.take_take, Nat.min_eq_left hmk]
theorem own_tailK {w : World} {base k : Nat} {e : TypeId} {g n c m : Nat} {xs : List Value} (h : w.ownsRow base e k (.slice (some ⟨g, 0, none⟩) n c) n xs) : Sl w e (some ⟨g, m, none⟩) (xs.drop m) := by
  intro j u hu
  obtain ⟨g', o, cur, fr, hA, hg, hc⟩ := Sl.of_own h (m + j) u (by rw [← hu, List.getElem?_drop])
  injection hA with hA
  injection hA with e1 e2
  subst e1 e2
  exact ⟨g, m, cur, fr, rfl, hg, by rw [← hc, Nat.zero_add]⟩
/-- append(s, xs...), as one operation -/
theorem wp_appT {P : Program} {o : Oper} {a : Act} {w : World} {K : Act → World → Prop} {Q : Exit → Act → World → Prop} (s x : Operand) (t : TypeId)
    (ho : o.op = .call { callee := .builtin .append, args := #[s, x], argTypes := #[t, t] })
    (base : Nat) {e : TypeId} {size bytes : Nat} (T : SliceTy P t e size bytes)
    (v : Value) (n : Nat) (xs : List Value) (hs : a.eval s = v) (hown : w.ownsRow base e size v n xs)
    (ad : Addr) (m c : Nat) (news : List Value) (hx : a.eval x = .slice (some ad) m c) (hl : news.length = m * size) {t' : TypeId} (hnews : Sl w t' (some ad) news) (h1 : ∀ u ∈ news, u.oneCell' = true)
    (hbytes : (n + m) * bytes ≤ 140737488355328) (hbase : base ≤ w.heap.size)
    (h : ∀ v' w', w'.ownsRow base e size v' (n + m) (xs ++ news) → w.grownBy w' v.ownBlock → (v'.ownBlock = v.ownBlock ∨ v'.ownBlock = some w.heap.size) → K (a.put o.dst v') w') : o.wp P a w K Q := by
  obtain ⟨i, z, hi, hz, hz1, hz2, hz3⟩ := T.inf
  have hle : n + m ≤ maxLen := by
    have hp := T.bpos
    have := Nat.le_mul_of_pos_right (n + m) hp
    unfold maxLen; omega
  have hn2 : ∀ j u, news[j]? = some u → w.cell? (ad.add j) = some u := by
    intro j u hu
    obtain ⟨g, o', cur, fr, hA, hg, hc⟩ := hnews j u hu
    injection hA with hA
    subst hA
    rw [Addr.add_lit]
    simp [World.cell?, hg, hc]
  obtain ⟨v', w', hr, h2, h3, _, h5⟩ := run_append_own_at (P := P) w base t o.type e i z size bytes T.ht hi hz hz1 hz2 hz3 T.pos v n xs hown ad m c news hl hn2 h1 hle hbytes hbase
  unfold Oper.wp execOp
  simp only [ho, resolve, invoke, builtin, Sem.run_bind, Sem.run_pure, Result.andThen_ok, List.map_toArray, List.map_cons, List.map_nil, hs, hx, hr]
  exact h v' w' h2 h3 h5
theorem Ch.drop {α : Type} {R : List Value → α → Prop} {k : Nat} (hk : ∀ c x, R c x → c.length = k) : ∀ {xs : List Value} {l : List α} (_ : Ch R xs l) (n : Nat), Ch R (xs.drop (n * k)) (l.drop n)
  | xs, l, h, 0 => by simpa using h
  | xs, [], h, n + 1 => by rw [show xs = [] from h]; simp [Ch]
  | xs, x :: l, ⟨c, r, e, h1, h2⟩, n + 1 => by
    subst e
    have hc := hk _ _ h1
    have e : (n + 1) * k = c.length + n * k := by rw [hc, Nat.succ_mul]; omega
    rw [e, ← List.drop_drop, List.drop_left]
    exact Ch.drop hk h2 n
/-- a block that is known whole is an owned row -/
theorem own_blk {w : World} {g base k n : Nat} {t : TypeId} {xs : List Value} (h : Blk w g t xs) (hl : xs.length = n * k) (hb : base ≤ g) (hn : n ≤ 1000) : w.ownsRow base t k (.slice (some ⟨g, 0, none⟩) n n) n xs :=
  ⟨hl, .inr ⟨g, n, xs.toArray, rfl, hb, h, Nat.le_refl _, by unfold maxLen; omega, by simp [hl], by simp [← hl]⟩⟩
/-- a row's number is written -/
theorem own_setw {w : World} {base g n c k : Nat} {o : List Rw} {xs : List Value} (h : w.ownsRow base tRow 2 (.slice (some ⟨g, 0, none⟩) n c) n xs) (hc : Ch (RwR w) xs o) (hl : o.length = n) (hk : k < o.length) (z : Int) :
    OwnL tRow 2 RwR base (w.setCell ⟨g, k * 2 + 1, none⟩ (.int .i64 z)) (.slice (some ⟨g, 0, none⟩) n c) (o.set k (o[k].1, z)) ∧ w.grownBy (w.setCell ⟨g, k * 2 + 1, none⟩ (.int .i64 z)) (some g) := by
  obtain ⟨h1, h2⟩ := h.stored (k * 2 + 1) (.int .i64 z)
  refine ⟨⟨_, by rw [List.length_set, hl]; exact h1, ?_⟩, h2⟩
  have hK : Kept tStr w (w.setCell ⟨g, k * 2 + 1, none⟩ (.int .i64 z)) := Kept.grown h h2 (by decide)
  have hc' : Ch (RwR (w.setCell ⟨g, k * 2 + 1, none⟩ (.int .i64 z))) xs o := hc.mono fun c x hx => RwR.stab _ _ _ _ (fun u hu => by rw [List.mem_singleton.1 hu]; exact hK) hx
  obtain ⟨x1, c1, x2, rfl, hx1, hA, ⟨B, d, rfl, hT⟩, hB⟩ := Ch.split (RwR.two _) hc' hk
  have e1 : (x1 ++ ([Value.slice B o[k].1.length d, .int .i64 o[k].2] ++ x2)).set (k * 2 + 1) (.int .i64 z) = x1 ++ ([Value.slice B o[k].1.length d, .int .i64 z] ++ x2) := by
    rw [List.set_append_right _ _ (by omega)]
    have e : k * 2 + 1 - x1.length = 1 := by omega
    rw [e]
    rfl
  rw [e1, List.set_eq_take_append_cons_drop, if_pos hk]
  exact Ch.append (l := o.take k) (m := (o[k].1, z) :: o.drop (k + 1)) ⟨_, _, rfl, ⟨B, d, rfl, hT⟩, hB⟩ hA
/-- append(s, nil...), as one operation -/
theorem wp_appN {P : Program} {o : Oper} {a : Act} {w : World} {K : Act → World → Prop} {Q : Exit → Act → World → Prop} (s x : Operand) (t : TypeId)
    (ho : o.op = .call { callee := .builtin .append, args := #[s, x], argTypes := #[t, t] })
    {e : TypeId} {size bytes : Nat} (T : SliceTy P t e size bytes)
    (base n : Nat) (v : Value) (xs : List Value) (hs : a.eval s = v) (hown : w.ownsRow base e size v n xs) (hx : a.eval x = .slice none 0 0)
    (h : K (a.put o.dst v) w) : o.wp P a w K Q := by
  obtain ⟨i, z, hi, hz, hz1, hz2, hz3⟩ := T.inf
  have hrun := run_append_owned_none (P := P) (w := w) base t o.type e i size T.ht hi v n xs hown
  unfold Oper.wp
  simp [execOp, ho, resolve, invoke, builtin, hs, hx, hrun, Result.andThen]
  exact h
theorem own_cases {w : World} {base k : Nat} {e : TypeId} {A : Option Addr} {n c : Nat} {xs : List Value} (h : w.ownsRow base e k (.slice A n c) n xs) : (A = none ∧ n = 0 ∧ c = 0) ∨ ∃ g, A = some ⟨g, 0, none⟩ ∧ base ≤ g ∧ g < w.heap.size := by
  rcases h.2 with ⟨e1, h0⟩ | ⟨g, cap, cur, e1, hb, hh, _⟩
  · injection e1 with e1 e2 e3
    exact .inl ⟨e1, h0, e3⟩
  · injection e1 with e1 e2 e3
    exact .inr ⟨g, e1, hb, lt_of_some hh⟩
theorem rw_cells {w : World} {xs : List Value} {l : List Rw} (h : Ch (RwR w) xs l) : ∀ u ∈ xs, u.oneCell' = true :=
  Ch.all (fun c x hc u hu => by
    obtain ⟨B, d, rfl, _⟩ := hc
    rcases List.mem_cons.1 hu with rfl | hu
    · rfl
    · rw [List.mem_singleton.1 hu]; rfl) h
/-- a row between the first k rows and the others -/
theorem ch_ins {w : World} {xs : List Value} {o : List Rw} {k : Nat} {x : Rw} {B : Option Addr} {d : Nat} (h : Ch (RwR w) xs o) (hx : TL w (.slice B x.1.length d) x.1) :
    Ch (RwR w) (xs.take (k * 2) ++ ([.slice B x.1.length d, .int .i64 x.2] ++ xs.drop (k * 2))) (o.take k ++ x :: o.drop k) :=
  Ch.append (l := o.take k) (m := x :: o.drop k) ⟨_, _, rfl, ⟨B, d, rfl, hx⟩, Ch.drop (RwR.two _) h k⟩ (Ch.take (RwR.two _) h k)
theorem Ch.rw_kept {w w' : World} {xs : List Value} {l : List Rw} (h : Ch (RwR w) xs l) (hk : Kept tStr w w') : Ch (RwR w') xs l := h.mono fun c x hc => RwR.stab _ _ _ _ (fun u hu => by rw [List.mem_singleton.1 hu]; exact hk) hc
theorem TL.kept1 {w w' : World} {v : Value} {l : List Txt} (h : TL w v l) (hk : Kept tStr w w') : TL w' v l := Ls.keep TxR.stab h (fun u hu => by rw [List.mem_singleton.1 hu]; exact hk)
theorem OwnL.weaken {α : Type} {t : TypeId} {k b b' : Nat} {R : World → List Value → α → Prop} {w : World} {v : Value} {l : List α} (h : OwnL t k R b' w v l) (hb : b ≤ b') : OwnL t k R b w v l := by
  obtain ⟨xs, ⟨h1, h2⟩, h3⟩ := h
  refine ⟨xs, ⟨h1, ?_⟩, h3⟩
  rcases h2 with h2 | ⟨g, cap, cur, e1, hg, h4⟩
  · exact .inl h2
  · exact .inr ⟨g, cap, cur, e1, by omega, h4⟩
theorem keptR_le (l : List Rw) (i : Nat) : (keptR l i).length ≤ i := by
  unfold keptR
  have h := List.length_filter_le (fun x : Rw => x.2 != 0) (l.take i)
  rw [List.length_take] at h
  omega
end Go.Proofs.YthalpbjkkfkheaaGreatDoor
