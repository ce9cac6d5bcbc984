/- Rows of fractions that are written in place; the sums that a step makes. -/
import Derived.Test.YtlfcicfebhjchaaGreatDoorCost
namespace Go.Proofs.YtlfcicfebhjchaaGreatDoor
open Go.RowKit Go.Lib

theorem Ch.split {α : Type} {R : List Value → α → Prop} {k : Nat} (hk : ∀ c x, R c x → c.length = k) : ∀ {xs : List Value} {l : List α} (_ : Ch R xs l) {i : Nat} (hi : i < l.length), ∃ x1 c x2, xs = x1 ++ (c ++ x2) ∧ x1.length = i * k ∧ Ch R x1 (l.take i) ∧ R c l[i] ∧ Ch R x2 (l.drop (i + 1))
  | _, [], _, i, hi => by simp at hi
  | _, x :: l, ⟨c, r, e, h1, h2⟩, 0, hi => ⟨[], c, r, by simpa using e, by simp, rfl, h1, h2⟩
  | _, x :: l, ⟨c, r, e, h1, h2⟩, i + 1, hi => by
    obtain ⟨x1, d, x2, e', hl, a, b, f⟩ := Ch.split hk h2 (i := i) (by simpa using hi)
    refine ⟨c ++ x1, d, x2, by rw [e, e', List.append_assoc], by rw [List.length_append, hk _ _ h1, hl, Nat.succ_mul]; omega, ⟨c, x1, rfl, h1, a⟩, b, f⟩
/-- a row of fractions at the head of a block -/
def Row (w : World) (g : Nat) (l : List Rat) : Prop := ∃ xs sp, Blk w g tFrac (xs ++ sp) ∧ Ch (FrR w) xs l
theorem Row.keep {w w' : World} {g : Nat} {l : List Rat} (h : Row w g l) (hb : w'.heap[g]? = w.heap[g]?) (hk : Kept tU64 w w') : Row w' g l := by
  obtain ⟨xs, sp, h1, h2⟩ := h
  exact ⟨xs, sp, hb.trans h1, h2.mono fun c x hc => FrR.stab _ _ _ _ (fun t ht => by simp only [List.mem_singleton] at ht; subst ht; exact hk) hc⟩
theorem Row.lt {w : World} {g : Nat} {l : List Rat} (h : Row w g l) : g < w.heap.size := by
  obtain ⟨xs, sp, h1, h2⟩ := h
  exact h1.lt
theorem Row.ext {w w' : World} {g : Nat} {l : List Rat} (h : Row w g l) (hx : Ext w w') : Row w' g l := h.keep (hx.block g h.lt) (.of_below hx)
theorem Row.only {w w' : World} {g k : Nat} {l : List Rat} (h : Row w g l) (ho : Only k w w') (hne : g ≠ k) (hk : Kept tU64 w w') : Row w' g l := h.keep (ho.block g h.lt (by simpa using hne)) hk
/-- an element of a row: its cells, and what a store makes of the row -/
theorem Row.at_ {w : World} {g : Nat} {l : List Rat} (h : Row w g l) {k : Nat} (hk : k < l.length) :
    ∃ b A n c b' A' n' c' xs ys, Hid (Blk w g tFrac (xs ++ ([.bool b, .slice A n c, .bool b', .slice A' n' c'] ++ ys))) ∧ Hid (xs.length = k * 4) ∧ Hid (FracV w (.agg #[.bool b, .slice A n c, .bool b', .slice A' n' c']) l[k]) ∧
      (w.cell? ⟨g, k * 4, none⟩ = some (.bool b) ∧ w.cell? ⟨g, k * 4 + 1, none⟩ = some (.slice A n c) ∧ w.cell? ⟨g, k * 4 + 2, none⟩ = some (.bool b') ∧ w.cell? ⟨g, k * 4 + 3, none⟩ = some (.slice A' n' c')) ∧
      Hid (∀ w' b A n c b' A' n' c' q, Blk w' g tFrac (xs ++ ([.bool b, .slice A n c, .bool b', .slice A' n' c'] ++ ys)) → Kept tU64 w w' → FracV w' (.agg #[.bool b, .slice A n c, .bool b', .slice A' n' c']) q → Row w' g (l.set k q)) := by
  obtain ⟨xs, sp, h1, h2⟩ := h
  obtain ⟨x1, d, x2, e, hl, a, ⟨b, A, n, c, b', A', n', c', hd, hv⟩, f⟩ := Ch.split (FrR.four w) h2 hk
  subst hd
  have hB : Blk w g tFrac (x1 ++ ([.bool b, .slice A n c, .bool b', .slice A' n' c'] ++ (x2 ++ sp))) := by rw [e] at h1; simpa using h1
  refine ⟨b, A, n, c, b', A', n', c', x1, x2 ++ sp, hB, hl, hv, row4_cells hB hl, ?_⟩
  intro w' b1 A1 n1 c1 b2 A2 n2 c2 q hB' hk' hv'
  have hs := FrR.stab
  have hm : ∀ c x, FrR w c x → FrR w' c x := fun c x hc => FrR.stab _ _ _ _ (fun t ht => by simp only [List.mem_singleton] at ht; subst ht; exact hk') hc
  refine ⟨x1 ++ ([.bool b1, .slice A1 n1 c1, .bool b2, .slice A2 n2 c2] ++ x2), sp, by simpa using hB', ?_⟩
  rw [List.set_eq_take_append_cons_drop, if_pos hk]
  have h3 : Ch (FrR w') ([.bool b1, .slice A1 n1 c1, .bool b2, .slice A2 n2 c2] ++ x2) (q :: l.drop (k + 1)) := ⟨_, x2, rfl, ⟨b1, A1, n1, c1, b2, A2, n2, c2, rfl, hv'⟩, f.mono hm⟩
  exact Ch.append h3 (a.mono hm)
theorem Row.of_own {w : World} {base : Nat} {A : Option Addr} {n c : Nat} {l : List Rat} {xs : List Value} (h : w.ownsRow base tFrac 4 (.slice A n c) n xs) (hc : Ch (FrR w) xs l) (hn : 0 < n) : ∃ g, A = some ⟨g, 0, none⟩ ∧ base ≤ g ∧ n ≤ c ∧ c ≤ maxLen ∧ Row w g l := by
  rcases h.2 with ⟨_, h0⟩ | ⟨g, cap, cur, e, hb, hh, hcap, hm, _, hx⟩
  · omega
  · injection e with e1 _ e2
    subst e1 e2
    refine ⟨g, rfl, hb, hcap, hm, xs, cur.toList.drop (n * 4), ?_, hc⟩
    rw [← hx, List.take_append_drop]
    simpa [Blk] using hh
/-- m rows, each in a block of its own -/
def Rows (w : World) (base n m : Nat) (g cp : Nat → Nat) (f : Nat → List Rat) : Prop :=
  (∀ i, i < m → ∀ j, j < m → g i = g j → i = j) ∧ ∀ i, i < m → base ≤ g i ∧ (f i).length = n ∧ n ≤ cp i ∧ cp i ≤ maxLen ∧ Row w (g i) (f i)
/-- the slices of the rows -/
def heads (n m : Nat) (g cp : Nat → Nat) : List Value := (List.range m).map fun i => .slice (some ⟨g i, 0, none⟩) n (cp i)
theorem heads_get {n m i : Nat} {g cp : Nat → Nat} (h : i < m) : (heads n m g cp)[i]? = some (.slice (some ⟨g i, 0, none⟩) n (cp i)) := by simp [heads, h]
theorem heads_length (n m : Nat) (g cp : Nat → Nat) : (heads n m g cp).length = m := by simp [heads]
theorem heads_set {n m i : Nat} {g cp : Nat → Nat} (G C : Nat) : (heads n m g cp).set i (.slice (some ⟨G, 0, none⟩) n C) = heads n m (fun j => if j = i then G else g j) (fun j => if j = i then C else cp j) := by
  apply List.ext_getElem?
  intro j
  rw [List.getElem?_set]
  by_cases hj : j < m
  · rw [heads_length]
    by_cases e : i = j
    · subst e; rw [if_pos rfl, if_pos hj, heads_get hj, if_pos rfl, if_pos rfl]
    · rw [if_neg e, heads_get hj, heads_get hj, if_neg (Ne.symm e), if_neg (Ne.symm e)]
  · rw [List.getElem?_eq_none (by rw [heads_length]; omega)]
    by_cases e : i = j
    · subst e; simp [heads_length, hj]
    · rw [if_neg e, List.getElem?_eq_none (by rw [heads_length]; omega)]
theorem heads_succ (n m : Nat) (g cp : Nat → Nat) : heads n (m + 1) g cp = heads n m g cp ++ [.slice (some ⟨g m, 0, none⟩) n (cp m)] := by simp [heads, List.range_succ]
theorem heads_congr {n m : Nat} {g cp g' cp' : Nat → Nat} (h : ∀ i, i < m → g i = g' i ∧ cp i = cp' i) : heads n m g cp = heads n m g' cp' := by
  apply List.map_congr_left
  intro i hi
  have := h i (by simpa using hi)
  rw [this.1, this.2]
section
variable {w w' : World} {base n m : Nat} {g cp : Nat → Nat} {f : Nat → List Rat}
theorem Rows.keep (h : Rows w base n m g cp f) (hb : ∀ i, i < m → w'.heap[g i]? = w.heap[g i]?) (hk : Kept tU64 w w') : Rows w' base n m g cp f :=
  ⟨h.1, fun i hi => ⟨(h.2 i hi).1, (h.2 i hi).2.1, (h.2 i hi).2.2.1, (h.2 i hi).2.2.2.1, (h.2 i hi).2.2.2.2.keep (hb i hi) hk⟩⟩
theorem Rows.ext (h : Rows w base n m g cp f) (hx : Ext w w') : Rows w' base n m g cp f := h.keep (fun i hi => hx.block _ (h.2 i hi).2.2.2.2.lt) (.of_below hx)
theorem Rows.only (h : Rows w base n m g cp f) {k : Nat} (ho : Only k w w') (hne : ∀ i, i < m → g i ≠ k) (hk : Kept tU64 w w') : Rows w' base n m g cp f :=
  h.keep (fun i hi => ho.block _ (h.2 i hi).2.2.2.2.lt (by simpa using hne i hi)) hk
theorem Rows.low (h : Rows w base n m g cp f) {k : Nat} (ho : Only k w w') (hl : k < base) (hk : Kept tU64 w w') : Rows w' base n m g cp f :=
  h.only ho (fun i hi e => by have := (h.2 i hi).1; omega) hk
/-- one row was written -/
theorem Rows.put (h : Rows w base n m g cp f) {i : Nat} {l : List Rat} (ho : Only (g i) w w') (hi : i < m) (hk : Kept tU64 w w') (hr : Row w' (g i) l) (hl : l.length = n) : Rows w' base n m g cp (fun j => if j = i then l else f j) := by
  refine ⟨h.1, fun j hj => ?_⟩
  obtain ⟨h1, h2, h3, h4, h5⟩ := h.2 j hj
  by_cases e : j = i
  · subst e
    simp only [if_pos]
    exact ⟨h1, hl, h3, h4, hr⟩
  · simp only [if_neg e]
    exact ⟨h1, h2, h3, h4, h5.only ho (fun e' => e (h.1 j hj i hi e')) hk⟩
/-- one more row, or another in its place -/
theorem Rows.new (h : Rows w base n m g cp f) {m' i G C : Nat} {l : List Rat} (hm : ∀ j, j < m' → j ≠ i → j < m) (hb : base ≤ G) (hl : l.length = n) (h1 : n ≤ C) (h2 : C ≤ maxLen) (hr : Row w G l) (hne : ∀ j, j < m → j ≠ i → g j ≠ G) : Rows w base n m' (fun j => if j = i then G else g j) (fun j => if j = i then C else cp j) (fun j => if j = i then l else f j) := by
  refine ⟨fun a ha b hb' e => ?_, fun j hj => ?_⟩
  · simp only at e
    by_cases ea : a = i
    · by_cases eb : b = i
      · rw [ea, eb]
      · rw [if_pos ea, if_neg eb] at e
        exact absurd e.symm (hne b (hm b hb' eb) eb)
    · by_cases eb : b = i
      · rw [if_neg ea, if_pos eb] at e
        exact absurd e (hne a (hm a ha ea) ea)
      · rw [if_neg ea, if_neg eb] at e
        exact h.1 a (hm a ha ea) b (hm b hb' eb) e
  · by_cases e : j = i
    · subst e
      simp only [if_pos]
      exact ⟨hb, hl, h1, h2, hr⟩
    · simp only [if_neg e]
      exact h.2 j (hm j hj e)
theorem Rows.congr (h : Rows w base n m g cp f) {f' : Nat → List Rat} (e : ∀ i, i < m → f i = f' i) : Rows w base n m g cp f' := ⟨h.1, fun i hi => by rw [← e i hi]; exact h.2 i hi⟩
theorem Rows.nil {f : Nat → List Rat} : Rows w base n 0 g cp f := ⟨fun i hi => by omega, fun i hi => by omega⟩
theorem Rows.lt (h : Rows w base n m g cp f) {i : Nat} (hi : i < m) : g i < w.heap.size := (h.2 i hi).2.2.2.2.lt
/-- rows and their heads are a list of lists -/
theorem Rows.gl (h : Rows w base n m g cp f) {gS : Nat} (hB : Blk w gS tFracs (heads n m g cp)) (hm : m ≤ 1000) : GL w (.slice (some ⟨gS, 0, none⟩) m m) ((List.range m).map f) := by
  refine ⟨some ⟨gS, 0, none⟩, m, heads n m g cp, by simp, by simp, by unfold maxLen; omega, (fun h => by cases h), hB.sl 0, ?_⟩
  have go : ∀ k, k ≤ m → Ch (GR w) (heads n k g cp) ((List.range k).map f) := by
    intro k
    induction k with
    | zero => intro _; rfl
    | succ k ih =>
      intro hk
      rw [heads_succ, List.range_succ, List.map_append]
      obtain ⟨h1, h2, h3, h4, xs, sp, h5, h6⟩ := h.2 k (by omega)
      refine Ch.snoc ⟨some ⟨g k, 0, none⟩, cp k, by rw [h2], some ⟨g k, 0, none⟩, cp k, xs, rfl, by rw [h2]; exact h3, h4, (fun h => by cases h), ?_, h6⟩ (ih (by omega))
      intro j u hu
      exact h5.sl 0 j u (by rw [List.drop_zero, List.getElem?_append_left (by
        rcases Nat.lt_or_ge j xs.length with hj | hj
        · exact hj
        · rw [List.getElem?_eq_none hj] at hu; cases hu)]; exact hu)
  exact go m (Nat.le_refl _)
end
theorem range_set (m i : Nat) (f : Nat → Rat) (v : Rat) : ((List.range m).map f).set i v = (List.range m).map (fun j => if j = i then v else f j) := by
  apply List.ext_getElem?
  intro j
  rw [List.getElem?_set]
  by_cases hj : j < m
  · by_cases e : i = j
    · subst e; simp [hj]
    · simp [hj, e, Ne.symm e]
  · by_cases e : i = j
    · subst e; simp [hj]
    · simp [hj, e]
/-- the weights of the points that belong to a centre -/
def wsum (l : List Pt) (cs : List (List Rat)) (i : Nat) : Rat := l.foldl (fun s x => if (near x.1 cs).1 = (i : Int) then s + x.2 else s) 0
/-- a number of the sum of these points -/
def ssum (l : List Pt) (cs : List (List Rat)) (i k : Nat) : Rat := l.foldl (fun s x => if (near x.1 cs).1 = (i : Int) then s + x.2 * x.1.getD k 0 else s) 0
theorem wsum_next {l : List Pt} {cs : List (List Rat)} {t : Nat} (h : t < l.length) (i : Nat) : wsum (l.take (t + 1)) cs i = if (near l[t].1 cs).1 = (i : Int) then wsum (l.take t) cs i + l[t].2 else wsum (l.take t) cs i := by
  unfold wsum
  rw [List.take_succ_eq_append_getElem h, List.foldl_append]
  rfl
theorem ssum_next {l : List Pt} {cs : List (List Rat)} {t : Nat} (h : t < l.length) (i k : Nat) : ssum (l.take (t + 1)) cs i k = if (near l[t].1 cs).1 = (i : Int) then ssum (l.take t) cs i k + l[t].2 * l[t].1.getD k 0 else ssum (l.take t) cs i k := by
  unfold ssum
  rw [List.take_succ_eq_append_getElem h, List.foldl_append]
  rfl
/-- a step -/
def stepF (n : Nat) (l : List Pt) (cs : List (List Rat)) : List (List Rat) := (List.range cs.length).map fun i => if wsum l cs i = 0 then cs.getD i [] else (List.range n).map fun k => ssum l cs i k / wsum l cs i
theorem wsum_fit {n : Nat} {l : List Pt} {cs : List (List Rat)} (h : Good n l cs) (i : Nat) : ∀ t, t ≤ l.length → FitQ (1 + t * 401) (wsum (l.take t) cs i)
  | 0, _ => zero_fit (by decide)
  | t + 1, ht => by
    have h1 := wsum_fit h i t (by omega)
    rw [wsum_next (by omega)]
    split
    · exact (h1.add (h.wf l[t] (by simp))).mono (by omega)
    · exact h1.mono (by omega)
theorem getD_fit {e : Nat} (he : 1 ≤ e) {p : List Rat} (h : ∀ q ∈ p, FitQ e q) (k : Nat) : FitQ e (p.getD k 0) := by
  rcases Nat.lt_or_ge k p.length with hk | hk
  · rw [List.getD_eq_getElem?_getD, List.getElem?_eq_getElem hk]; exact h _ (List.getElem_mem hk)
  · rw [List.getD_eq_getElem?_getD, List.getElem?_eq_none hk]; exact zero_fit he
theorem ssum_fit {n : Nat} {l : List Pt} {cs : List (List Rat)} (h : Good n l cs) (i k : Nat) : ∀ t, t ≤ l.length → FitQ (1 + t * 801) (ssum (l.take t) cs i k)
  | 0, _ => zero_fit (by decide)
  | t + 1, ht => by
    have h1 := ssum_fit h i k t (by omega)
    rw [ssum_next (by omega)]
    split
    · exact (h1.add ((h.wf l[t] (by simp)).mul (getD_fit (by decide) (h.pf l[t] (by simp)) k))).mono (by omega)
    · exact h1.mono (by omega)
theorem pos_of_num {q : Rat} (h : 0 < q.num) : 0 < q := by
  rw [Rat.lt_iff]
  simpa using h
theorem wsum_nonneg {n : Nat} {l : List Pt} {cs : List (List Rat)} (h : Good n l cs) (i : Nat) : ∀ t, t ≤ l.length → 0 ≤ wsum (l.take t) cs i
  | 0, _ => by show (0 : Rat) ≤ 0; exact Rat.le_refl
  | t + 1, ht => by
    have h1 := wsum_nonneg h i t (by omega)
    rw [wsum_next (by omega)]
    split
    · have h2 := pos_of_num (h.wp l[t] (by simp))
      exact Rat.add_nonneg h1 (Rat.le_of_lt h2)
    · exact h1
end Go.Proofs.YtlfcicfebhjchaaGreatDoor
