/- cluster.nearest. -/
import Derived.Test.YtkhmfgkbobblmaaGreatDoorBox
namespace Go.Proofs.YtkhmfgkbobblmaaGreatDoor
open Go.RowKit Go.Lib

/-- the nearer one -/
def nearer (b : Int × Rat) (i : Nat) (d : Rat) : Int × Rat := if b.1 < 0 ∨ d < b.2 then ((i : Int), d) else b
theorem nearer_pos {b : Int × Rat} {i : Nat} {d : Rat} (h : b.1 < 0 ∨ d < b.2) : nearer b i d = ((i : Int), d) := if_pos h
theorem nearer_neg {b : Int × Rat} {i : Nat} {d : Rat} (h : ¬ (b.1 < 0 ∨ d < b.2)) : nearer b i d = b := if_neg h
/-- the nearest so far: its number, and how far it is -/
def nearF (p : List Rat) : List (List Rat) → Nat → Int × Rat → Int × Rat
  | [], _, b => b
  | c :: r, i, b => nearF p r (i + 1) (nearer b i (dist p c))
def near (p : List Rat) (cs : List (List Rat)) : Int × Rat := nearF p cs 0 (-1, 0)
theorem nearF_snoc (p c : List Rat) : ∀ (l : List (List Rat)) (i : Nat) (b : Int × Rat), nearF p (l ++ [c]) i b = nearer (nearF p l i b) (i + l.length) (dist p c)
  | [], i, b => rfl
  | d :: l, i, b => by
    rw [List.cons_append, nearF, nearF_snoc p c l (i + 1), nearF, List.length_cons, show i + 1 + l.length = i + (l.length + 1) by omega]
theorem near_next {p : List Rat} {cs : List (List Rat)} {k : Nat} (h : k < cs.length) : near p (cs.take (k + 1)) = nearer (near p (cs.take k)) k (dist p cs[k]) := by
  unfold near
  rw [List.take_succ_eq_append_getElem h, nearF_snoc, List.length_take, Nat.min_eq_left (by omega), Nat.zero_add]
theorem zero_fit {e : Nat} (h : 1 ≤ e) : FitQ e 0 := (show FitQ 1 (0 : Rat) from ⟨by decide, by decide⟩).mono h
theorem near_fit {p : List Rat} {cs : List (List Rat)} (hl : ∀ c ∈ cs, c.length = p.length) (hn : p.length ≤ 3) (fp : ∀ q ∈ p, FitQ 400 q) (fc : ∀ c ∈ cs, ∀ q ∈ c, FitQ 400 q) : ∀ k, k ≤ cs.length → FitQ 5000 (near p (cs.take k)).2
  | 0, _ => zero_fit (e := 5000) (by decide)
  | k + 1, h => by
    have h1 := near_fit hl hn fp fc k (by omega)
    rw [near_next (by omega)]
    by_cases hc : (near p (cs.take k)).1 < 0 ∨ dist p cs[k] < (near p (cs.take k)).2
    · rw [nearer_pos hc]
      exact dist_fit (hl cs[k] (by simp)).symm hn fp (fc cs[k] (by simp))
    · rw [nearer_neg hc]
      exact h1
theorem near_lt (p : List Rat) (cs : List (List Rat)) : ∀ k, k ≤ cs.length → -1 ≤ (near p (cs.take k)).1 ∧ (near p (cs.take k)).1 < k
  | 0, _ => by show (-1 : Int) ≤ -1 ∧ (-1 : Int) < 0; omega
  | k + 1, h => by
    have h1 := near_lt p cs k (by omega)
    rw [near_next (by omega)]
    by_cases hc : (near p (cs.take k)).1 < 0 ∨ dist p cs[k] < (near p (cs.take k)).2
    · rw [nearer_pos hc]; show (-1 : Int) ≤ (k : Int) ∧ (k : Int) < ((k + 1 : Nat) : Int); omega
    · rw [nearer_neg hc]; omega
theorem results_tmp_cell {fn : Func} {u p : Tmp} {ty : TypeId} (h : fn.results = #[.tmp u, .cell p ty]) (tmps : Array Value) {P : Program} (w : World) (g : Nat) (v : Value) (hp : tmps.getD p undef = .pointer (some ⟨g, 0, none⟩)) (hl : (loadVar ty ⟨g, 0, none⟩).run P w = .ok v w) :
    (results fn tmps).run P w = .ok (.tuple #[tmps.getD u undef, v]) w := by
  have hp' : tmps[p]?.getD undef = .pointer (some ⟨g, 0, none⟩) := by simpa using hp
  simp [results, h, hp', asAddr, hl]
theorem ret_int_frac {fn : Func} {t u g : Nat} {w : World} {q : Rat} {a : Act} {R : Ending → World → Prop} (hres : fn.results = #[.tmp u, .cell t tFrac]) (ht : a.tmps.getD t undef = .pointer (some ⟨g, 0, none⟩)) (hd : a.defers = [])
    (hB : Box w g q) (hR : ∀ b A n c b' A' n' c', FracV w (.agg #[.bool b, .slice A n c, .bool b', .slice A' n' c']) q → R (.returned (.tuple #[a.tmps.getD u undef, .agg #[.bool b, .slice A n c, .bool b', .slice A' n' c']])) w) : bodyPost Tryz.prog fn R .ret a w := by
  obtain ⟨b, A, n, c, b', A', n', c', h1, h2⟩ := hB
  exact bodyPost_ret (results_tmp_cell hres a.tmps w g _ ht (run_loadVar_row w g tFrac tFrac #[.bool b, .slice A n c, .bool b', .slice A' n' c'] (0, 0) _ h1 Tryz.underlying78 rfl (by kernel_rfl))) hd (hR _ _ _ _ _ _ _ _ h2)
end Go.Proofs.YtkhmfgkbobblmaaGreatDoor
