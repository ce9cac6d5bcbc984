/- Plain laws of machines: what one is worth; exchanged features, turned signs, sums of inputs; rounding. -/
import Derived.Test.YtemnoemjmeflbaaGreatDoorMkR
namespace Go.Proofs.YtemnoemjmeflbaaGreatDoor
open Go.RowKit Go.Lib

/-- a product of features with its coefficient -/
abbrev Tm := List Int × Rat
/-- the powers of one or two features -/
def e1 (i : Nat) : List Int := [0, 0, 0].set i 1
def e2 (i j : Nat) : List Int := (e1 i).set j 1
def dot (a b : List Rat) : Rat := (a.zip b).foldl (fun s x => s + x.1 * x.2) 0
/-- a machine: constant, coefficients, vectors -/
def row (lin : List Rat) (fac : List (List Rat)) (i j : Nat) : List Tm := (e1 i, lin.getD i 0) :: (List.range (j - (i + 1))).map fun k => (e2 i (i + 1 + k), dot (fac.getD i []) (fac.getD (i + 1 + k) []))
def termsF (c : Rat) (lin : List Rat) (fac : List (List Rat)) (i : Nat) : List Tm := ([0, 0, 0], c) :: (List.range i).flatMap fun i => row lin fac i lin.length
/-- what a product is worth, the first i inputs read -/
def evalF (x : List Rat) (t : Tm) : Nat → Rat
  | 0 => t.2
  | i + 1 => if t.1.getD i 0 = 1 then evalF x t i * x.getD i 0 else evalF x t i
def scoreF (x : List Rat) (l : List Tm) : Rat := l.foldl (fun s t => s + evalF x t x.length) 0
theorem evalF_zero (x : List Rat) {t : Tm} (h : t.2 = 0) : ∀ i, evalF x t i = 0
  | 0 => h
  | i + 1 => by
    rw [evalF, evalF_zero x h i]
    split <;> grind
theorem scoreF_drop' (x : List Rat) (l : List Tm) (s : Rat) : (l.filter fun t => decide (t.2 ≠ 0)).foldl (fun s t => s + evalF x t x.length) s = l.foldl (fun s t => s + evalF x t x.length) s := by
  induction l generalizing s with
  | nil => rfl
  | cons t l ih =>
    by_cases h : t.2 = 0
    · rw [List.filter_cons_of_neg (by simp [h]), List.foldl_cons, evalF_zero x h, ih]
      congr 1
      grind
    · rw [List.filter_cons_of_pos (by simp [h]), List.foldl_cons, List.foldl_cons, ih]
theorem scoreF_drop (x : List Rat) (l : List Tm) : scoreF x (l.filter fun t => decide (t.2 ≠ 0)) = scoreF x l := scoreF_drop' x l 0
theorem score1 (c a x : Rat) (f : List Rat) : scoreF [x] (termsF c [a] [f] 1) = c + a * x := by
  simp [scoreF, termsF, row, evalF, e1, e2, List.range_succ]
  grind
theorem score2 (c a b x y : Rat) (f g : List Rat) : scoreF [x, y] (termsF c [a, b] [f, g] 2) = c + a * x + dot f g * x * y + b * y := by
  simp [scoreF, termsF, row, evalF, e1, e2, List.range_succ]
  grind
theorem score3 (c a b d x y z : Rat) (f g h : List Rat) : scoreF [x, y, z] (termsF c [a, b, d] [f, g, h] 3) = c + a * x + dot f g * x * y + dot f h * x * z + b * y + dot g h * y * z + d * z := by
  simp [scoreF, termsF, row, evalF, e1, e2, List.range_succ]
  grind
/-- what a machine is worth -/
def sc (c : Rat) (lin : List Rat) (fac : List (List Rat)) (x : List Rat) : Rat := scoreF x (termsF c lin fac lin.length)
theorem dot_comm (a b : List Rat) : dot a b = dot b a := by
  unfold dot
  generalize (0 : Rat) = s
  induction a generalizing b s with
  | nil => simp
  | cons p a ih =>
    cases b with
    | nil => simp
    | cons q b =>
      rw [List.zip_cons_cons, List.zip_cons_cons, List.foldl_cons, List.foldl_cons, ih]
      congr 1
      grind
def pick {α : Type} (d : α) (l : List α) (ks : List Int) : List α := ks.map fun z => l.getD z.toNat d
theorem turn1 (c a x : Rat) (f : List Rat) (ks : List Int) (h : ks.Perm [0]) : sc c (pick 0 [a] ks) (pick [] [f] ks) (pick 0 [x] ks) = sc c [a] [f] [x] := by
  have e := List.perm_singleton.1 h
  subst e
  rfl
theorem turn2 (c a b x y : Rat) (f g : List Rat) (ks : List Int) (h : ks.Perm [0, 1]) : sc c (pick 0 [a, b] ks) (pick [] [f, g] ks) (pick 0 [x, y] ks) = sc c [a, b] [f, g] [x, y] := by
  have hn : ks.Nodup := h.nodup_iff.2 (by decide)
  have hm : ∀ z ∈ ks, z = 0 ∨ z = 1 := fun z hz => by simpa using h.mem_iff.1 hz
  have hl := h.length_eq
  match ks, hl with
  | [p, q], _ =>
    have hp := hm p (by simp)
    have hq := hm q (by simp)
    have hd := dot_comm f g
    rcases hp with rfl | rfl <;> rcases hq with rfl | rfl <;> first | (simp at hn; done) | (simp only [pick, List.map_cons, List.map_nil, sc, List.length_cons, List.length_nil]; simp [score2]; try grind)
theorem turn3 (c a b d x y z : Rat) (f g e : List Rat) (ks : List Int) (h : ks.Perm [0, 1, 2]) : sc c (pick 0 [a, b, d] ks) (pick [] [f, g, e] ks) (pick 0 [x, y, z] ks) = sc c [a, b, d] [f, g, e] [x, y, z] := by
  have hn : ks.Nodup := h.nodup_iff.2 (by decide)
  have hm : ∀ z ∈ ks, z = 0 ∨ z = 1 ∨ z = 2 := fun z hz => by simpa using h.mem_iff.1 hz
  have hl := h.length_eq
  match ks, hl with
  | [p, q, r], _ =>
    have hp := hm p (by simp)
    have hq := hm q (by simp)
    have hr := hm r (by simp)
    have h1 := dot_comm f g
    have h2 := dot_comm f e
    have h3 := dot_comm g e
    rcases hp with rfl | rfl | rfl <;> rcases hq with rfl | rfl | rfl <;> rcases hr with rfl | rfl | rfl <;> first | (simp at hn; done) | (simp only [pick, List.map_cons, List.map_nil, sc, List.length_cons, List.length_nil]; simp [score3]; try grind)
/-- the first numbers of vectors, their signs turned -/
def minus0 : List Rat → List Rat
  | [] => []
  | a :: l => -a :: l
theorem dot_minus (a b : List Rat) : dot (minus0 a) (minus0 b) = dot a b := by
  unfold dot
  cases a with
  | nil => rfl
  | cons p a =>
    cases b with
    | nil => rfl
    | cons q b =>
      simp only [minus0, List.zip_cons_cons, List.foldl_cons]
      congr 1
      grind
theorem sc_turn {n : Nat} (h1 : 1 ≤ n) (h3 : n ≤ 3) {c : Rat} {lin x : List Rat} {fac : List (List Rat)} {ks : List Int} (hl : lin.length = n) (hf : fac.length = n) (hx : x.length = n) (hk : ks.Perm ((List.range n).map Int.ofNat)) : sc c (pick 0 lin ks) (pick [] fac ks) (pick 0 x ks) = sc c lin fac x := by
  match n, lin, fac, x, h1, h3, hl, hf, hx, hk with
  | 1, [a], [f], [x], _, _, _, _, _, hk => exact turn1 c a x f ks hk
  | 2, [a, b], [f, g], [x, y], _, _, _, _, _, hk => exact turn2 c a b x y f g ks hk
  | 3, [a, b, d], [f, g, e], [x, y, z], _, _, _, _, _, hk => exact turn3 c a b d x y z f g e ks hk
theorem sc_minus {n : Nat} (h1 : 1 ≤ n) (h3 : n ≤ 3) {c : Rat} {lin x : List Rat} {fac : List (List Rat)} (hl : lin.length = n) (hf : fac.length = n) (hx : x.length = n) : sc c lin (fac.map minus0) x = sc c lin fac x := by
  match n, lin, fac, x, h1, h3, hl, hf, hx with
  | 1, [a], [f], [x], _, _, _, _, _ => simp [sc, score1]
  | 2, [a, b], [f, g], [x, y], _, _, _, _, _ => simp [sc, score2, dot_minus]
  | 3, [a, b, d], [f, g, e], [x, y, z], _, _, _, _, _ => simp [sc, score3, dot_minus]
theorem dot_nil : dot [] [] = 0 := rfl
theorem sc_linear {n : Nat} (h1 : 1 ≤ n) (h3 : n ≤ 3) {c : Rat} {lin x y : List Rat} {fac : List (List Rat)} (hl : lin.length = n) (hf : fac.length = n) (hx : x.length = n) (hy : y.length = n) (h0 : ∀ f ∈ fac, f = []) : sc c lin fac (List.zipWith (· + ·) x y) = sc c lin fac x + sc c lin fac y - c := by
  match n, lin, fac, x, y, h1, h3, hl, hf, hx, hy, h0 with
  | 1, [a], [f], [x], [y], _, _, _, _, _, _, _ =>
    simp [sc, score1]
    grind
  | 2, [a, b], [f, g], [x, x'], [y, y'], _, _, _, _, _, _, h0 =>
    have e1 := h0 f (by simp)
    have e2 := h0 g (by simp)
    subst e1 e2
    simp [sc, score2, dot_nil]
    grind
  | 3, [a, b, d], [f, g, e], [x, x', x''], [y, y', y''], _, _, _, _, _, _, h0 =>
    have e1 := h0 f (by simp)
    have e2 := h0 g (by simp)
    have e3 := h0 e (by simp)
    subst e1 e2 e3
    simp [sc, score3, dot_nil]
    grind
def rnd (x : Rat) (s : Int) : Rat := ((x * (s : Rat) + 1 / 2).floor : Rat) / (s : Rat)
theorem cast_ne {s : Int} (h : 0 < s) : ¬ (s : Rat) = 0 := fun e => by
  have := Rat.intCast_inj.1 (show ((s : Int) : Rat) = ((0 : Int) : Rat) from e)
  omega
theorem rnd_mul {x : Rat} {s : Int} (h : 0 < s) : rnd x s * (s : Rat) = ((x * (s : Rat) + 1 / 2).floor : Rat) := by
  unfold rnd
  rw [Rat.div_mul_cancel (cast_ne h)]
theorem floor_half (z : Int) : ((z : Rat) + 1 / 2).floor = z := by
  have h1 : (z : Rat) ≤ (z : Rat) + 1 / 2 := by grind
  have h2 := Rat.le_floor_iff.2 h1
  have h3 := Rat.floor_le (a := (z : Rat) + 1 / 2)
  have h4 : (((z : Rat) + 1 / 2).floor : Rat) < ((z + 1 : Int) : Rat) := by rw [Rat.intCast_add]; grind
  have h5 := Rat.intCast_lt_intCast.1 h4
  omega
theorem rnd_again {x : Rat} {s : Int} (h : 0 < s) : rnd (rnd x s) s = rnd x s := by
  have h1 := rnd_mul (x := x) h
  rw [show rnd (rnd x s) s = ((rnd x s * (s : Rat) + 1 / 2).floor : Rat) / (s : Rat) from rfl, h1, floor_half]
  rfl
theorem rnd_up {x : Rat} {s : Int} (h : 0 < s) : (rnd x s - x) * (s : Rat) * 2 - 1 ≤ 0 := by
  have h1 := rnd_mul (x := x) h
  have h2 := Rat.floor_le (a := x * (s : Rat) + 1 / 2)
  rw [← h1] at h2
  grind
theorem rnd_down {x : Rat} {s : Int} (h : 0 < s) : 0 < (rnd x s - x) * (s : Rat) * 2 + 1 := by
  have h1 := rnd_mul (x := x) h
  have h2 := Rat.lt_floor_add_one (a := x * (s : Rat) + 1 / 2)
  rw [Rat.intCast_add, ← h1] at h2
  grind
end Go.Proofs.YtemnoemjmeflbaaGreatDoor
