/- joinlearnmake: Schema. -/
import Derived.Test.YthalpbjkkfkheaaGreatDoorSb
import Derived.Test.YthalpbjkkfkheaaGreatDoorLit
namespace Go.Proofs.YthalpbjkkfkheaaGreatDoor
open Go.RowKit Go.Lib

/-- attributes as they are made -/
def AttsI (l : List Att) : Prop := ∀ i (h : i < l.length), l[i].1 = [97, UInt8.ofNat (97 + i)] ∧ 1 ≤ l[i].2 ∧ l[i].2 ≤ 3
theorem AttsI.snoc {l : List Att} {k : Int} (h : AttsI l) (h1 : 1 ≤ k) (h3 : k ≤ 3) : AttsI (l ++ [([97, UInt8.ofNat (97 + l.length)], k)]) := by
  intro i hi
  rcases Nat.lt_or_ge i l.length with h' | h'
  · rw [List.getElem_append_left h']
    exact h i h'
  · have : i = l.length := by rw [List.length_append, List.length_singleton] at hi; omega
    subst this
    rw [List.getElem_append_right (Nat.le_refl _)]
    simp only [Nat.sub_self, List.getElem_singleton]
    exact ⟨trivial, h1, h3⟩
/-- relations as they are made, over n attributes -/
def RelsI (n : Nat) (l : List Rl) : Prop := ∀ i (h : i < l.length), l[i].1 = [114, UInt8.ofNat (97 + i)] ∧ l[i].2 ≠ [] ∧ (∀ a ∈ l[i].2, 0 ≤ a ∧ a < (n : Int)) ∧ l[i].2.Pairwise (· < ·)
theorem RelsI.mono {n m : Nat} {l : List Rl} (h : RelsI n l) (hm : n ≤ m) : RelsI m l := fun i hi => by
  obtain ⟨h1, h2, h3, h4⟩ := h i hi
  exact ⟨h1, h2, fun a ha => by have := h3 a ha; omega, h4⟩
theorem RelsI.snoc {n : Nat} {l : List Rl} {x : List Int} (h : RelsI n l) (h1 : x ≠ []) (h2 : ∀ a ∈ x, 0 ≤ a ∧ a < (n : Int)) (h3 : x.Pairwise (· < ·)) : RelsI n (l ++ [([114, UInt8.ofNat (97 + l.length)], x)]) := by
  intro i hi
  rcases Nat.lt_or_ge i l.length with h' | h'
  · rw [List.getElem_append_left h']
    exact h i h'
  · have : i = l.length := by rw [List.length_append, List.length_singleton] at hi; omega
    subst this
    rw [List.getElem_append_right (Nat.le_refl _)]
    simp only [Nat.sub_self, List.getElem_singleton]
    exact ⟨trivial, h1, h2, h3⟩
/-- all attributes from n0 on are among x, or some relation has them -/
def UsedI (n : Nat) (l : List Rl) : Prop := ∀ a : Nat, a < n → ∃ r ∈ l, (a : Int) ∈ r.2
/-- a relation's attributes so far: ascending, below n, all from n0 on -/
structure LI (n0 n : Nat) (l : List Int) : Prop where
  asc : l.Pairwise (· < ·)
  rng : ∀ a ∈ l, 0 ≤ a ∧ a < (n : Int)
  all : ∀ a : Nat, n0 ≤ a → a < n → (a : Int) ∈ l
  len : l.length ≤ n
theorem LI.nil : LI 0 0 [] := ⟨List.Pairwise.nil, (fun a h => by cases h), (fun a _ h => by omega), Nat.le_refl _⟩
theorem LI.snoc {n0 n : Nat} {l : List Int} (h : LI n0 n l) : LI n0 (n + 1) (l ++ [(n : Int)]) := by
  refine ⟨List.pairwise_append.2 ⟨h.asc, List.pairwise_singleton _ _, fun a ha b hb => ?_⟩, fun a ha => ?_, fun a h1 h2 => ?_, by rw [List.length_append, List.length_singleton]; have := h.len; omega⟩
  · rw [List.mem_singleton.1 hb]
    exact (h.rng a ha).2
  · rcases List.mem_append.1 ha with ha | ha
    · have := h.rng a ha; omega
    · rw [List.mem_singleton.1 ha]; omega
  · rcases Nat.lt_or_ge a n with h3 | h3
    · exact List.mem_append.2 (.inl (h.all a h1 h3))
    · obtain rfl : a = n := by omega
      exact List.mem_append.2 (.inr (List.mem_singleton.2 rfl))
theorem LI.skip {n0 n : Nat} {l : List Int} (h : LI n0 n l) (hn : n < n0) : LI n0 (n + 1) l :=
  ⟨h.asc, fun a ha => by have := h.rng a ha; omega, fun a h1 h2 => by omega, by have := h.len; omega⟩
theorem LI.start (n0 : Nat) : LI n0 0 [] := ⟨List.Pairwise.nil, (fun a h => by cases h), (fun a _ h => by omega), Nat.le_refl _⟩
/-- features as they are made: of the attributes before j -/
structure FI (atts : List Att) (j : Nat) (feats : List Fe) (label : Int) : Prop where
  rng : ∀ f ∈ feats, f.1 < (j : Int)
  ok : ∀ f ∈ feats, FeOk atts f
  asc : feats.Pairwise fun f h => f.1 < h.1
  len : feats.length ≤ j
  ne : ∀ f ∈ feats, f.1 ≠ label
  lb : label = -1 ∨ ∃ q : Nat, label = (q : Int) ∧ q < j ∧ ∃ a, atts[q]? = some a ∧ a.2 = 2
theorem FI.start (atts : List Att) : FI atts 0 [] (-1) := ⟨(fun f h => by cases h), (fun f h => by cases h), List.Pairwise.nil, Nat.le_refl _, (fun f h => by cases h), .inl rfl⟩
theorem FI.skip {atts : List Att} {j : Nat} {feats : List Fe} {label : Int} (h : FI atts j feats label) : FI atts (j + 1) feats label :=
  ⟨fun f hf => by have := h.rng f hf; omega, h.ok, h.asc, by have := h.len; omega, h.ne, h.lb.imp id fun ⟨q, h1, h2, h3⟩ => ⟨q, h1, by omega, h3⟩⟩
theorem FI.label {atts : List Att} {j : Nat} {feats : List Fe} {label : Int} (h : FI atts j feats label) {a : Att} (ha : atts[j]? = some a) (h2 : a.2 = 2) : FI atts (j + 1) feats j :=
  ⟨fun f hf => by have := h.rng f hf; omega, h.ok, h.asc, by have := h.len; omega, fun f hf => by have := h.rng f hf; omega, .inr ⟨j, rfl, by omega, a, ha, h2⟩⟩
theorem FI.snoc {atts : List Att} {j : Nat} {feats : List Fe} {label : Int} (h : FI atts j feats label) {k m : Int} {a : Att} (ha : atts[j]? = some a) (hk : (k = 1 ∧ a.2 = 2 ∧ (m = 0 ∨ m = 1)) ∨ (k = 2 ∧ a.2 = 3 ∧ m = 0)) : FI atts (j + 1) (feats ++ [((j : Int), k, m)]) label := by
  refine ⟨fun f hf => ?_, fun f hf => ?_, ?_, by rw [List.length_append, List.length_singleton]; have := h.len; omega, fun f hf => ?_, h.lb.imp id fun ⟨q, h1, h2, h3⟩ => ⟨q, h1, by omega, h3⟩⟩
  · rcases List.mem_append.1 hf with hf | hf
    · have := h.rng f hf; omega
    · rw [List.mem_singleton.1 hf]; show (j : Int) < _; omega
  · rcases List.mem_append.1 hf with hf | hf
    · exact h.ok f hf
    · rw [List.mem_singleton.1 hf]
      exact ⟨by show (0 : Int) ≤ (j : Int); omega, a, ha, hk⟩
  · refine List.pairwise_append.2 ⟨h.asc, List.pairwise_singleton _ _, fun f hf x hx => ?_⟩
    rw [List.mem_singleton.1 hx]
    exact h.rng f hf
  · rcases List.mem_append.1 hf with hf | hf
    · exact h.ne f hf
    · rw [List.mem_singleton.1 hf]
      rcases h.lb with h' | ⟨q, h1, h2, _⟩
      · rw [h']; show (j : Int) ≠ -1; omega
      · rw [h1]; show (j : Int) ≠ (q : Int); omega
theorem ofNat_inj {a b : Nat} (ha : a < 150) (hb : b < 150) (h : UInt8.ofNat (97 + a) = UInt8.ofNat (97 + b)) : a = b := by
  have h := congrArg UInt8.toNat h
  rw [UInt8.toNat_ofNat', UInt8.toNat_ofNat'] at h
  omega
theorem name_word {c : UInt8} (hc : letterB c) {i : Nat} (h : i < 7) : WordT [c, UInt8.ofNat (97 + i)] := by
  refine ⟨by simp, by simp, fun x hx => ?_, fun x hx => ?_⟩
  · simp only [List.getElem?_cons_zero, Option.some.injEq] at hx
    rw [← hx]; exact hc
  · simp only [List.mem_cons, List.not_mem_nil, or_false] at hx
    rcases hx with rfl | rfl
    · exact .inl hc
    · rcases i with _ | _ | _ | _ | _ | _ | _ | i
      all_goals first | omega | decide
theorem made_ok {atts : List Att} {rels : List Rl} {feats : List Fe} {label : Int} (ha : AttsI atts) (hr : RelsI atts.length rels) (hu : UsedI atts.length rels) (hf : FI atts atts.length feats label) (h1 : 1 ≤ atts.length) (h6 : atts.length ≤ 6) (r1 : 1 ≤ rels.length) (r3 : rels.length ≤ 3) : SchOk ⟨atts, rels, feats, label⟩ := by
  refine ⟨h1, by show atts.length ≤ 12; omega, r1, by show rels.length ≤ 6; omega, by show feats.length ≤ 8; have := hf.len; omega, fun a h => ?_, ?_, fun a h => ?_, fun r h => ?_, ?_, fun r h => ?_, fun r h => ?_, fun r h => ?_, hu, hf.ok, ?_, hf.ne, ?_, fun h => ?_⟩
  · obtain ⟨i, hi, rfl⟩ := List.getElem_of_mem h
    have hi' : i < atts.length := hi
    rw [(ha i hi).1]
    exact name_word (by decide) (by omega)
  · refine List.pairwise_iff_getElem.2 fun i j hi hj hij e => ?_
    have hi' : i < atts.length := hi
    have hj' : j < atts.length := hj
    rw [(ha i hi).1, (ha j hj).1] at e
    injection e with _ e
    injection e with e _
    have := ofNat_inj (by omega) (by omega) e
    omega
  · obtain ⟨i, hi, rfl⟩ := List.getElem_of_mem h
    exact (ha i hi).2
  · obtain ⟨i, hi, rfl⟩ := List.getElem_of_mem h
    have hi' : i < rels.length := hi
    rw [(hr i hi).1]
    exact name_word (by decide) (by omega)
  · refine List.pairwise_iff_getElem.2 fun i j hi hj hij e => ?_
    have hi' : i < rels.length := hi
    have hj' : j < rels.length := hj
    rw [(hr i hi).1, (hr j hj).1] at e
    injection e with _ e
    injection e with e _
    have := ofNat_inj (by omega) (by omega) e
    omega
  · obtain ⟨i, hi, rfl⟩ := List.getElem_of_mem h
    exact (hr i hi).2.1
  · obtain ⟨i, hi, rfl⟩ := List.getElem_of_mem h
    exact (hr i hi).2.2.1
  · obtain ⟨i, hi, rfl⟩ := List.getElem_of_mem h
    exact (hr i hi).2.2.2
  · exact hf.asc.imp fun h e => by omega
  · rcases hf.lb with h | ⟨q, e, hq, _⟩
    · show -1 ≤ label ∧ label < atts.length
      omega
    · show -1 ≤ label ∧ label < atts.length
      omega
  · have h' : 0 ≤ label := h
    rcases hf.lb with h0 | ⟨q, e, hq, a, h2, h3⟩
    · omega
    · refine ⟨a, ?_, h3⟩
      show atts[label.toNat]? = some a
      rw [e]
      exact h2
theorem ret_sch {fn : Func} {t g : Nat} {w : World} {x0 x1 x2 x3 : Value} {a : Act} {R : Ending → World → Prop} (hres : fn.results = #[.cell t tSch]) (ht : a.tmps.getD t undef = .pointer (some ⟨g, 0, none⟩)) (hd : a.defers = [])
    (hB : Blk w g tSch [x0, x1, x2, x3]) (hR : R (.returned (.agg #[x0, x1, x2, x3])) w) : bodyPost Tryz.prog fn R .ret a w :=
  bodyPost_ret (results_cell_row hres a.tmps _ g tSch #[x0, x1, x2, x3] (0, 0) _ ht hB Tryz.underlying31 rfl (by kernel_rfl)) hd hR
def slLen : Value → Nat
  | .slice _ n _ => n
  | _ => 0
def zsch : List Value := [.slice none 0 0, .slice none 0 0, .slice none 0 0, .int .i64 0]
set_option maxRecDepth 100000 in
set_option maxHeartbeats 2000000 in
theorem mschema_any (g most : Nat) (w : World) (h : SrcAt w g) (h1 : 1 ≤ most) (h6 : most ≤ 6) :
    Calls Tryz.prog 7 #[.pointer (some ⟨g, 0, none⟩), .int .i64 most] w fun e w' => ∃ x v, SchOk x ∧ x.atts.length ≤ most ∧ x.feats.length ≤ most ∧ e = .returned v ∧ SchV w' v x ∧ SrcAt w' g ∧ Only g w w' := by
  have HS := Lib.hid h
  have hg := h.lt
  clear h
  go_enter Tryz.func7, Tryz.ntmps7
  go_upto_region 2 with fail
  refine box2 (P := fun W => Code.wp _ _ _ _ W) fun W HXW B1 B2 => ?_
  have hbW : w.heap.size + 1 < W.heap.size := B2.out.lt
  have QB : Bs w g w.heap.size W.heap.size := ⟨hg, Nat.le_refl _, hbW⟩
  have HQ := Lib.hid QB
  have HSB : Hid (SB w g w.heap.size W.heap.size zsch [.slice none 0 0, .slice none 0 0, .slice none 0 0, .int .i64 (-1)] W (.slice none 0 0) (.slice none 0 0) (.slice none 0 0) [] [] [] W) :=
    ⟨B2.out, B1.out, OwnL.nil, OwnL.nil, OwnL.nil, HS.out.ext HXW.out, Only.of_ext HXW.out, Kept.refl _ _, Nat.le_refl _, Nat.le_refl _⟩
  clear B1 B2 HXW QB HS
  go_wp2_with fail
  refine (range_any g 1 3 W HSB.out.src (by decide) (by decide)).mono ?_
  rintro e w1 ⟨n, hn1, hn3, rfl, hs1, ho1⟩
  have HSB1 := Lib.hid (HSB.out.call HQ.out ho1 hs1)
  clear hs1 ho1 HSB
  go_wp2_with fail
  go_loopw [7] (fun v7 wr => ∃ (i : Nat) (va vr : Value) (atts : List Att) (rels : List Rl) (wz : World), i ≤ n ∧ v7 = .int .i64 i ∧ rels.length = i ∧ atts.length ≤ most ∧ (0 < i → 1 ≤ atts.length) ∧ Hid (AttsI atts) ∧ Hid (RelsI atts.length rels) ∧ Hid (UsedI atts.length rels) ∧ Hid (SB w g w.heap.size W.heap.size zsch [va, vr, .slice none 0 0, .int .i64 (-1)] wz va vr (.slice none 0 0) atts rels [] wr)) (fun v7 _ => n - (RowKit.intOf v7).toNat)
  case atStart => exact ⟨0, _, _, [], [], W, Nat.zero_le _, rfl, rfl, Nat.zero_le _, fun h => by omega, (fun i h => by cases h), (fun i h => by cases h), (fun a h => by cases h), HSB1⟩
  case round =>
    obtain ⟨i, va, vr, atts, rels, wz, hi, rfl, hri, hal, ha1, HAI, HRI, HUI, HSBr⟩ := hrel
    have HSr := Lib.hid HSBr.out.rebase
    obtain ⟨A0, c0, xs0, rfl, _, _, _, _⟩ := HSr.out.oa.parts
    obtain ⟨A1, c1, xs1, rfl, _, _, _, _⟩ := HSr.out.ol.parts
    have HRL := Lib.hid hri
    rw [hri] at HSr
    clear hri HSBr
    have hb0 := HSr.out.blk.cell (i := 0) rfl
    have hWr : W.heap.size ≤ wr.heap.size := HSr.out.sz
    generalize wr = wo at *
    have hgo : g < wo.heap.size := by omega
    by_cases hin : i < n
    · go_upto_region 8 with fail
      go_loopw [8, 24] (fun v8 v24 w2 => ∃ (j : Nat) (l : List Int), j ≤ atts.length ∧ v24 = .int .i64 j ∧ Hid (LI atts.length j l) ∧ Hid (OwnL tInt 1 IntR wo.heap.size w2 v8 l) ∧ Hid (SB w g w.heap.size W.heap.size zsch [.slice A0 atts.length c0, .slice A1 i c1, .slice none 0 0, .int .i64 (-1)] wo (.slice A0 atts.length c0) (.slice A1 i c1) (.slice none 0 0) atts rels [] w2)) (fun _ v24 _ => atts.length - (RowKit.intOf v24).toNat)
      case atStart => exact ⟨0, [], Nat.zero_le _, rfl, LI.start _, OwnL.nil, HSr⟩
      case round =>
        obtain ⟨j, l, hj, rfl, HLI, HOl, HS2⟩ := hrel
        by_cases hja : j < atts.length
        · go_wp2_with fail
          refine (n_any g 3 wr HS2.out.src (by decide) (by decide)).mono ?_
          rintro e w3 ⟨r, hr, rfl, hs3, ho3⟩
          have HS3 := Lib.hid (HS2.out.call HQ.out ho3 hs3)
          have HO3 := Lib.hid (HOl.out.only IntR.stab ho3 hgo (fun u hu => by cases hu))
          obtain ⟨Al, cl, xl, rfl, _, _, HR, HC⟩ := HO3.out.parts
          have hll := HLI.out.len
          clear hs3 ho3 HS2 HOl
          by_cases hr0 : r = 0
          · have hb : ((r : Int) == 0) = true := by rw [beq_iff_eq]; omega
            have hbt : (l.length + 1) * 8 ≤ 140737488355328 := by omega
            have hw : wo.heap.size ≤ w3.heap.size := HS3.out.zz
            clear hr0
            go_wp2_with (at_builtin; refine wpList_app1 rfl _ _ 22 rfl wo.heap.size int_slice _ _ _ rfl HR.out #[.int .i64 j] 1 1 rfl rfl rfl hbt hw ?_)
            intro v' w4 ho4 hg4 _
            have O4 := Lib.hid (OwnL.snoc (R := IntR) (x := (j : Int)) IntR.stab (fun u hu => by cases hu) HR.out HC.out rfl ho4 hg4)
            have S4 := Lib.hid (HS3.out.appI HQ.out hWr (Nat.le_refl _) HR.out hg4)
            clear ho4 hg4
            go_wp2
            go_roundw
            case rel => exact ⟨j + 1, l ++ [(j : Int)], by omega, by go_num, HLI.out.snoc, O4, S4⟩
            case measure => simp [RowKit.intOf]; omega
          · have hb : ((r : Int) == 0) = false := by rw [beq_eq_false_iff_ne]; omega
            clear hr0
            go_wp2
            go_roundw
            case rel => exact ⟨j + 1, l, by omega, by go_num, HLI.out.skip hja, HO3, HS3⟩
            case measure => simp [RowKit.intOf]; omega
        · obtain rfl : j = atts.length := by omega
          go_wp2_with fail
          refine (n_any g 3 wr HS2.out.src (by decide) (by decide)).mono ?_
          rintro e w3 ⟨k, hk, rfl, hs3, ho3⟩
          have HS3 := Lib.hid (HS2.out.call HQ.out ho3 hs3)
          have HO3 := Lib.hid (HOl.out.only IntR.stab ho3 hgo (fun u hu => by cases hu))
          clear hs3 ho3 HS2 HOl
          go_upto_region 14 with fail
          obtain ⟨n0, hn0⟩ : ∃ n0, atts.length = n0 := ⟨_, rfl⟩
          have HN0 := Lib.hid hn0
          rw [hn0] at HS3 HLI ⊢
          clear hn0
          go_loopw [8, 10] (fun v8 v10 w4 => ∃ (l2 : List Int) (atts2 : List Att) (va2 : Value) (k2 : Int), n0 ≤ atts2.length ∧ atts2.length ≤ most ∧ 0 ≤ k2 + l2.length ∧ k2 ≤ 2 ∧ v10 = .int .i64 k2 ∧ Hid (AttsI atts2) ∧ Hid (LI n0 atts2.length l2) ∧ Hid (OwnL tInt 1 IntR wo.heap.size w4 v8 l2) ∧ Hid (SB w g w.heap.size W.heap.size zsch [va2, .slice A1 i c1, .slice none 0 0, .int .i64 (-1)] wo va2 (.slice A1 i c1) (.slice none 0 0) atts2 rels [] w4)) (fun v8 _ _ => most - slLen v8)
          case atStart => exact ⟨l, atts, _, (k : Int), by rw [HN0.out]; exact Nat.le_refl _, hal, by omega, by omega, rfl, HAI, by rw [HN0.out]; exact HLI, HO3, HS3⟩
          case round =>
            obtain ⟨l2, atts2, va2, k2, hn2, hm2, hk1, hk2, rfl, HA2, HL2, HO2, HS4⟩ := hrel
            obtain ⟨Al, cl, xl, rfl, _, _, HR, HC⟩ := HO2.out.parts
            obtain ⟨Aa, ca, xa, rfl, _, _, _, _⟩ := HS4.out.oa.parts
            have hb0 := HS4.out.blk.cell (i := 0) rfl
            have hll := HL2.out.len
            by_cases hm : atts2.length < most
            · by_cases hk0 : 0 < k2
              · skip
                have hbt : (l2.length + 1) * 8 ≤ 140737488355328 := by omega
                have hw : wo.heap.size ≤ wr.heap.size := HS4.out.zz
                obtain ⟨m, hm0⟩ : ∃ m, atts2.length = m := ⟨_, rfl⟩
                have HM := Lib.hid hm0
                rw [hm0] at hb0 hm hm2 hn2 hll HL2 HS4
                clear hm0
                go_wp2_with (at_builtin; refine wpList_app1 rfl _ _ 22 rfl wo.heap.size int_slice _ _ _ rfl HR.out #[.int .i64 m] 1 1 rfl rfl rfl hbt hw ?_)
                intro v' w5 ho5 hg5 _
                have O5 := Lib.hid (OwnL.snoc (R := IntR) (x := (m : Int)) IntR.stab (fun u hu => by cases hu) HR.out HC.out rfl ho5 hg5)
                have S5 := Lib.hid (HS4.out.appI HQ.out hWr (Nat.le_refl _) HR.out hg5)
                obtain ⟨A5, c5, x5, rfl, _, _, _, _⟩ := O5.out.parts
                rw [List.length_append, List.length_singleton] at O5 ⊢
                clear ho5 hg5 hb0 HR HC HO2 HS4 hbt hw
                go_upto_region 17 with fail
                obtain ⟨tn, htn⟩ : ∃ tn, [97] ++ [UInt8.ofNat (97 + m)] = tn := ⟨_, rfl⟩
                have LT := Lib.hid (fun w' => letter_any [97] m w' (by omega) (by simp))
                rw [htn] at LT
                have HTN := Lib.hid htn
                clear htn
                obtain ⟨S, hSd⟩ : ∃ S : World → Prop, S = fun w' => w'.cell? ⟨w.heap.size + 1, 0, none⟩ = some (.slice Aa m ca) := ⟨_, rfl⟩
                have HSI : Hid (∀ w', S w' → w'.cell? ⟨w.heap.size + 1, 0, none⟩ = some (.slice Aa m ca)) := by rw [Hid, hSd]; exact fun _ h => h
                have HSE : Hid (∀ w' l, Blk w' (w.heap.size + 1) tSch (.slice Aa m ca :: l) → S w') := by rw [Hid, hSd]; exact fun w' l h => h.cell (i := 0) rfl
                clear hSd
                have S5 := Lib.hid (S5.out.ext (Ext.refl w5).drew)
                have O5 := Lib.hid (O5.out.ext IntR.stab (Ext.refl w5).drew)
                have HS0 : Hid (S w5.drew) := HSE.out _ _ S5.out.blk
                refine AnyT.start (S := S) (T := fun j => decide (13 ≤ j)) (by kernel_rfl) ?_
                generalize w5.drew = wd at *
                refine AnyT.ld 0 59 ?_ _ rfl rfl (by kernel_rfl) (fun _ _ _ h => h) HS0.out rfl ?_ ?_
                rotate_left
                focus (intro w' hSw; have hs := HSI.out w' hSw; go_split_ands; go_simp; try (first | exact rfl | omega | go_num | (intro hbd; exfalso; omega)))
                simp only [Act.put, List.setIfInBounds_toArray, List.set_cons_zero, List.set_cons_succ]
                refine AnyT.ld 1 60 ?_ _ rfl rfl (by kernel_rfl) (fun _ _ _ h => h) HS0.out rfl ?_ ?_
                rotate_left
                focus (intro w' hSw; have hs := HSI.out w' hSw; go_split_ands; go_simp; try (first | exact rfl | omega | go_num | (intro hbd; exfalso; omega)))
                simp only [Act.put, List.setIfInBounds_toArray, List.set_cons_zero, List.set_cons_succ]
                refine AnyT.ld 2 61 ?_ _ rfl rfl (by kernel_rfl) (fun _ _ _ h => h) HS0.out rfl ?_ ?_
                rotate_left
                focus (intro w' hSw; have hs := HSI.out w' hSw; go_split_ands; go_simp; try (first | exact rfl | omega | go_num | (intro hbd; exfalso; omega)))
                simp only [Act.put, List.setIfInBounds_toArray, List.set_cons_zero, List.set_cons_succ]
                refine AnyT.ld 3 62 ?_ _ rfl rfl (by kernel_rfl) (fun _ _ _ h => h) HS0.out rfl ?_ ?_
                rotate_left
                focus (intro w' hSw; have hs := HSI.out w' hSw; go_split_ands; go_simp; try (first | exact rfl | omega | go_num | (intro hbd; exfalso; omega)))
                simp only [Act.put, List.setIfInBounds_toArray, List.set_cons_zero, List.set_cons_succ]
                refine AnyT.ld 4 63 ?_ _ rfl rfl (by kernel_rfl) (fun _ _ _ h => h) HS0.out rfl ?_ ?_
                rotate_left
                focus (intro w' hSw; have hs := HSI.out w' hSw; go_split_ands; go_simp; try (first | exact rfl | omega | go_num | (intro hbd; exfalso; omega)))
                simp only [Act.put, List.setIfInBounds_toArray, List.set_cons_zero, List.set_cons_succ]
                refine AnyT.ld 6 65 ?_ _ rfl rfl (by kernel_rfl) (fun _ _ _ h => h) HS0.out rfl ?_ ?_
                rotate_left
                focus (intro w' hSw; have hs := HSI.out w' hSw; go_split_ands; go_simp; try (first | exact rfl | omega | go_num | (intro hbd; exfalso; omega)))
                simp only [Act.put, List.setIfInBounds_toArray, List.set_cons_zero, List.set_cons_succ]
                refine AnyT.two 5 7 (by kernel_rfl) ?_ ?_
                · skip
                  intro o ho K hK
                  simp only [List.getElem?_toArray, List.getElem?_cons_succ, List.getElem?_cons_zero, Option.some.injEq] at ho
                  subst ho
                  go_simp
                  refine (LT.out _).mono ?_
                  rintro e wx ⟨rfl, hx⟩
                  have S5 := Lib.hid (S5.out.ext hx)
                  have O5 := Lib.hid (O5.out.ext IntR.stab hx)
                  have BT := Lib.hid (Blk.ext S5.out.blk (Ext.refl _))
                  refine hK.out _ _ (fun _ => HSE.out _ _ S5.out.blk) ?_
                  refine AnyT.step 7 (by kernel_rfl) ?_
                  intro o ho K hK
                  simp only [List.getElem?_toArray, List.getElem?_cons_succ, List.getElem?_cons_zero, Option.some.injEq] at ho
                  subst ho
                  go_simp
                  refine hK.out _ _ (fun _ => HSE.out _ _ (S5.out.blk.ext ((Ext.refl _).alloc _))) ?_
                  have hgz : g < _ := Nat.lt_of_lt_of_le hgo S5.out.zz
                  refine box1 (P := fun W => AnyT _ _ _ _ _ _ _ _ _ W) fun WZ HXZ BZ => ?_
                  have BT := Lib.hid (BT.out.ext (HXZ.out))
                  have S5 := Lib.hid (S5.out.ext HXZ.out)
                  have O5 := Lib.hid (O5.out.ext IntR.stab HXZ.out)
                  clear HXZ
                  refine AnyT.step 8 (by kernel_rfl) ?_
                  intro o ho K hK
                  simp only [List.getElem?_toArray, List.getElem?_cons_succ, List.getElem?_cons_zero, Option.some.injEq] at ho
                  subst ho
                  go_simp
                  refine (mpick_any g _ [1, 2, 2, 3] _ S5.out.src BZ.out (by omega) (by decide) (by decide)).mono ?_
                  rintro e wx ⟨u, hu, rfl, hs, ho⟩
                  have S5 := Lib.hid (S5.out.call HQ.out ho hs)
                  have O5 := Lib.hid (O5.out.only IntR.stab ho hgo (fun u hu => by cases hu))
                  have hu3 : 1 ≤ u ∧ u ≤ 3 := by simp only [List.mem_cons, List.not_mem_nil, or_false] at hu; omega
                  clear hs ho hu BZ BT
                  refine hK.out _ _ (fun _ => HSE.out _ _ S5.out.blk) ?_
                  clear HS0
                  have HS0 := Lib.hid (HSE.out _ _ S5.out.blk)
                  refine AnyT.ld 9 68 ?_ _ rfl rfl (by kernel_rfl) (fun _ _ _ h => h) HS0.out rfl ?_ ?_
                  rotate_left
                  focus (intro w' hSw; have hs := HSI.out w' hSw; go_split_ands; go_simp; try (first | exact rfl | omega | go_num | (intro hbd; exfalso; omega)))
                  simp only [Act.put, List.setIfInBounds_toArray, List.set_cons_zero, List.set_cons_succ]
                  refine AnyT.step 10 (by kernel_rfl) ?_
                  intro o ho K hK
                  simp only [List.getElem?_toArray, List.getElem?_cons_succ, List.getElem?_cons_zero, Option.some.injEq] at ho
                  subst ho
                  go_simp
                  refine hK.out _ _ (fun _ => HSE.out _ _ (S5.out.blk.ext ((Ext.refl _).alloc _))) ?_
                  refine box1 (P := fun W => AnyT _ _ _ _ _ _ _ _ _ W) fun WZ HXZ BX => ?_
                  have S5 := Lib.hid (S5.out.ext HXZ.out)
                  have O5 := Lib.hid (O5.out.ext IntR.stab HXZ.out)
                  clear HXZ hK
                  refine AnyT.step 11 (by kernel_rfl) ?_
                  intro o ho K hK
                  simp only [List.getElem?_toArray, List.getElem?_cons_succ, List.getElem?_cons_zero, Option.some.injEq] at ho
                  subst ho
                  refine if_go rfl ?_
                  obtain ⟨xq, RQ, CQ⟩ := S5.out.oa
                  rw [HM.out] at RQ
                  have hbt : (m + 1) * 24 ≤ 140737488355328 := by omega
                  refine wp_appB _ _ 27 rfl W.heap.size att_slice _ _ _ rfl RQ _ [.string ⟨tn.toArray⟩, .int .i64 u] BX.out 1 1 rfl rfl rfl hbt S5.out.sz ?_
                  intro v' wq hoq hgq hbq
                  obtain ⟨Aq, cq, rfl, _, _, _⟩ := own_parts hoq
                  have S6 := Lib.hid (S5.out.appA HQ.out (x := (tn, u)) HM.out RQ CQ hoq hgq)
                  have O6 : Hid (OwnL tInt 1 IntR wo.heap.size wq (.slice A5 (l2.length + 1) c5) (l2 ++ [(m : Int)])) := by
                    obtain ⟨ys, q1, q2⟩ := O5.out
                    exact ⟨ys, own_grown q1 hgq (own_apartT RQ q1 (by decide)), q2⟩
                  clear RQ CQ hoq hgq hbq S5 O5 BX
                  simp only [Act.put, List.setIfInBounds_toArray, List.set_cons_zero, List.set_cons_succ]
                  refine hK.out _ _ (fun _ => HSE.out _ _ S6.out.blk) ?_
                  clear HS0
                  have HS0 := Lib.hid (HSE.out _ _ S6.out.blk)
                  refine AnyT.ld 12 71 ?_ _ rfl rfl (by kernel_rfl) (fun _ _ _ h => h) HS0.out rfl ?_ ?_
                  rotate_left
                  focus (intro w' hSw; have hs := HSI.out w' hSw; go_split_ands; go_simp; try (first | exact rfl | omega | go_num | (intro hbd; exfalso; omega)))
                  simp only [Act.put, List.setIfInBounds_toArray, List.set_cons_zero, List.set_cons_succ]
                  have hc0 := S6.out.blk.cell (i := 0) rfl
                  have hf0 := S6.out.blk.frozen 0
                  obtain ⟨W7, hW7, S7, ON7⟩ := S6.out.put HQ.out 0 (.slice Aq (m + 1) cq)
                  have HW7 := Lib.hid hW7
                  have O7 := Lib.hid (O6.out.only IntR.stab ON7.out (by omega) (fun u hu => by cases hu))
                  clear hW7 hK
                  refine AnyT.step 13 (by kernel_rfl) ?_
                  intro o ho K hK
                  simp only [List.getElem?_toArray, List.getElem?_cons_succ, List.getElem?_cons_zero, Option.some.injEq] at ho
                  subst ho
                  go_simp
                  refine hK.out _ _ (fun h => by cases h) ?_
                  rw [HW7.out]
                  refine AnyT.done (by kernel_rfl) ?_
                  clear hc0 hf0 HSI HSE HS0 S6 O6 ON7 HW7 hK
                  go_wp2_with fail
                  go_roundw
                  case rel => exact ⟨l2 ++ [(m : Int)], atts2 ++ [(tn, u)], .slice Aq (m + 1) cq, k2 - 1, by rw [List.length_append, HM.out, List.length_singleton]; omega, by rw [List.length_append, HM.out, List.length_singleton]; omega, by rw [List.length_append, List.length_singleton]; omega, by omega, by go_num, (by have h := HA2.out.snoc hu3.1 hu3.2; rw [HM.out, show [97, UInt8.ofNat (97 + m)] = [97] ++ [UInt8.ofNat (97 + m)] from rfl, HTN.out] at h; exact h), by rw [List.length_append, HM.out, List.length_singleton]; exact HL2.out.snoc, O7, S7⟩
                  case measure => simp [slLen]; omega
                · skip
                  intro o ho K hK
                  simp only [List.getElem?_toArray, List.getElem?_cons_succ, List.getElem?_cons_zero, Option.some.injEq] at ho
                  subst ho
                  go_simp
                  refine hK.out _ _ (fun _ => HSE.out _ _ (S5.out.blk.ext ((Ext.refl _).alloc _))) ?_
                  have hgz : g < _ := Nat.lt_of_lt_of_le hgo S5.out.zz
                  refine box1 (P := fun W => AnyT _ _ _ _ _ _ _ _ _ W) fun WZ HXZ BZ => ?_
                  have S5 := Lib.hid (S5.out.ext HXZ.out)
                  have O5 := Lib.hid (O5.out.ext IntR.stab HXZ.out)
                  clear HXZ
                  refine AnyT.step 5 (by kernel_rfl) ?_
                  intro o ho K hK
                  simp only [List.getElem?_toArray, List.getElem?_cons_succ, List.getElem?_cons_zero, Option.some.injEq] at ho
                  subst ho
                  go_simp
                  refine (LT.out _).mono ?_
                  rintro e wx ⟨rfl, hx⟩
                  have BZ := Lib.hid (BZ.out.ext (hx))
                  have S5 := Lib.hid (S5.out.ext hx)
                  have O5 := Lib.hid (O5.out.ext IntR.stab hx)
                  have BT := Lib.hid (Blk.ext S5.out.blk (Ext.refl _))
                  refine hK.out _ _ (fun _ => HSE.out _ _ S5.out.blk) ?_
                  refine AnyT.step 8 (by kernel_rfl) ?_
                  intro o ho K hK
                  simp only [List.getElem?_toArray, List.getElem?_cons_succ, List.getElem?_cons_zero, Option.some.injEq] at ho
                  subst ho
                  go_simp
                  refine (mpick_any g _ [1, 2, 2, 3] _ S5.out.src BZ.out (by omega) (by decide) (by decide)).mono ?_
                  rintro e wx ⟨u, hu, rfl, hs, ho⟩
                  have S5 := Lib.hid (S5.out.call HQ.out ho hs)
                  have O5 := Lib.hid (O5.out.only IntR.stab ho hgo (fun u hu => by cases hu))
                  have hu3 : 1 ≤ u ∧ u ≤ 3 := by simp only [List.mem_cons, List.not_mem_nil, or_false] at hu; omega
                  clear hs ho hu BZ BT
                  refine hK.out _ _ (fun _ => HSE.out _ _ S5.out.blk) ?_
                  clear HS0
                  have HS0 := Lib.hid (HSE.out _ _ S5.out.blk)
                  refine AnyT.ld 9 68 ?_ _ rfl rfl (by kernel_rfl) (fun _ _ _ h => h) HS0.out rfl ?_ ?_
                  rotate_left
                  focus (intro w' hSw; have hs := HSI.out w' hSw; go_split_ands; go_simp; try (first | exact rfl | omega | go_num | (intro hbd; exfalso; omega)))
                  simp only [Act.put, List.setIfInBounds_toArray, List.set_cons_zero, List.set_cons_succ]
                  refine AnyT.step 10 (by kernel_rfl) ?_
                  intro o ho K hK
                  simp only [List.getElem?_toArray, List.getElem?_cons_succ, List.getElem?_cons_zero, Option.some.injEq] at ho
                  subst ho
                  go_simp
                  refine hK.out _ _ (fun _ => HSE.out _ _ (S5.out.blk.ext ((Ext.refl _).alloc _))) ?_
                  refine box1 (P := fun W => AnyT _ _ _ _ _ _ _ _ _ W) fun WZ HXZ BX => ?_
                  have S5 := Lib.hid (S5.out.ext HXZ.out)
                  have O5 := Lib.hid (O5.out.ext IntR.stab HXZ.out)
                  clear HXZ hK
                  refine AnyT.step 11 (by kernel_rfl) ?_
                  intro o ho K hK
                  simp only [List.getElem?_toArray, List.getElem?_cons_succ, List.getElem?_cons_zero, Option.some.injEq] at ho
                  subst ho
                  refine if_go rfl ?_
                  obtain ⟨xq, RQ, CQ⟩ := S5.out.oa
                  rw [HM.out] at RQ
                  have hbt : (m + 1) * 24 ≤ 140737488355328 := by omega
                  refine wp_appB _ _ 27 rfl W.heap.size att_slice _ _ _ rfl RQ _ [.string ⟨tn.toArray⟩, .int .i64 u] BX.out 1 1 rfl rfl rfl hbt S5.out.sz ?_
                  intro v' wq hoq hgq hbq
                  obtain ⟨Aq, cq, rfl, _, _, _⟩ := own_parts hoq
                  have S6 := Lib.hid (S5.out.appA HQ.out (x := (tn, u)) HM.out RQ CQ hoq hgq)
                  have O6 : Hid (OwnL tInt 1 IntR wo.heap.size wq (.slice A5 (l2.length + 1) c5) (l2 ++ [(m : Int)])) := by
                    obtain ⟨ys, q1, q2⟩ := O5.out
                    exact ⟨ys, own_grown q1 hgq (own_apartT RQ q1 (by decide)), q2⟩
                  clear RQ CQ hoq hgq hbq S5 O5 BX
                  simp only [Act.put, List.setIfInBounds_toArray, List.set_cons_zero, List.set_cons_succ]
                  refine hK.out _ _ (fun _ => HSE.out _ _ S6.out.blk) ?_
                  clear HS0
                  have HS0 := Lib.hid (HSE.out _ _ S6.out.blk)
                  refine AnyT.ld 12 71 ?_ _ rfl rfl (by kernel_rfl) (fun _ _ _ h => h) HS0.out rfl ?_ ?_
                  rotate_left
                  focus (intro w' hSw; have hs := HSI.out w' hSw; go_split_ands; go_simp; try (first | exact rfl | omega | go_num | (intro hbd; exfalso; omega)))
                  simp only [Act.put, List.setIfInBounds_toArray, List.set_cons_zero, List.set_cons_succ]
                  have hc0 := S6.out.blk.cell (i := 0) rfl
                  have hf0 := S6.out.blk.frozen 0
                  obtain ⟨W7, hW7, S7, ON7⟩ := S6.out.put HQ.out 0 (.slice Aq (m + 1) cq)
                  have HW7 := Lib.hid hW7
                  have O7 := Lib.hid (O6.out.only IntR.stab ON7.out (by omega) (fun u hu => by cases hu))
                  clear hW7 hK
                  refine AnyT.step 13 (by kernel_rfl) ?_
                  intro o ho K hK
                  simp only [List.getElem?_toArray, List.getElem?_cons_succ, List.getElem?_cons_zero, Option.some.injEq] at ho
                  subst ho
                  go_simp
                  refine hK.out _ _ (fun h => by cases h) ?_
                  rw [HW7.out]
                  refine AnyT.done (by kernel_rfl) ?_
                  clear hc0 hf0 HSI HSE HS0 S6 O6 ON7 HW7 hK
                  go_wp2_with fail
                  go_roundw
                  case rel => exact ⟨l2 ++ [(m : Int)], atts2 ++ [(tn, u)], .slice Aq (m + 1) cq, k2 - 1, by rw [List.length_append, HM.out, List.length_singleton]; omega, by rw [List.length_append, HM.out, List.length_singleton]; omega, by rw [List.length_append, List.length_singleton]; omega, by omega, by go_num, (by have h := HA2.out.snoc hu3.1 hu3.2; rw [HM.out, show [97, UInt8.ofNat (97 + m)] = [97] ++ [UInt8.ofNat (97 + m)] from rfl, HTN.out] at h; exact h), by rw [List.length_append, HM.out, List.length_singleton]; exact HL2.out.snoc, O7, S7⟩
                  case measure => simp [slLen]; omega
              · by_cases hl0 : l2.length = 0
                · have hlb : ((l2.length : Int) == 0) = true := by rw [beq_iff_eq]; omega
                  clear hl0
                  have hbt : (l2.length + 1) * 8 ≤ 140737488355328 := by omega
                  have hw : wo.heap.size ≤ wr.heap.size := HS4.out.zz
                  obtain ⟨m, hm0⟩ : ∃ m, atts2.length = m := ⟨_, rfl⟩
                  have HM := Lib.hid hm0
                  rw [hm0] at hb0 hm hm2 hn2 hll HL2 HS4
                  clear hm0
                  go_wp2_with (at_builtin; refine wpList_app1 rfl _ _ 22 rfl wo.heap.size int_slice _ _ _ rfl HR.out #[.int .i64 m] 1 1 rfl rfl rfl hbt hw ?_)
                  intro v' w5 ho5 hg5 _
                  have O5 := Lib.hid (OwnL.snoc (R := IntR) (x := (m : Int)) IntR.stab (fun u hu => by cases hu) HR.out HC.out rfl ho5 hg5)
                  have S5 := Lib.hid (HS4.out.appI HQ.out hWr (Nat.le_refl _) HR.out hg5)
                  obtain ⟨A5, c5, x5, rfl, _, _, _, _⟩ := O5.out.parts
                  rw [List.length_append, List.length_singleton] at O5 ⊢
                  clear ho5 hg5 hb0 HR HC HO2 HS4 hbt hw
                  go_upto_region 17 with fail
                  obtain ⟨tn, htn⟩ : ∃ tn, [97] ++ [UInt8.ofNat (97 + m)] = tn := ⟨_, rfl⟩
                  have LT := Lib.hid (fun w' => letter_any [97] m w' (by omega) (by simp))
                  rw [htn] at LT
                  have HTN := Lib.hid htn
                  clear htn
                  obtain ⟨S, hSd⟩ : ∃ S : World → Prop, S = fun w' => w'.cell? ⟨w.heap.size + 1, 0, none⟩ = some (.slice Aa m ca) := ⟨_, rfl⟩
                  have HSI : Hid (∀ w', S w' → w'.cell? ⟨w.heap.size + 1, 0, none⟩ = some (.slice Aa m ca)) := by rw [Hid, hSd]; exact fun _ h => h
                  have HSE : Hid (∀ w' l, Blk w' (w.heap.size + 1) tSch (.slice Aa m ca :: l) → S w') := by rw [Hid, hSd]; exact fun w' l h => h.cell (i := 0) rfl
                  clear hSd
                  have S5 := Lib.hid (S5.out.ext (Ext.refl w5).drew)
                  have O5 := Lib.hid (O5.out.ext IntR.stab (Ext.refl w5).drew)
                  have HS0 : Hid (S w5.drew) := HSE.out _ _ S5.out.blk
                  refine AnyT.start (S := S) (T := fun j => decide (13 ≤ j)) (by kernel_rfl) ?_
                  generalize w5.drew = wd at *
                  refine AnyT.ld 0 59 ?_ _ rfl rfl (by kernel_rfl) (fun _ _ _ h => h) HS0.out rfl ?_ ?_
                  rotate_left
                  focus (intro w' hSw; have hs := HSI.out w' hSw; go_split_ands; go_simp; try (first | exact rfl | omega | go_num | (intro hbd; exfalso; omega)))
                  simp only [Act.put, List.setIfInBounds_toArray, List.set_cons_zero, List.set_cons_succ]
                  refine AnyT.ld 1 60 ?_ _ rfl rfl (by kernel_rfl) (fun _ _ _ h => h) HS0.out rfl ?_ ?_
                  rotate_left
                  focus (intro w' hSw; have hs := HSI.out w' hSw; go_split_ands; go_simp; try (first | exact rfl | omega | go_num | (intro hbd; exfalso; omega)))
                  simp only [Act.put, List.setIfInBounds_toArray, List.set_cons_zero, List.set_cons_succ]
                  refine AnyT.ld 2 61 ?_ _ rfl rfl (by kernel_rfl) (fun _ _ _ h => h) HS0.out rfl ?_ ?_
                  rotate_left
                  focus (intro w' hSw; have hs := HSI.out w' hSw; go_split_ands; go_simp; try (first | exact rfl | omega | go_num | (intro hbd; exfalso; omega)))
                  simp only [Act.put, List.setIfInBounds_toArray, List.set_cons_zero, List.set_cons_succ]
                  refine AnyT.ld 3 62 ?_ _ rfl rfl (by kernel_rfl) (fun _ _ _ h => h) HS0.out rfl ?_ ?_
                  rotate_left
                  focus (intro w' hSw; have hs := HSI.out w' hSw; go_split_ands; go_simp; try (first | exact rfl | omega | go_num | (intro hbd; exfalso; omega)))
                  simp only [Act.put, List.setIfInBounds_toArray, List.set_cons_zero, List.set_cons_succ]
                  refine AnyT.ld 4 63 ?_ _ rfl rfl (by kernel_rfl) (fun _ _ _ h => h) HS0.out rfl ?_ ?_
                  rotate_left
                  focus (intro w' hSw; have hs := HSI.out w' hSw; go_split_ands; go_simp; try (first | exact rfl | omega | go_num | (intro hbd; exfalso; omega)))
                  simp only [Act.put, List.setIfInBounds_toArray, List.set_cons_zero, List.set_cons_succ]
                  refine AnyT.ld 6 65 ?_ _ rfl rfl (by kernel_rfl) (fun _ _ _ h => h) HS0.out rfl ?_ ?_
                  rotate_left
                  focus (intro w' hSw; have hs := HSI.out w' hSw; go_split_ands; go_simp; try (first | exact rfl | omega | go_num | (intro hbd; exfalso; omega)))
                  simp only [Act.put, List.setIfInBounds_toArray, List.set_cons_zero, List.set_cons_succ]
                  refine AnyT.two 5 7 (by kernel_rfl) ?_ ?_
                  · skip
                    intro o ho K hK
                    simp only [List.getElem?_toArray, List.getElem?_cons_succ, List.getElem?_cons_zero, Option.some.injEq] at ho
                    subst ho
                    go_simp
                    refine (LT.out _).mono ?_
                    rintro e wx ⟨rfl, hx⟩
                    have S5 := Lib.hid (S5.out.ext hx)
                    have O5 := Lib.hid (O5.out.ext IntR.stab hx)
                    have BT := Lib.hid (Blk.ext S5.out.blk (Ext.refl _))
                    refine hK.out _ _ (fun _ => HSE.out _ _ S5.out.blk) ?_
                    refine AnyT.step 7 (by kernel_rfl) ?_
                    intro o ho K hK
                    simp only [List.getElem?_toArray, List.getElem?_cons_succ, List.getElem?_cons_zero, Option.some.injEq] at ho
                    subst ho
                    go_simp
                    refine hK.out _ _ (fun _ => HSE.out _ _ (S5.out.blk.ext ((Ext.refl _).alloc _))) ?_
                    have hgz : g < _ := Nat.lt_of_lt_of_le hgo S5.out.zz
                    refine box1 (P := fun W => AnyT _ _ _ _ _ _ _ _ _ W) fun WZ HXZ BZ => ?_
                    have BT := Lib.hid (BT.out.ext (HXZ.out))
                    have S5 := Lib.hid (S5.out.ext HXZ.out)
                    have O5 := Lib.hid (O5.out.ext IntR.stab HXZ.out)
                    clear HXZ
                    refine AnyT.step 8 (by kernel_rfl) ?_
                    intro o ho K hK
                    simp only [List.getElem?_toArray, List.getElem?_cons_succ, List.getElem?_cons_zero, Option.some.injEq] at ho
                    subst ho
                    go_simp
                    refine (mpick_any g _ [1, 2, 2, 3] _ S5.out.src BZ.out (by omega) (by decide) (by decide)).mono ?_
                    rintro e wx ⟨u, hu, rfl, hs, ho⟩
                    have S5 := Lib.hid (S5.out.call HQ.out ho hs)
                    have O5 := Lib.hid (O5.out.only IntR.stab ho hgo (fun u hu => by cases hu))
                    have hu3 : 1 ≤ u ∧ u ≤ 3 := by simp only [List.mem_cons, List.not_mem_nil, or_false] at hu; omega
                    clear hs ho hu BZ BT
                    refine hK.out _ _ (fun _ => HSE.out _ _ S5.out.blk) ?_
                    clear HS0
                    have HS0 := Lib.hid (HSE.out _ _ S5.out.blk)
                    refine AnyT.ld 9 68 ?_ _ rfl rfl (by kernel_rfl) (fun _ _ _ h => h) HS0.out rfl ?_ ?_
                    rotate_left
                    focus (intro w' hSw; have hs := HSI.out w' hSw; go_split_ands; go_simp; try (first | exact rfl | omega | go_num | (intro hbd; exfalso; omega)))
                    simp only [Act.put, List.setIfInBounds_toArray, List.set_cons_zero, List.set_cons_succ]
                    refine AnyT.step 10 (by kernel_rfl) ?_
                    intro o ho K hK
                    simp only [List.getElem?_toArray, List.getElem?_cons_succ, List.getElem?_cons_zero, Option.some.injEq] at ho
                    subst ho
                    go_simp
                    refine hK.out _ _ (fun _ => HSE.out _ _ (S5.out.blk.ext ((Ext.refl _).alloc _))) ?_
                    refine box1 (P := fun W => AnyT _ _ _ _ _ _ _ _ _ W) fun WZ HXZ BX => ?_
                    have S5 := Lib.hid (S5.out.ext HXZ.out)
                    have O5 := Lib.hid (O5.out.ext IntR.stab HXZ.out)
                    clear HXZ hK
                    refine AnyT.step 11 (by kernel_rfl) ?_
                    intro o ho K hK
                    simp only [List.getElem?_toArray, List.getElem?_cons_succ, List.getElem?_cons_zero, Option.some.injEq] at ho
                    subst ho
                    refine if_go rfl ?_
                    obtain ⟨xq, RQ, CQ⟩ := S5.out.oa
                    rw [HM.out] at RQ
                    have hbt : (m + 1) * 24 ≤ 140737488355328 := by omega
                    refine wp_appB _ _ 27 rfl W.heap.size att_slice _ _ _ rfl RQ _ [.string ⟨tn.toArray⟩, .int .i64 u] BX.out 1 1 rfl rfl rfl hbt S5.out.sz ?_
                    intro v' wq hoq hgq hbq
                    obtain ⟨Aq, cq, rfl, _, _, _⟩ := own_parts hoq
                    have S6 := Lib.hid (S5.out.appA HQ.out (x := (tn, u)) HM.out RQ CQ hoq hgq)
                    have O6 : Hid (OwnL tInt 1 IntR wo.heap.size wq (.slice A5 (l2.length + 1) c5) (l2 ++ [(m : Int)])) := by
                      obtain ⟨ys, q1, q2⟩ := O5.out
                      exact ⟨ys, own_grown q1 hgq (own_apartT RQ q1 (by decide)), q2⟩
                    clear RQ CQ hoq hgq hbq S5 O5 BX
                    simp only [Act.put, List.setIfInBounds_toArray, List.set_cons_zero, List.set_cons_succ]
                    refine hK.out _ _ (fun _ => HSE.out _ _ S6.out.blk) ?_
                    clear HS0
                    have HS0 := Lib.hid (HSE.out _ _ S6.out.blk)
                    refine AnyT.ld 12 71 ?_ _ rfl rfl (by kernel_rfl) (fun _ _ _ h => h) HS0.out rfl ?_ ?_
                    rotate_left
                    focus (intro w' hSw; have hs := HSI.out w' hSw; go_split_ands; go_simp; try (first | exact rfl | omega | go_num | (intro hbd; exfalso; omega)))
                    simp only [Act.put, List.setIfInBounds_toArray, List.set_cons_zero, List.set_cons_succ]
                    have hc0 := S6.out.blk.cell (i := 0) rfl
                    have hf0 := S6.out.blk.frozen 0
                    obtain ⟨W7, hW7, S7, ON7⟩ := S6.out.put HQ.out 0 (.slice Aq (m + 1) cq)
                    have HW7 := Lib.hid hW7
                    have O7 := Lib.hid (O6.out.only IntR.stab ON7.out (by omega) (fun u hu => by cases hu))
                    clear hW7 hK
                    refine AnyT.step 13 (by kernel_rfl) ?_
                    intro o ho K hK
                    simp only [List.getElem?_toArray, List.getElem?_cons_succ, List.getElem?_cons_zero, Option.some.injEq] at ho
                    subst ho
                    go_simp
                    refine hK.out _ _ (fun h => by cases h) ?_
                    rw [HW7.out]
                    refine AnyT.done (by kernel_rfl) ?_
                    clear hc0 hf0 HSI HSE HS0 S6 O6 ON7 HW7 hK
                    go_wp2_with fail
                    go_roundw
                    case rel => exact ⟨l2 ++ [(m : Int)], atts2 ++ [(tn, u)], .slice Aq (m + 1) cq, k2 - 1, by rw [List.length_append, HM.out, List.length_singleton]; omega, by rw [List.length_append, HM.out, List.length_singleton]; omega, by rw [List.length_append, List.length_singleton]; omega, by omega, by go_num, (by have h := HA2.out.snoc hu3.1 hu3.2; rw [HM.out, show [97, UInt8.ofNat (97 + m)] = [97] ++ [UInt8.ofNat (97 + m)] from rfl, HTN.out] at h; exact h), by rw [List.length_append, HM.out, List.length_singleton]; exact HL2.out.snoc, O7, S7⟩
                    case measure => simp [slLen]; omega
                  · skip
                    intro o ho K hK
                    simp only [List.getElem?_toArray, List.getElem?_cons_succ, List.getElem?_cons_zero, Option.some.injEq] at ho
                    subst ho
                    go_simp
                    refine hK.out _ _ (fun _ => HSE.out _ _ (S5.out.blk.ext ((Ext.refl _).alloc _))) ?_
                    have hgz : g < _ := Nat.lt_of_lt_of_le hgo S5.out.zz
                    refine box1 (P := fun W => AnyT _ _ _ _ _ _ _ _ _ W) fun WZ HXZ BZ => ?_
                    have S5 := Lib.hid (S5.out.ext HXZ.out)
                    have O5 := Lib.hid (O5.out.ext IntR.stab HXZ.out)
                    clear HXZ
                    refine AnyT.step 5 (by kernel_rfl) ?_
                    intro o ho K hK
                    simp only [List.getElem?_toArray, List.getElem?_cons_succ, List.getElem?_cons_zero, Option.some.injEq] at ho
                    subst ho
                    go_simp
                    refine (LT.out _).mono ?_
                    rintro e wx ⟨rfl, hx⟩
                    have BZ := Lib.hid (BZ.out.ext (hx))
                    have S5 := Lib.hid (S5.out.ext hx)
                    have O5 := Lib.hid (O5.out.ext IntR.stab hx)
                    have BT := Lib.hid (Blk.ext S5.out.blk (Ext.refl _))
                    refine hK.out _ _ (fun _ => HSE.out _ _ S5.out.blk) ?_
                    refine AnyT.step 8 (by kernel_rfl) ?_
                    intro o ho K hK
                    simp only [List.getElem?_toArray, List.getElem?_cons_succ, List.getElem?_cons_zero, Option.some.injEq] at ho
                    subst ho
                    go_simp
                    refine (mpick_any g _ [1, 2, 2, 3] _ S5.out.src BZ.out (by omega) (by decide) (by decide)).mono ?_
                    rintro e wx ⟨u, hu, rfl, hs, ho⟩
                    have S5 := Lib.hid (S5.out.call HQ.out ho hs)
                    have O5 := Lib.hid (O5.out.only IntR.stab ho hgo (fun u hu => by cases hu))
                    have hu3 : 1 ≤ u ∧ u ≤ 3 := by simp only [List.mem_cons, List.not_mem_nil, or_false] at hu; omega
                    clear hs ho hu BZ BT
                    refine hK.out _ _ (fun _ => HSE.out _ _ S5.out.blk) ?_
                    clear HS0
                    have HS0 := Lib.hid (HSE.out _ _ S5.out.blk)
                    refine AnyT.ld 9 68 ?_ _ rfl rfl (by kernel_rfl) (fun _ _ _ h => h) HS0.out rfl ?_ ?_
                    rotate_left
                    focus (intro w' hSw; have hs := HSI.out w' hSw; go_split_ands; go_simp; try (first | exact rfl | omega | go_num | (intro hbd; exfalso; omega)))
                    simp only [Act.put, List.setIfInBounds_toArray, List.set_cons_zero, List.set_cons_succ]
                    refine AnyT.step 10 (by kernel_rfl) ?_
                    intro o ho K hK
                    simp only [List.getElem?_toArray, List.getElem?_cons_succ, List.getElem?_cons_zero, Option.some.injEq] at ho
                    subst ho
                    go_simp
                    refine hK.out _ _ (fun _ => HSE.out _ _ (S5.out.blk.ext ((Ext.refl _).alloc _))) ?_
                    refine box1 (P := fun W => AnyT _ _ _ _ _ _ _ _ _ W) fun WZ HXZ BX => ?_
                    have S5 := Lib.hid (S5.out.ext HXZ.out)
                    have O5 := Lib.hid (O5.out.ext IntR.stab HXZ.out)
                    clear HXZ hK
                    refine AnyT.step 11 (by kernel_rfl) ?_
                    intro o ho K hK
                    simp only [List.getElem?_toArray, List.getElem?_cons_succ, List.getElem?_cons_zero, Option.some.injEq] at ho
                    subst ho
                    refine if_go rfl ?_
                    obtain ⟨xq, RQ, CQ⟩ := S5.out.oa
                    rw [HM.out] at RQ
                    have hbt : (m + 1) * 24 ≤ 140737488355328 := by omega
                    refine wp_appB _ _ 27 rfl W.heap.size att_slice _ _ _ rfl RQ _ [.string ⟨tn.toArray⟩, .int .i64 u] BX.out 1 1 rfl rfl rfl hbt S5.out.sz ?_
                    intro v' wq hoq hgq hbq
                    obtain ⟨Aq, cq, rfl, _, _, _⟩ := own_parts hoq
                    have S6 := Lib.hid (S5.out.appA HQ.out (x := (tn, u)) HM.out RQ CQ hoq hgq)
                    have O6 : Hid (OwnL tInt 1 IntR wo.heap.size wq (.slice A5 (l2.length + 1) c5) (l2 ++ [(m : Int)])) := by
                      obtain ⟨ys, q1, q2⟩ := O5.out
                      exact ⟨ys, own_grown q1 hgq (own_apartT RQ q1 (by decide)), q2⟩
                    clear RQ CQ hoq hgq hbq S5 O5 BX
                    simp only [Act.put, List.setIfInBounds_toArray, List.set_cons_zero, List.set_cons_succ]
                    refine hK.out _ _ (fun _ => HSE.out _ _ S6.out.blk) ?_
                    clear HS0
                    have HS0 := Lib.hid (HSE.out _ _ S6.out.blk)
                    refine AnyT.ld 12 71 ?_ _ rfl rfl (by kernel_rfl) (fun _ _ _ h => h) HS0.out rfl ?_ ?_
                    rotate_left
                    focus (intro w' hSw; have hs := HSI.out w' hSw; go_split_ands; go_simp; try (first | exact rfl | omega | go_num | (intro hbd; exfalso; omega)))
                    simp only [Act.put, List.setIfInBounds_toArray, List.set_cons_zero, List.set_cons_succ]
                    have hc0 := S6.out.blk.cell (i := 0) rfl
                    have hf0 := S6.out.blk.frozen 0
                    obtain ⟨W7, hW7, S7, ON7⟩ := S6.out.put HQ.out 0 (.slice Aq (m + 1) cq)
                    have HW7 := Lib.hid hW7
                    have O7 := Lib.hid (O6.out.only IntR.stab ON7.out (by omega) (fun u hu => by cases hu))
                    clear hW7 hK
                    refine AnyT.step 13 (by kernel_rfl) ?_
                    intro o ho K hK
                    simp only [List.getElem?_toArray, List.getElem?_cons_succ, List.getElem?_cons_zero, Option.some.injEq] at ho
                    subst ho
                    go_simp
                    refine hK.out _ _ (fun h => by cases h) ?_
                    rw [HW7.out]
                    refine AnyT.done (by kernel_rfl) ?_
                    clear hc0 hf0 HSI HSE HS0 S6 O6 ON7 HW7 hK
                    go_wp2_with fail
                    go_roundw
                    case rel => exact ⟨l2 ++ [(m : Int)], atts2 ++ [(tn, u)], .slice Aq (m + 1) cq, k2 - 1, by rw [List.length_append, HM.out, List.length_singleton]; omega, by rw [List.length_append, HM.out, List.length_singleton]; omega, by rw [List.length_append, List.length_singleton]; omega, by omega, by go_num, (by have h := HA2.out.snoc hu3.1 hu3.2; rw [HM.out, show [97, UInt8.ofNat (97 + m)] = [97] ++ [UInt8.ofNat (97 + m)] from rfl, HTN.out] at h; exact h), by rw [List.length_append, HM.out, List.length_singleton]; exact HL2.out.snoc, O7, S7⟩
                    case measure => simp [slLen]; omega
                · have hlb : ((l2.length : Int) == 0) = false := by rw [beq_eq_false_iff_ne]; omega
                  go_upto_region 18 with fail
                  obtain ⟨tn, htn⟩ : ∃ tn, [114] ++ [UInt8.ofNat (97 + i)] = tn := ⟨_, rfl⟩
                  have LT := Lib.hid (fun w' => letter_any [114] i w' (by omega) (by simp))
                  rw [htn] at LT
                  have HTN := Lib.hid htn
                  clear htn
                  have hat1 : 1 ≤ atts2.length := by omega
                  have HIL : Hid (IL wr (.slice Al l2.length cl) l2) := HO2.out.ls
                  have HRN : Hid (RelsI atts2.length (rels ++ [(tn, l2)])) := by
                    have h := RelsI.snoc (HRI.out.mono (by rw [HN0.out]; exact hn2)) (x := l2) (fun e => hl0 (by rw [e]; rfl)) HL2.out.rng HL2.out.asc
                    rw [HRL.out, show [114, UInt8.ofNat (97 + i)] = [114] ++ [UInt8.ofNat (97 + i)] from rfl, HTN.out] at h
                    exact h
                  have HUN : Hid (UsedI atts2.length (rels ++ [(tn, l2)])) := fun a ha => by
                    rcases Nat.lt_or_ge a n0 with h | h
                    · obtain ⟨r, hr, h'⟩ := HUI.out a (by rw [HN0.out]; exact h)
                      exact ⟨r, List.mem_append.2 (.inl hr), h'⟩
                    · exact ⟨_, List.mem_append.2 (.inr (List.mem_singleton.2 rfl)), HL2.out.all a h ha⟩
                  clear hb0 HR HC
                  have SQ' := Lib.hid (HS4.out).rebase
                  have hb1 := SQ'.out.blk.cell (i := 1) rfl
                  go_upto_region 20 with fail
                  obtain ⟨S, hSd⟩ : ∃ S : World → Prop, S = fun w' => w'.cell? ⟨w.heap.size + 1, 1, none⟩ = some (.slice A1 i c1) := ⟨_, rfl⟩
                  have HSI : Hid (∀ w', S w' → w'.cell? ⟨w.heap.size + 1, 1, none⟩ = some (.slice A1 i c1)) := by rw [Hid, hSd]; exact fun _ h => h
                  have HSE : Hid (∀ w' x l, Blk w' (w.heap.size + 1) tSch (x :: .slice A1 i c1 :: l) → S w') := by rw [Hid, hSd]; exact fun w' x l h => h.cell (i := 1) rfl
                  clear hSd hb1
                  have SQ' := Lib.hid (SQ'.out.ext (Ext.refl wr).drew)
                  have HS0 : Hid (S (wr).drew) := HSE.out _ _ _ SQ'.out.blk
                  refine AnyT.start (S := S) (T := fun j => decide (9 ≤ j)) (by kernel_rfl) ?_
                  generalize (wr).drew = wd at *
                  refine AnyT.ld 0 76 ?_ _ rfl rfl (by kernel_rfl) (fun _ _ _ h => h) HS0.out rfl ?_ ?_
                  rotate_left
                  focus (intro w' hSw; have hs := HSI.out w' hSw; go_split_ands; go_simp; try (first | exact rfl | omega | go_num | (intro hbd; exfalso; omega)))
                  simp only [Act.put, List.setIfInBounds_toArray, List.set_cons_zero, List.set_cons_succ]
                  refine AnyT.ld 1 77 ?_ _ rfl rfl (by kernel_rfl) (fun _ _ _ h => h) HS0.out rfl ?_ ?_
                  rotate_left
                  focus (intro w' hSw; have hs := HSI.out w' hSw; go_split_ands; go_simp; try (first | exact rfl | omega | go_num | (intro hbd; exfalso; omega)))
                  simp only [Act.put, List.setIfInBounds_toArray, List.set_cons_zero, List.set_cons_succ]
                  refine AnyT.ld 2 78 ?_ _ rfl rfl (by kernel_rfl) (fun _ _ _ h => h) HS0.out rfl ?_ ?_
                  rotate_left
                  focus (intro w' hSw; have hs := HSI.out w' hSw; go_split_ands; go_simp; try (first | exact rfl | omega | go_num | (intro hbd; exfalso; omega)))
                  simp only [Act.put, List.setIfInBounds_toArray, List.set_cons_zero, List.set_cons_succ]
                  refine AnyT.ld 4 80 ?_ _ rfl rfl (by kernel_rfl) (fun _ _ _ h => h) HS0.out rfl ?_ ?_
                  rotate_left
                  focus (intro w' hSw; have hs := HSI.out w' hSw; go_split_ands; go_simp; try (first | exact rfl | omega | go_num | (intro hbd; exfalso; omega)))
                  simp only [Act.put, List.setIfInBounds_toArray, List.set_cons_zero, List.set_cons_succ]
                  refine AnyT.step 3 (by kernel_rfl) ?_
                  intro o ho K hK
                  simp only [List.getElem?_toArray, List.getElem?_cons_succ, List.getElem?_cons_zero, Option.some.injEq] at ho
                  subst ho
                  go_simp
                  refine (LT.out _).mono ?_
                  rintro e wx ⟨rfl, hx⟩
                  have SQ' := Lib.hid (SQ'.out.ext hx)
                  refine hK.out _ _ (fun _ => HSE.out _ _ _ SQ'.out.blk) ?_
                  clear HS0 hK hx
                  have HS0 := Lib.hid (HSE.out _ _ _ SQ'.out.blk)
                  refine AnyT.ld 5 81 ?_ _ rfl rfl (by kernel_rfl) (fun _ _ _ h => h) HS0.out rfl ?_ ?_
                  rotate_left
                  focus (intro w' hSw; have hs := HSI.out w' hSw; go_split_ands; go_simp; try (first | exact rfl | omega | go_num | (intro hbd; exfalso; omega)))
                  simp only [Act.put, List.setIfInBounds_toArray, List.set_cons_zero, List.set_cons_succ]
                  refine AnyT.step 6 (by kernel_rfl) ?_
                  intro o ho K hK
                  simp only [List.getElem?_toArray, List.getElem?_cons_succ, List.getElem?_cons_zero, Option.some.injEq] at ho
                  subst ho
                  go_simp
                  refine hK.out _ _ (fun _ => HSE.out _ _ _ (SQ'.out.blk.ext ((Ext.refl _).alloc _))) ?_
                  refine box1 (P := fun W => AnyT _ _ _ _ _ _ _ _ _ W) fun WZ HXZ BX => ?_
                  have SQ' := Lib.hid (SQ'.out.ext HXZ.out)
                  clear HXZ hK
                  refine AnyT.step 7 (by kernel_rfl) ?_
                  intro o ho K hK
                  simp only [List.getElem?_toArray, List.getElem?_cons_succ, List.getElem?_cons_zero, Option.some.injEq] at ho
                  subst ho
                  refine if_go rfl ?_
                  obtain ⟨xq, RQ, CQ⟩ := SQ'.out.ol
                  rw [HRL.out] at RQ
                  have hbt : (i + 1) * 40 ≤ 140737488355328 := by omega
                  refine wp_appB _ _ 28 rfl W.heap.size rel_slice _ _ _ rfl RQ _ [.string ⟨tn.toArray⟩, .slice Al l2.length cl] BX.out 1 1 rfl rfl rfl hbt SQ'.out.sz ?_
                  intro v' wq hoq hgq hbq
                  obtain ⟨Aq, cq, rfl, _, _, _⟩ := own_parts hoq
                  have S6 := Lib.hid (SQ'.out.appR HQ.out (x := (tn, l2)) HRL.out RQ CQ HIL.out hoq hgq)
                  clear RQ CQ hoq hgq hbq SQ' BX
                  simp only [Act.put, List.setIfInBounds_toArray, List.set_cons_zero, List.set_cons_succ]
                  refine hK.out _ _ (fun _ => HSE.out _ _ _ S6.out.blk) ?_
                  clear HS0
                  have HS0 := Lib.hid (HSE.out _ _ _ S6.out.blk)
                  refine AnyT.ld 8 84 ?_ _ rfl rfl (by kernel_rfl) (fun _ _ _ h => h) HS0.out rfl ?_ ?_
                  rotate_left
                  focus (intro w' hSw; have hs := HSI.out w' hSw; go_split_ands; go_simp; try (first | exact rfl | omega | go_num | (intro hbd; exfalso; omega)))
                  simp only [Act.put, List.setIfInBounds_toArray, List.set_cons_zero, List.set_cons_succ]
                  have hc0 := S6.out.blk.cell (i := 1) rfl
                  have hf0 := S6.out.blk.frozen 1
                  obtain ⟨W7, hW7, S7, ON7⟩ := S6.out.put HQ.out 1 (.slice Aq (i + 1) cq)
                  have HW7 := Lib.hid hW7
                  clear hW7 hK
                  refine AnyT.step 9 (by kernel_rfl) ?_
                  intro o ho K hK
                  simp only [List.getElem?_toArray, List.getElem?_cons_succ, List.getElem?_cons_zero, Option.some.injEq] at ho
                  subst ho
                  go_simp
                  refine hK.out _ _ (fun h => by cases h) ?_
                  rw [HW7.out]
                  refine AnyT.done (by kernel_rfl) ?_
                  clear hc0 hf0 HSI HSE HS0 S6 ON7 HW7 hK
                  go_wp2_with fail
                  go_roundw
                  case rel => exact ⟨i + 1, _, _, atts2, rels ++ [(tn, l2)], _, by omega, by go_num, by rw [List.length_append, HRL.out]; rfl, hm2, fun _ => hat1, HA2, HRN, HUN, S7⟩
                  case measure => simp [RowKit.intOf]; omega
            · by_cases hl0 : l2.length = 0
              · obtain rfl : l2 = [] := List.eq_nil_of_length_eq_zero hl0
                clear hl0
                by_cases hk0 : 0 < k2
                · skip
                  obtain ⟨tn, htn⟩ : ∃ tn, [114] ++ [UInt8.ofNat (97 + i)] = tn := ⟨_, rfl⟩
                  have LT := Lib.hid (fun w' => letter_any [114] i w' (by omega) (by simp))
                  rw [htn] at LT
                  have HTN := Lib.hid htn
                  clear htn
                  have hat1 : 1 ≤ atts2.length := by omega
                  go_upto_region 20 with fail
                  refine box1 (P := fun W => Code.wp _ _ _ _ W) fun W5 HX5 BI => ?_
                  have HIL : Hid (IL W5 (.slice (some ⟨wr.heap.size, 0, none⟩) 1 1) [0]) := Ls.of_blk (l := [(0 : Int)]) BI.out ⟨[.int .i64 0], [], rfl, rfl, rfl⟩ (by simp)
                  have HS5 := Lib.hid (HS4.out.ext HX5.out)
                  have HRN : Hid (RelsI atts2.length (rels ++ [(tn, [0])])) := by
                    have h := RelsI.snoc (HRI.out.mono (by rw [HN0.out]; exact hn2)) (x := [0]) (by simp) (fun a ha => by rw [List.mem_singleton.1 ha]; omega) (List.pairwise_singleton _ _)
                    rw [HRL.out, show [114, UInt8.ofNat (97 + i)] = [114] ++ [UInt8.ofNat (97 + i)] from rfl, HTN.out] at h
                    exact h
                  have HUN : Hid (UsedI atts2.length (rels ++ [(tn, [0])])) := fun a ha => by
                    rcases Nat.lt_or_ge a n0 with h | h
                    · obtain ⟨r, hr, h'⟩ := HUI.out a (by rw [HN0.out]; exact h)
                      exact ⟨r, List.mem_append.2 (.inl hr), h'⟩
                    · have := HL2.out.all a h ha
                      cases this
                  clear hb0 HR HC HX5 BI HS4
                  have SQ' := Lib.hid (HS5.out).rebase
                  have hb1 := SQ'.out.blk.cell (i := 1) rfl
                  go_upto_region 20 with fail
                  obtain ⟨S, hSd⟩ : ∃ S : World → Prop, S = fun w' => w'.cell? ⟨w.heap.size + 1, 1, none⟩ = some (.slice A1 i c1) := ⟨_, rfl⟩
                  have HSI : Hid (∀ w', S w' → w'.cell? ⟨w.heap.size + 1, 1, none⟩ = some (.slice A1 i c1)) := by rw [Hid, hSd]; exact fun _ h => h
                  have HSE : Hid (∀ w' x l, Blk w' (w.heap.size + 1) tSch (x :: .slice A1 i c1 :: l) → S w') := by rw [Hid, hSd]; exact fun w' x l h => h.cell (i := 1) rfl
                  clear hSd hb1
                  have SQ' := Lib.hid (SQ'.out.ext (Ext.refl W5).drew)
                  have HS0 : Hid (S (W5).drew) := HSE.out _ _ _ SQ'.out.blk
                  refine AnyT.start (S := S) (T := fun j => decide (9 ≤ j)) (by kernel_rfl) ?_
                  generalize (W5).drew = wd at *
                  refine AnyT.ld 0 76 ?_ _ rfl rfl (by kernel_rfl) (fun _ _ _ h => h) HS0.out rfl ?_ ?_
                  rotate_left
                  focus (intro w' hSw; have hs := HSI.out w' hSw; go_split_ands; go_simp; try (first | exact rfl | omega | go_num | (intro hbd; exfalso; omega)))
                  simp only [Act.put, List.setIfInBounds_toArray, List.set_cons_zero, List.set_cons_succ]
                  refine AnyT.ld 1 77 ?_ _ rfl rfl (by kernel_rfl) (fun _ _ _ h => h) HS0.out rfl ?_ ?_
                  rotate_left
                  focus (intro w' hSw; have hs := HSI.out w' hSw; go_split_ands; go_simp; try (first | exact rfl | omega | go_num | (intro hbd; exfalso; omega)))
                  simp only [Act.put, List.setIfInBounds_toArray, List.set_cons_zero, List.set_cons_succ]
                  refine AnyT.ld 2 78 ?_ _ rfl rfl (by kernel_rfl) (fun _ _ _ h => h) HS0.out rfl ?_ ?_
                  rotate_left
                  focus (intro w' hSw; have hs := HSI.out w' hSw; go_split_ands; go_simp; try (first | exact rfl | omega | go_num | (intro hbd; exfalso; omega)))
                  simp only [Act.put, List.setIfInBounds_toArray, List.set_cons_zero, List.set_cons_succ]
                  refine AnyT.ld 4 80 ?_ _ rfl rfl (by kernel_rfl) (fun _ _ _ h => h) HS0.out rfl ?_ ?_
                  rotate_left
                  focus (intro w' hSw; have hs := HSI.out w' hSw; go_split_ands; go_simp; try (first | exact rfl | omega | go_num | (intro hbd; exfalso; omega)))
                  simp only [Act.put, List.setIfInBounds_toArray, List.set_cons_zero, List.set_cons_succ]
                  refine AnyT.step 3 (by kernel_rfl) ?_
                  intro o ho K hK
                  simp only [List.getElem?_toArray, List.getElem?_cons_succ, List.getElem?_cons_zero, Option.some.injEq] at ho
                  subst ho
                  go_simp
                  refine (LT.out _).mono ?_
                  rintro e wx ⟨rfl, hx⟩
                  have SQ' := Lib.hid (SQ'.out.ext hx)
                  refine hK.out _ _ (fun _ => HSE.out _ _ _ SQ'.out.blk) ?_
                  clear HS0 hK hx
                  have HS0 := Lib.hid (HSE.out _ _ _ SQ'.out.blk)
                  refine AnyT.ld 5 81 ?_ _ rfl rfl (by kernel_rfl) (fun _ _ _ h => h) HS0.out rfl ?_ ?_
                  rotate_left
                  focus (intro w' hSw; have hs := HSI.out w' hSw; go_split_ands; go_simp; try (first | exact rfl | omega | go_num | (intro hbd; exfalso; omega)))
                  simp only [Act.put, List.setIfInBounds_toArray, List.set_cons_zero, List.set_cons_succ]
                  refine AnyT.step 6 (by kernel_rfl) ?_
                  intro o ho K hK
                  simp only [List.getElem?_toArray, List.getElem?_cons_succ, List.getElem?_cons_zero, Option.some.injEq] at ho
                  subst ho
                  go_simp
                  refine hK.out _ _ (fun _ => HSE.out _ _ _ (SQ'.out.blk.ext ((Ext.refl _).alloc _))) ?_
                  refine box1 (P := fun W => AnyT _ _ _ _ _ _ _ _ _ W) fun WZ HXZ BX => ?_
                  have SQ' := Lib.hid (SQ'.out.ext HXZ.out)
                  clear HXZ hK
                  refine AnyT.step 7 (by kernel_rfl) ?_
                  intro o ho K hK
                  simp only [List.getElem?_toArray, List.getElem?_cons_succ, List.getElem?_cons_zero, Option.some.injEq] at ho
                  subst ho
                  refine if_go rfl ?_
                  obtain ⟨xq, RQ, CQ⟩ := SQ'.out.ol
                  rw [HRL.out] at RQ
                  have hbt : (i + 1) * 40 ≤ 140737488355328 := by omega
                  refine wp_appB _ _ 28 rfl W.heap.size rel_slice _ _ _ rfl RQ _ [.string ⟨tn.toArray⟩, .slice (some ⟨wr.heap.size, 0, none⟩) 1 1] BX.out 1 1 rfl rfl rfl hbt SQ'.out.sz ?_
                  intro v' wq hoq hgq hbq
                  obtain ⟨Aq, cq, rfl, _, _, _⟩ := own_parts hoq
                  have S6 := Lib.hid (SQ'.out.appR HQ.out (x := (tn, [0])) HRL.out RQ CQ HIL.out hoq hgq)
                  clear RQ CQ hoq hgq hbq SQ' BX
                  simp only [Act.put, List.setIfInBounds_toArray, List.set_cons_zero, List.set_cons_succ]
                  refine hK.out _ _ (fun _ => HSE.out _ _ _ S6.out.blk) ?_
                  clear HS0
                  have HS0 := Lib.hid (HSE.out _ _ _ S6.out.blk)
                  refine AnyT.ld 8 84 ?_ _ rfl rfl (by kernel_rfl) (fun _ _ _ h => h) HS0.out rfl ?_ ?_
                  rotate_left
                  focus (intro w' hSw; have hs := HSI.out w' hSw; go_split_ands; go_simp; try (first | exact rfl | omega | go_num | (intro hbd; exfalso; omega)))
                  simp only [Act.put, List.setIfInBounds_toArray, List.set_cons_zero, List.set_cons_succ]
                  have hc0 := S6.out.blk.cell (i := 1) rfl
                  have hf0 := S6.out.blk.frozen 1
                  obtain ⟨W7, hW7, S7, ON7⟩ := S6.out.put HQ.out 1 (.slice Aq (i + 1) cq)
                  have HW7 := Lib.hid hW7
                  clear hW7 hK
                  refine AnyT.step 9 (by kernel_rfl) ?_
                  intro o ho K hK
                  simp only [List.getElem?_toArray, List.getElem?_cons_succ, List.getElem?_cons_zero, Option.some.injEq] at ho
                  subst ho
                  go_simp
                  refine hK.out _ _ (fun h => by cases h) ?_
                  rw [HW7.out]
                  refine AnyT.done (by kernel_rfl) ?_
                  clear hc0 hf0 HSI HSE HS0 S6 ON7 HW7 hK
                  go_wp2_with fail
                  go_roundw
                  case rel => exact ⟨i + 1, _, _, atts2, rels ++ [(tn, [0])], _, by omega, by go_num, by rw [List.length_append, HRL.out]; rfl, hm2, fun _ => hat1, HA2, HRN, HUN, S7⟩
                  case measure => simp [RowKit.intOf]; omega
                · skip
                  obtain ⟨tn, htn⟩ : ∃ tn, [114] ++ [UInt8.ofNat (97 + i)] = tn := ⟨_, rfl⟩
                  have LT := Lib.hid (fun w' => letter_any [114] i w' (by omega) (by simp))
                  rw [htn] at LT
                  have HTN := Lib.hid htn
                  clear htn
                  have hat1 : 1 ≤ atts2.length := by omega
                  go_upto_region 20 with fail
                  refine box1 (P := fun W => Code.wp _ _ _ _ W) fun W5 HX5 BI => ?_
                  have HIL : Hid (IL W5 (.slice (some ⟨wr.heap.size, 0, none⟩) 1 1) [0]) := Ls.of_blk (l := [(0 : Int)]) BI.out ⟨[.int .i64 0], [], rfl, rfl, rfl⟩ (by simp)
                  have HS5 := Lib.hid (HS4.out.ext HX5.out)
                  have HRN : Hid (RelsI atts2.length (rels ++ [(tn, [0])])) := by
                    have h := RelsI.snoc (HRI.out.mono (by rw [HN0.out]; exact hn2)) (x := [0]) (by simp) (fun a ha => by rw [List.mem_singleton.1 ha]; omega) (List.pairwise_singleton _ _)
                    rw [HRL.out, show [114, UInt8.ofNat (97 + i)] = [114] ++ [UInt8.ofNat (97 + i)] from rfl, HTN.out] at h
                    exact h
                  have HUN : Hid (UsedI atts2.length (rels ++ [(tn, [0])])) := fun a ha => by
                    rcases Nat.lt_or_ge a n0 with h | h
                    · obtain ⟨r, hr, h'⟩ := HUI.out a (by rw [HN0.out]; exact h)
                      exact ⟨r, List.mem_append.2 (.inl hr), h'⟩
                    · have := HL2.out.all a h ha
                      cases this
                  clear hb0 HR HC HX5 BI HS4
                  have SQ' := Lib.hid (HS5.out).rebase
                  have hb1 := SQ'.out.blk.cell (i := 1) rfl
                  go_upto_region 20 with fail
                  obtain ⟨S, hSd⟩ : ∃ S : World → Prop, S = fun w' => w'.cell? ⟨w.heap.size + 1, 1, none⟩ = some (.slice A1 i c1) := ⟨_, rfl⟩
                  have HSI : Hid (∀ w', S w' → w'.cell? ⟨w.heap.size + 1, 1, none⟩ = some (.slice A1 i c1)) := by rw [Hid, hSd]; exact fun _ h => h
                  have HSE : Hid (∀ w' x l, Blk w' (w.heap.size + 1) tSch (x :: .slice A1 i c1 :: l) → S w') := by rw [Hid, hSd]; exact fun w' x l h => h.cell (i := 1) rfl
                  clear hSd hb1
                  have SQ' := Lib.hid (SQ'.out.ext (Ext.refl W5).drew)
                  have HS0 : Hid (S (W5).drew) := HSE.out _ _ _ SQ'.out.blk
                  refine AnyT.start (S := S) (T := fun j => decide (9 ≤ j)) (by kernel_rfl) ?_
                  generalize (W5).drew = wd at *
                  refine AnyT.ld 0 76 ?_ _ rfl rfl (by kernel_rfl) (fun _ _ _ h => h) HS0.out rfl ?_ ?_
                  rotate_left
                  focus (intro w' hSw; have hs := HSI.out w' hSw; go_split_ands; go_simp; try (first | exact rfl | omega | go_num | (intro hbd; exfalso; omega)))
                  simp only [Act.put, List.setIfInBounds_toArray, List.set_cons_zero, List.set_cons_succ]
                  refine AnyT.ld 1 77 ?_ _ rfl rfl (by kernel_rfl) (fun _ _ _ h => h) HS0.out rfl ?_ ?_
                  rotate_left
                  focus (intro w' hSw; have hs := HSI.out w' hSw; go_split_ands; go_simp; try (first | exact rfl | omega | go_num | (intro hbd; exfalso; omega)))
                  simp only [Act.put, List.setIfInBounds_toArray, List.set_cons_zero, List.set_cons_succ]
                  refine AnyT.ld 2 78 ?_ _ rfl rfl (by kernel_rfl) (fun _ _ _ h => h) HS0.out rfl ?_ ?_
                  rotate_left
                  focus (intro w' hSw; have hs := HSI.out w' hSw; go_split_ands; go_simp; try (first | exact rfl | omega | go_num | (intro hbd; exfalso; omega)))
                  simp only [Act.put, List.setIfInBounds_toArray, List.set_cons_zero, List.set_cons_succ]
                  refine AnyT.ld 4 80 ?_ _ rfl rfl (by kernel_rfl) (fun _ _ _ h => h) HS0.out rfl ?_ ?_
                  rotate_left
                  focus (intro w' hSw; have hs := HSI.out w' hSw; go_split_ands; go_simp; try (first | exact rfl | omega | go_num | (intro hbd; exfalso; omega)))
                  simp only [Act.put, List.setIfInBounds_toArray, List.set_cons_zero, List.set_cons_succ]
                  refine AnyT.step 3 (by kernel_rfl) ?_
                  intro o ho K hK
                  simp only [List.getElem?_toArray, List.getElem?_cons_succ, List.getElem?_cons_zero, Option.some.injEq] at ho
                  subst ho
                  go_simp
                  refine (LT.out _).mono ?_
                  rintro e wx ⟨rfl, hx⟩
                  have SQ' := Lib.hid (SQ'.out.ext hx)
                  refine hK.out _ _ (fun _ => HSE.out _ _ _ SQ'.out.blk) ?_
                  clear HS0 hK hx
                  have HS0 := Lib.hid (HSE.out _ _ _ SQ'.out.blk)
                  refine AnyT.ld 5 81 ?_ _ rfl rfl (by kernel_rfl) (fun _ _ _ h => h) HS0.out rfl ?_ ?_
                  rotate_left
                  focus (intro w' hSw; have hs := HSI.out w' hSw; go_split_ands; go_simp; try (first | exact rfl | omega | go_num | (intro hbd; exfalso; omega)))
                  simp only [Act.put, List.setIfInBounds_toArray, List.set_cons_zero, List.set_cons_succ]
                  refine AnyT.step 6 (by kernel_rfl) ?_
                  intro o ho K hK
                  simp only [List.getElem?_toArray, List.getElem?_cons_succ, List.getElem?_cons_zero, Option.some.injEq] at ho
                  subst ho
                  go_simp
                  refine hK.out _ _ (fun _ => HSE.out _ _ _ (SQ'.out.blk.ext ((Ext.refl _).alloc _))) ?_
                  refine box1 (P := fun W => AnyT _ _ _ _ _ _ _ _ _ W) fun WZ HXZ BX => ?_
                  have SQ' := Lib.hid (SQ'.out.ext HXZ.out)
                  clear HXZ hK
                  refine AnyT.step 7 (by kernel_rfl) ?_
                  intro o ho K hK
                  simp only [List.getElem?_toArray, List.getElem?_cons_succ, List.getElem?_cons_zero, Option.some.injEq] at ho
                  subst ho
                  refine if_go rfl ?_
                  obtain ⟨xq, RQ, CQ⟩ := SQ'.out.ol
                  rw [HRL.out] at RQ
                  have hbt : (i + 1) * 40 ≤ 140737488355328 := by omega
                  refine wp_appB _ _ 28 rfl W.heap.size rel_slice _ _ _ rfl RQ _ [.string ⟨tn.toArray⟩, .slice (some ⟨wr.heap.size, 0, none⟩) 1 1] BX.out 1 1 rfl rfl rfl hbt SQ'.out.sz ?_
                  intro v' wq hoq hgq hbq
                  obtain ⟨Aq, cq, rfl, _, _, _⟩ := own_parts hoq
                  have S6 := Lib.hid (SQ'.out.appR HQ.out (x := (tn, [0])) HRL.out RQ CQ HIL.out hoq hgq)
                  clear RQ CQ hoq hgq hbq SQ' BX
                  simp only [Act.put, List.setIfInBounds_toArray, List.set_cons_zero, List.set_cons_succ]
                  refine hK.out _ _ (fun _ => HSE.out _ _ _ S6.out.blk) ?_
                  clear HS0
                  have HS0 := Lib.hid (HSE.out _ _ _ S6.out.blk)
                  refine AnyT.ld 8 84 ?_ _ rfl rfl (by kernel_rfl) (fun _ _ _ h => h) HS0.out rfl ?_ ?_
                  rotate_left
                  focus (intro w' hSw; have hs := HSI.out w' hSw; go_split_ands; go_simp; try (first | exact rfl | omega | go_num | (intro hbd; exfalso; omega)))
                  simp only [Act.put, List.setIfInBounds_toArray, List.set_cons_zero, List.set_cons_succ]
                  have hc0 := S6.out.blk.cell (i := 1) rfl
                  have hf0 := S6.out.blk.frozen 1
                  obtain ⟨W7, hW7, S7, ON7⟩ := S6.out.put HQ.out 1 (.slice Aq (i + 1) cq)
                  have HW7 := Lib.hid hW7
                  clear hW7 hK
                  refine AnyT.step 9 (by kernel_rfl) ?_
                  intro o ho K hK
                  simp only [List.getElem?_toArray, List.getElem?_cons_succ, List.getElem?_cons_zero, Option.some.injEq] at ho
                  subst ho
                  go_simp
                  refine hK.out _ _ (fun h => by cases h) ?_
                  rw [HW7.out]
                  refine AnyT.done (by kernel_rfl) ?_
                  clear hc0 hf0 HSI HSE HS0 S6 ON7 HW7 hK
                  go_wp2_with fail
                  go_roundw
                  case rel => exact ⟨i + 1, _, _, atts2, rels ++ [(tn, [0])], _, by omega, by go_num, by rw [List.length_append, HRL.out]; rfl, hm2, fun _ => hat1, HA2, HRN, HUN, S7⟩
                  case measure => simp [RowKit.intOf]; omega
              · have hlb : ((l2.length : Int) == 0) = false := by rw [beq_eq_false_iff_ne]; omega
                by_cases hk0 : 0 < k2
                · skip
                  go_upto_region 18 with fail
                  obtain ⟨tn, htn⟩ : ∃ tn, [114] ++ [UInt8.ofNat (97 + i)] = tn := ⟨_, rfl⟩
                  have LT := Lib.hid (fun w' => letter_any [114] i w' (by omega) (by simp))
                  rw [htn] at LT
                  have HTN := Lib.hid htn
                  clear htn
                  have hat1 : 1 ≤ atts2.length := by omega
                  have HIL : Hid (IL wr (.slice Al l2.length cl) l2) := HO2.out.ls
                  have HRN : Hid (RelsI atts2.length (rels ++ [(tn, l2)])) := by
                    have h := RelsI.snoc (HRI.out.mono (by rw [HN0.out]; exact hn2)) (x := l2) (fun e => hl0 (by rw [e]; rfl)) HL2.out.rng HL2.out.asc
                    rw [HRL.out, show [114, UInt8.ofNat (97 + i)] = [114] ++ [UInt8.ofNat (97 + i)] from rfl, HTN.out] at h
                    exact h
                  have HUN : Hid (UsedI atts2.length (rels ++ [(tn, l2)])) := fun a ha => by
                    rcases Nat.lt_or_ge a n0 with h | h
                    · obtain ⟨r, hr, h'⟩ := HUI.out a (by rw [HN0.out]; exact h)
                      exact ⟨r, List.mem_append.2 (.inl hr), h'⟩
                    · exact ⟨_, List.mem_append.2 (.inr (List.mem_singleton.2 rfl)), HL2.out.all a h ha⟩
                  clear hb0 HR HC
                  have SQ' := Lib.hid (HS4.out).rebase
                  have hb1 := SQ'.out.blk.cell (i := 1) rfl
                  go_upto_region 20 with fail
                  obtain ⟨S, hSd⟩ : ∃ S : World → Prop, S = fun w' => w'.cell? ⟨w.heap.size + 1, 1, none⟩ = some (.slice A1 i c1) := ⟨_, rfl⟩
                  have HSI : Hid (∀ w', S w' → w'.cell? ⟨w.heap.size + 1, 1, none⟩ = some (.slice A1 i c1)) := by rw [Hid, hSd]; exact fun _ h => h
                  have HSE : Hid (∀ w' x l, Blk w' (w.heap.size + 1) tSch (x :: .slice A1 i c1 :: l) → S w') := by rw [Hid, hSd]; exact fun w' x l h => h.cell (i := 1) rfl
                  clear hSd hb1
                  have SQ' := Lib.hid (SQ'.out.ext (Ext.refl wr).drew)
                  have HS0 : Hid (S (wr).drew) := HSE.out _ _ _ SQ'.out.blk
                  refine AnyT.start (S := S) (T := fun j => decide (9 ≤ j)) (by kernel_rfl) ?_
                  generalize (wr).drew = wd at *
                  refine AnyT.ld 0 76 ?_ _ rfl rfl (by kernel_rfl) (fun _ _ _ h => h) HS0.out rfl ?_ ?_
                  rotate_left
                  focus (intro w' hSw; have hs := HSI.out w' hSw; go_split_ands; go_simp; try (first | exact rfl | omega | go_num | (intro hbd; exfalso; omega)))
                  simp only [Act.put, List.setIfInBounds_toArray, List.set_cons_zero, List.set_cons_succ]
                  refine AnyT.ld 1 77 ?_ _ rfl rfl (by kernel_rfl) (fun _ _ _ h => h) HS0.out rfl ?_ ?_
                  rotate_left
                  focus (intro w' hSw; have hs := HSI.out w' hSw; go_split_ands; go_simp; try (first | exact rfl | omega | go_num | (intro hbd; exfalso; omega)))
                  simp only [Act.put, List.setIfInBounds_toArray, List.set_cons_zero, List.set_cons_succ]
                  refine AnyT.ld 2 78 ?_ _ rfl rfl (by kernel_rfl) (fun _ _ _ h => h) HS0.out rfl ?_ ?_
                  rotate_left
                  focus (intro w' hSw; have hs := HSI.out w' hSw; go_split_ands; go_simp; try (first | exact rfl | omega | go_num | (intro hbd; exfalso; omega)))
                  simp only [Act.put, List.setIfInBounds_toArray, List.set_cons_zero, List.set_cons_succ]
                  refine AnyT.ld 4 80 ?_ _ rfl rfl (by kernel_rfl) (fun _ _ _ h => h) HS0.out rfl ?_ ?_
                  rotate_left
                  focus (intro w' hSw; have hs := HSI.out w' hSw; go_split_ands; go_simp; try (first | exact rfl | omega | go_num | (intro hbd; exfalso; omega)))
                  simp only [Act.put, List.setIfInBounds_toArray, List.set_cons_zero, List.set_cons_succ]
                  refine AnyT.step 3 (by kernel_rfl) ?_
                  intro o ho K hK
                  simp only [List.getElem?_toArray, List.getElem?_cons_succ, List.getElem?_cons_zero, Option.some.injEq] at ho
                  subst ho
                  go_simp
                  refine (LT.out _).mono ?_
                  rintro e wx ⟨rfl, hx⟩
                  have SQ' := Lib.hid (SQ'.out.ext hx)
                  refine hK.out _ _ (fun _ => HSE.out _ _ _ SQ'.out.blk) ?_
                  clear HS0 hK hx
                  have HS0 := Lib.hid (HSE.out _ _ _ SQ'.out.blk)
                  refine AnyT.ld 5 81 ?_ _ rfl rfl (by kernel_rfl) (fun _ _ _ h => h) HS0.out rfl ?_ ?_
                  rotate_left
                  focus (intro w' hSw; have hs := HSI.out w' hSw; go_split_ands; go_simp; try (first | exact rfl | omega | go_num | (intro hbd; exfalso; omega)))
                  simp only [Act.put, List.setIfInBounds_toArray, List.set_cons_zero, List.set_cons_succ]
                  refine AnyT.step 6 (by kernel_rfl) ?_
                  intro o ho K hK
                  simp only [List.getElem?_toArray, List.getElem?_cons_succ, List.getElem?_cons_zero, Option.some.injEq] at ho
                  subst ho
                  go_simp
                  refine hK.out _ _ (fun _ => HSE.out _ _ _ (SQ'.out.blk.ext ((Ext.refl _).alloc _))) ?_
                  refine box1 (P := fun W => AnyT _ _ _ _ _ _ _ _ _ W) fun WZ HXZ BX => ?_
                  have SQ' := Lib.hid (SQ'.out.ext HXZ.out)
                  clear HXZ hK
                  refine AnyT.step 7 (by kernel_rfl) ?_
                  intro o ho K hK
                  simp only [List.getElem?_toArray, List.getElem?_cons_succ, List.getElem?_cons_zero, Option.some.injEq] at ho
                  subst ho
                  refine if_go rfl ?_
                  obtain ⟨xq, RQ, CQ⟩ := SQ'.out.ol
                  rw [HRL.out] at RQ
                  have hbt : (i + 1) * 40 ≤ 140737488355328 := by omega
                  refine wp_appB _ _ 28 rfl W.heap.size rel_slice _ _ _ rfl RQ _ [.string ⟨tn.toArray⟩, .slice Al l2.length cl] BX.out 1 1 rfl rfl rfl hbt SQ'.out.sz ?_
                  intro v' wq hoq hgq hbq
                  obtain ⟨Aq, cq, rfl, _, _, _⟩ := own_parts hoq
                  have S6 := Lib.hid (SQ'.out.appR HQ.out (x := (tn, l2)) HRL.out RQ CQ HIL.out hoq hgq)
                  clear RQ CQ hoq hgq hbq SQ' BX
                  simp only [Act.put, List.setIfInBounds_toArray, List.set_cons_zero, List.set_cons_succ]
                  refine hK.out _ _ (fun _ => HSE.out _ _ _ S6.out.blk) ?_
                  clear HS0
                  have HS0 := Lib.hid (HSE.out _ _ _ S6.out.blk)
                  refine AnyT.ld 8 84 ?_ _ rfl rfl (by kernel_rfl) (fun _ _ _ h => h) HS0.out rfl ?_ ?_
                  rotate_left
                  focus (intro w' hSw; have hs := HSI.out w' hSw; go_split_ands; go_simp; try (first | exact rfl | omega | go_num | (intro hbd; exfalso; omega)))
                  simp only [Act.put, List.setIfInBounds_toArray, List.set_cons_zero, List.set_cons_succ]
                  have hc0 := S6.out.blk.cell (i := 1) rfl
                  have hf0 := S6.out.blk.frozen 1
                  obtain ⟨W7, hW7, S7, ON7⟩ := S6.out.put HQ.out 1 (.slice Aq (i + 1) cq)
                  have HW7 := Lib.hid hW7
                  clear hW7 hK
                  refine AnyT.step 9 (by kernel_rfl) ?_
                  intro o ho K hK
                  simp only [List.getElem?_toArray, List.getElem?_cons_succ, List.getElem?_cons_zero, Option.some.injEq] at ho
                  subst ho
                  go_simp
                  refine hK.out _ _ (fun h => by cases h) ?_
                  rw [HW7.out]
                  refine AnyT.done (by kernel_rfl) ?_
                  clear hc0 hf0 HSI HSE HS0 S6 ON7 HW7 hK
                  go_wp2_with fail
                  go_roundw
                  case rel => exact ⟨i + 1, _, _, atts2, rels ++ [(tn, l2)], _, by omega, by go_num, by rw [List.length_append, HRL.out]; rfl, hm2, fun _ => hat1, HA2, HRN, HUN, S7⟩
                  case measure => simp [RowKit.intOf]; omega
                · skip
                  go_upto_region 18 with fail
                  obtain ⟨tn, htn⟩ : ∃ tn, [114] ++ [UInt8.ofNat (97 + i)] = tn := ⟨_, rfl⟩
                  have LT := Lib.hid (fun w' => letter_any [114] i w' (by omega) (by simp))
                  rw [htn] at LT
                  have HTN := Lib.hid htn
                  clear htn
                  have hat1 : 1 ≤ atts2.length := by omega
                  have HIL : Hid (IL wr (.slice Al l2.length cl) l2) := HO2.out.ls
                  have HRN : Hid (RelsI atts2.length (rels ++ [(tn, l2)])) := by
                    have h := RelsI.snoc (HRI.out.mono (by rw [HN0.out]; exact hn2)) (x := l2) (fun e => hl0 (by rw [e]; rfl)) HL2.out.rng HL2.out.asc
                    rw [HRL.out, show [114, UInt8.ofNat (97 + i)] = [114] ++ [UInt8.ofNat (97 + i)] from rfl, HTN.out] at h
                    exact h
                  have HUN : Hid (UsedI atts2.length (rels ++ [(tn, l2)])) := fun a ha => by
                    rcases Nat.lt_or_ge a n0 with h | h
                    · obtain ⟨r, hr, h'⟩ := HUI.out a (by rw [HN0.out]; exact h)
                      exact ⟨r, List.mem_append.2 (.inl hr), h'⟩
                    · exact ⟨_, List.mem_append.2 (.inr (List.mem_singleton.2 rfl)), HL2.out.all a h ha⟩
                  clear hb0 HR HC
                  have SQ' := Lib.hid (HS4.out).rebase
                  have hb1 := SQ'.out.blk.cell (i := 1) rfl
                  go_upto_region 20 with fail
                  obtain ⟨S, hSd⟩ : ∃ S : World → Prop, S = fun w' => w'.cell? ⟨w.heap.size + 1, 1, none⟩ = some (.slice A1 i c1) := ⟨_, rfl⟩
                  have HSI : Hid (∀ w', S w' → w'.cell? ⟨w.heap.size + 1, 1, none⟩ = some (.slice A1 i c1)) := by rw [Hid, hSd]; exact fun _ h => h
                  have HSE : Hid (∀ w' x l, Blk w' (w.heap.size + 1) tSch (x :: .slice A1 i c1 :: l) → S w') := by rw [Hid, hSd]; exact fun w' x l h => h.cell (i := 1) rfl
                  clear hSd hb1
                  have SQ' := Lib.hid (SQ'.out.ext (Ext.refl wr).drew)
                  have HS0 : Hid (S (wr).drew) := HSE.out _ _ _ SQ'.out.blk
                  refine AnyT.start (S := S) (T := fun j => decide (9 ≤ j)) (by kernel_rfl) ?_
                  generalize (wr).drew = wd at *
                  refine AnyT.ld 0 76 ?_ _ rfl rfl (by kernel_rfl) (fun _ _ _ h => h) HS0.out rfl ?_ ?_
                  rotate_left
                  focus (intro w' hSw; have hs := HSI.out w' hSw; go_split_ands; go_simp; try (first | exact rfl | omega | go_num | (intro hbd; exfalso; omega)))
                  simp only [Act.put, List.setIfInBounds_toArray, List.set_cons_zero, List.set_cons_succ]
                  refine AnyT.ld 1 77 ?_ _ rfl rfl (by kernel_rfl) (fun _ _ _ h => h) HS0.out rfl ?_ ?_
                  rotate_left
                  focus (intro w' hSw; have hs := HSI.out w' hSw; go_split_ands; go_simp; try (first | exact rfl | omega | go_num | (intro hbd; exfalso; omega)))
                  simp only [Act.put, List.setIfInBounds_toArray, List.set_cons_zero, List.set_cons_succ]
                  refine AnyT.ld 2 78 ?_ _ rfl rfl (by kernel_rfl) (fun _ _ _ h => h) HS0.out rfl ?_ ?_
                  rotate_left
                  focus (intro w' hSw; have hs := HSI.out w' hSw; go_split_ands; go_simp; try (first | exact rfl | omega | go_num | (intro hbd; exfalso; omega)))
                  simp only [Act.put, List.setIfInBounds_toArray, List.set_cons_zero, List.set_cons_succ]
                  refine AnyT.ld 4 80 ?_ _ rfl rfl (by kernel_rfl) (fun _ _ _ h => h) HS0.out rfl ?_ ?_
                  rotate_left
                  focus (intro w' hSw; have hs := HSI.out w' hSw; go_split_ands; go_simp; try (first | exact rfl | omega | go_num | (intro hbd; exfalso; omega)))
                  simp only [Act.put, List.setIfInBounds_toArray, List.set_cons_zero, List.set_cons_succ]
                  refine AnyT.step 3 (by kernel_rfl) ?_
                  intro o ho K hK
                  simp only [List.getElem?_toArray, List.getElem?_cons_succ, List.getElem?_cons_zero, Option.some.injEq] at ho
                  subst ho
                  go_simp
                  refine (LT.out _).mono ?_
                  rintro e wx ⟨rfl, hx⟩
                  have SQ' := Lib.hid (SQ'.out.ext hx)
                  refine hK.out _ _ (fun _ => HSE.out _ _ _ SQ'.out.blk) ?_
                  clear HS0 hK hx
                  have HS0 := Lib.hid (HSE.out _ _ _ SQ'.out.blk)
                  refine AnyT.ld 5 81 ?_ _ rfl rfl (by kernel_rfl) (fun _ _ _ h => h) HS0.out rfl ?_ ?_
                  rotate_left
                  focus (intro w' hSw; have hs := HSI.out w' hSw; go_split_ands; go_simp; try (first | exact rfl | omega | go_num | (intro hbd; exfalso; omega)))
                  simp only [Act.put, List.setIfInBounds_toArray, List.set_cons_zero, List.set_cons_succ]
                  refine AnyT.step 6 (by kernel_rfl) ?_
                  intro o ho K hK
                  simp only [List.getElem?_toArray, List.getElem?_cons_succ, List.getElem?_cons_zero, Option.some.injEq] at ho
                  subst ho
                  go_simp
                  refine hK.out _ _ (fun _ => HSE.out _ _ _ (SQ'.out.blk.ext ((Ext.refl _).alloc _))) ?_
                  refine box1 (P := fun W => AnyT _ _ _ _ _ _ _ _ _ W) fun WZ HXZ BX => ?_
                  have SQ' := Lib.hid (SQ'.out.ext HXZ.out)
                  clear HXZ hK
                  refine AnyT.step 7 (by kernel_rfl) ?_
                  intro o ho K hK
                  simp only [List.getElem?_toArray, List.getElem?_cons_succ, List.getElem?_cons_zero, Option.some.injEq] at ho
                  subst ho
                  refine if_go rfl ?_
                  obtain ⟨xq, RQ, CQ⟩ := SQ'.out.ol
                  rw [HRL.out] at RQ
                  have hbt : (i + 1) * 40 ≤ 140737488355328 := by omega
                  refine wp_appB _ _ 28 rfl W.heap.size rel_slice _ _ _ rfl RQ _ [.string ⟨tn.toArray⟩, .slice Al l2.length cl] BX.out 1 1 rfl rfl rfl hbt SQ'.out.sz ?_
                  intro v' wq hoq hgq hbq
                  obtain ⟨Aq, cq, rfl, _, _, _⟩ := own_parts hoq
                  have S6 := Lib.hid (SQ'.out.appR HQ.out (x := (tn, l2)) HRL.out RQ CQ HIL.out hoq hgq)
                  clear RQ CQ hoq hgq hbq SQ' BX
                  simp only [Act.put, List.setIfInBounds_toArray, List.set_cons_zero, List.set_cons_succ]
                  refine hK.out _ _ (fun _ => HSE.out _ _ _ S6.out.blk) ?_
                  clear HS0
                  have HS0 := Lib.hid (HSE.out _ _ _ S6.out.blk)
                  refine AnyT.ld 8 84 ?_ _ rfl rfl (by kernel_rfl) (fun _ _ _ h => h) HS0.out rfl ?_ ?_
                  rotate_left
                  focus (intro w' hSw; have hs := HSI.out w' hSw; go_split_ands; go_simp; try (first | exact rfl | omega | go_num | (intro hbd; exfalso; omega)))
                  simp only [Act.put, List.setIfInBounds_toArray, List.set_cons_zero, List.set_cons_succ]
                  have hc0 := S6.out.blk.cell (i := 1) rfl
                  have hf0 := S6.out.blk.frozen 1
                  obtain ⟨W7, hW7, S7, ON7⟩ := S6.out.put HQ.out 1 (.slice Aq (i + 1) cq)
                  have HW7 := Lib.hid hW7
                  clear hW7 hK
                  refine AnyT.step 9 (by kernel_rfl) ?_
                  intro o ho K hK
                  simp only [List.getElem?_toArray, List.getElem?_cons_succ, List.getElem?_cons_zero, Option.some.injEq] at ho
                  subst ho
                  go_simp
                  refine hK.out _ _ (fun h => by cases h) ?_
                  rw [HW7.out]
                  refine AnyT.done (by kernel_rfl) ?_
                  clear hc0 hf0 HSI HSE HS0 S6 ON7 HW7 hK
                  go_wp2_with fail
                  go_roundw
                  case rel => exact ⟨i + 1, _, _, atts2, rels ++ [(tn, l2)], _, by omega, by go_num, by rw [List.length_append, HRL.out]; rfl, hm2, fun _ => hat1, HA2, HRN, HUN, S7⟩
                  case measure => simp [RowKit.intOf]; omega
    · obtain rfl : i = n := by omega
      go_upto_region 22 with fail
      obtain ⟨N, hN⟩ : ∃ N, atts.length = N := ⟨_, rfl⟩
      have HN := Lib.hid hN
      rw [hN] at HSr hb0 hal ha1 ⊢
      clear hN hb0 hi
      go_loopw [88] (fun v88 wr => ∃ (j : Nat) (vf : Value) (feats : List Fe) (label : Int), j ≤ N ∧ v88 = .int .i64 j ∧ Hid (FI atts j feats label) ∧ Hid (SB w g w.heap.size W.heap.size zsch [.slice A0 N c0, .slice A1 i c1, vf, .int .i64 label] wo (.slice A0 N c0) (.slice A1 i c1) vf atts rels feats wr)) (fun v88 _ => N - (RowKit.intOf v88).toNat)
      case atStart => exact ⟨0, _, [], -1, Nat.zero_le _, rfl, FI.start _, HSr⟩
      case round =>
        obtain ⟨j, vf, feats, label, hj, rfl, HFI, HSX⟩ := hrel
        obtain ⟨Af, cf, xf, rfl, _, _, _, _⟩ := HSX.out.of.parts
        by_cases hjN : j < N
        · have hjl : j < atts.length := by rw [HN.out]; exact hjN
          have hAL : AL wr (.slice A0 N c0) atts := HSX.out.oa.ls
          obtain ⟨ga, oa, rfl, _, hp1, hp2⟩ := AL.get hAL hjl
          have HAJ : Hid (atts[j]? = some atts[j]) := List.getElem?_eq_getElem hjl
          have hk13 := (HAI.out j hjl).2
          clear hAL
          generalize atts[j] = at_ at *
          clear hjl
          obtain ⟨nm, kd⟩ := at_
          simp only at hp1 hp2 hk13
          have hlb : label = -1 ∨ 0 ≤ label := by
            rcases HFI.out.lb with h | ⟨q, h, _, _⟩
            · exact .inl h
            · exact .inr (by omega)
          have hgr : g < wr.heap.size := by have := HSX.out.zz; omega
          go_upto_region 24 with fail
          refine box1 (P := fun W => Code.wp _ _ _ _ W) fun W3 HX3 BA => ?_
          have HSX := Lib.hid (HSX.out.ext HX3.out)
          have BAX := Lib.hid BA.out
          have hk1 := BAX.out.cell (i := 1) rfl
          have hc3 := HSX.out.blk.cell (i := 3) rfl
          clear HX3 hp1 hp2 BA
          by_cases hk2 : kd = 2
          · subst hk2
            rcases hlb with rfl | hl0
            · skip
              go_wp2_with fail
              refine (n_any g 2 _ (HSX.out).src (by decide) (by decide)).mono ?_
              rintro e wx ⟨r, hr, rfl, hsx, hox⟩
              have HSX := Lib.hid ((HSX.out).call HQ.out hox hsx)
              have BAX := Lib.hid (BAX.out.only hox (by omega))
              clear hsx hox hk1
              have hk1 := BAX.out.cell (i := 1) rfl
              clear hc3
              by_cases hr0 : r = 0
              · have hb : ((r : Int) == 0) = true := by rw [beq_iff_eq]; omega
                have hc0 := HSX.out.blk.cell (i := 3) rfl
                have hf0 := HSX.out.blk.frozen 3
                obtain ⟨W7, hW7, S7, ON7⟩ := HSX.out.put HQ.out 3 (.int .i64 j)
                have HW7 := Lib.hid hW7
                have HFN := Lib.hid (HFI.out.label HAJ.out rfl)
                clear hW7 hr0
                go_upto_region 30 with fail
                rw [HW7.out]
                clear hc0 hf0 hk1 HW7 ON7
                go_wp2_with fail
                go_roundw
                case rel => exact ⟨j + 1, _, feats, (j : Int), by omega, by go_num, HFN, S7⟩
                case measure => simp [RowKit.intOf]; omega
              · have hb : ((r : Int) == 0) = false := by rw [beq_eq_false_iff_ne]; omega
                clear hr0
                go_wp2_with fail
                refine (n_any g 4 _ (HSX.out).src (by decide) (by decide)).mono ?_
                rintro e wx ⟨r2, hr2, rfl, hsx, hox⟩
                have HSX := Lib.hid ((HSX.out).call HQ.out hox hsx)
                have BAX := Lib.hid (BAX.out.only hox (by omega))
                clear hsx hox hk1
                have hk1 := BAX.out.cell (i := 1) rfl
                by_cases hr2 : 0 < r2
                · have hb2 : decide ((r2 : Int) > 0) = true := decide_eq_true (by omega)
                  go_upto_region 27 with fail
                  obtain ⟨S, hSd⟩ : ∃ S : World → Prop, S = fun w' => w'.cell? ⟨w.heap.size + 1, 2, none⟩ = some (.slice Af feats.length cf) := ⟨_, rfl⟩
                  have HSI : Hid (∀ w', S w' → w'.cell? ⟨w.heap.size + 1, 2, none⟩ = some (.slice Af feats.length cf)) := by rw [Hid, hSd]; exact fun _ h => h
                  have HSE : Hid (∀ w' x y l, Blk w' (w.heap.size + 1) tSch (x :: y :: .slice Af feats.length cf :: l) → S w') := by rw [Hid, hSd]; exact fun w' x y l h => h.cell (i := 2) rfl
                  clear hSd
                  have HSX := Lib.hid (HSX.out.ext (Ext.refl wx).drew)
                  have HS0 : Hid (S (wx).drew) := HSE.out _ _ _ _ HSX.out.blk
                  refine AnyT.start (S := S) (T := fun j => decide (9 ≤ j)) (by kernel_rfl) ?_
                  generalize (wx).drew = wd at *
                  refine AnyT.ld 0 118 ?_ _ rfl rfl (by kernel_rfl) (fun _ _ _ h => h) HS0.out rfl ?_ ?_
                  rotate_left
                  focus (intro w' hSw; have hs := HSI.out w' hSw; go_split_ands; go_simp; try (first | exact rfl | omega | go_num | (intro hbd; exfalso; omega)))
                  simp only [Act.put, List.setIfInBounds_toArray, List.set_cons_zero, List.set_cons_succ]
                  refine AnyT.ld 1 119 ?_ _ rfl rfl (by kernel_rfl) (fun _ _ _ h => h) HS0.out rfl ?_ ?_
                  rotate_left
                  focus (intro w' hSw; have hs := HSI.out w' hSw; go_split_ands; go_simp; try (first | exact rfl | omega | go_num | (intro hbd; exfalso; omega)))
                  simp only [Act.put, List.setIfInBounds_toArray, List.set_cons_zero, List.set_cons_succ]
                  refine AnyT.ld 2 120 ?_ _ rfl rfl (by kernel_rfl) (fun _ _ _ h => h) HS0.out rfl ?_ ?_
                  rotate_left
                  focus (intro w' hSw; have hs := HSI.out w' hSw; go_split_ands; go_simp; try (first | exact rfl | omega | go_num | (intro hbd; exfalso; omega)))
                  simp only [Act.put, List.setIfInBounds_toArray, List.set_cons_zero, List.set_cons_succ]
                  refine AnyT.ld 3 121 ?_ _ rfl rfl (by kernel_rfl) (fun _ _ _ h => h) HS0.out rfl ?_ ?_
                  rotate_left
                  focus (intro w' hSw; have hs := HSI.out w' hSw; go_split_ands; go_simp; try (first | exact rfl | omega | go_num | (intro hbd; exfalso; omega)))
                  simp only [Act.put, List.setIfInBounds_toArray, List.set_cons_zero, List.set_cons_succ]
                  refine AnyT.step 4 (by kernel_rfl) ?_
                  intro o ho K hK
                  simp only [List.getElem?_toArray, List.getElem?_cons_succ, List.getElem?_cons_zero, Option.some.injEq] at ho
                  subst ho
                  go_simp
                  refine (n_any g 2 _ HSX.out.src (by decide) (by decide)).mono ?_
                  rintro e wy ⟨ms, hms, rfl, hsx, hox⟩
                  have HSX := Lib.hid (HSX.out.call HQ.out hox hsx)
                  refine hK.out _ _ (fun _ => HSE.out _ _ _ _ HSX.out.blk) ?_
                  clear HS0 hK hsx hox
                  have HS0 := Lib.hid (HSE.out _ _ _ _ HSX.out.blk)
                  refine AnyT.ld 5 123 ?_ _ rfl rfl (by kernel_rfl) (fun _ _ _ h => h) HS0.out rfl ?_ ?_
                  rotate_left
                  focus (intro w' hSw; have hs := HSI.out w' hSw; go_split_ands; go_simp; try (first | exact rfl | omega | go_num | (intro hbd; exfalso; omega)))
                  simp only [Act.put, List.setIfInBounds_toArray, List.set_cons_zero, List.set_cons_succ]
                  refine AnyT.step 6 (by kernel_rfl) ?_
                  intro o ho K hK
                  simp only [List.getElem?_toArray, List.getElem?_cons_succ, List.getElem?_cons_zero, Option.some.injEq] at ho
                  subst ho
                  go_simp
                  refine hK.out _ _ (fun _ => HSE.out _ _ _ _ (HSX.out.blk.ext ((Ext.refl _).alloc _))) ?_
                  refine box1 (P := fun W => AnyT _ _ _ _ _ _ _ _ _ W) fun WZ HXZ BX => ?_
                  have HSX := Lib.hid (HSX.out.ext HXZ.out)
                  clear HXZ hK
                  refine AnyT.step 7 (by kernel_rfl) ?_
                  intro o ho K hK
                  simp only [List.getElem?_toArray, List.getElem?_cons_succ, List.getElem?_cons_zero, Option.some.injEq] at ho
                  subst ho
                  refine if_go rfl ?_
                  obtain ⟨xq, RQ, CQ⟩ := HSX.out.of
                  have hbt : (feats.length + 1) * 24 ≤ 140737488355328 := by have := HFI.out.len; omega
                  refine wp_appB _ _ 29 rfl W.heap.size fea_slice _ _ _ rfl RQ _ [.int .i64 j, .int .i64 1, .int .i64 ms] BX.out 1 1 rfl rfl rfl hbt HSX.out.sz ?_
                  intro v' wq hoq hgq hbq
                  obtain ⟨Aq, cq, rfl, _, _, _⟩ := own_parts hoq
                  have S6 := Lib.hid (HSX.out.appF HQ.out (x := ((j : Int), 1, (ms : Int))) rfl RQ CQ hoq hgq)
                  clear RQ CQ hoq hgq hbq HSX BX
                  simp only [Act.put, List.setIfInBounds_toArray, List.set_cons_zero, List.set_cons_succ]
                  refine hK.out _ _ (fun _ => HSE.out _ _ _ _ S6.out.blk) ?_
                  clear HS0
                  have HS0 := Lib.hid (HSE.out _ _ _ _ S6.out.blk)
                  refine AnyT.ld 8 126 ?_ _ rfl rfl (by kernel_rfl) (fun _ _ _ h => h) HS0.out rfl ?_ ?_
                  rotate_left
                  focus (intro w' hSw; have hs := HSI.out w' hSw; go_split_ands; go_simp; try (first | exact rfl | omega | go_num | (intro hbd; exfalso; omega)))
                  simp only [Act.put, List.setIfInBounds_toArray, List.set_cons_zero, List.set_cons_succ]
                  have hc0 := S6.out.blk.cell (i := 2) rfl
                  have hf0 := S6.out.blk.frozen 2
                  obtain ⟨W7, hW7, S7, ON7⟩ := S6.out.put HQ.out 2 (.slice Aq (feats.length + 1) cq)
                  have HW7 := Lib.hid hW7
                  clear hW7 hK
                  refine AnyT.step 9 (by kernel_rfl) ?_
                  intro o ho K hK
                  simp only [List.getElem?_toArray, List.getElem?_cons_succ, List.getElem?_cons_zero, Option.some.injEq] at ho
                  subst ho
                  go_simp
                  refine hK.out _ _ (fun h => by cases h) ?_
                  rw [HW7.out]
                  refine AnyT.done (by kernel_rfl) ?_
                  have HFN := Lib.hid (HFI.out.snoc HAJ.out (k := 1) (m := (ms : Int)) (.inl ⟨rfl, rfl, by omega⟩))
                  clear hc0 hf0 HSI HSE HS0 S6 ON7 HW7 hK hk1
                  go_wp2_with fail
                  go_roundw
                  case rel => exact ⟨j + 1, _, feats ++ [((j : Int), 1, (ms : Int))], _, by omega, by go_num, HFN, S7⟩
                  case measure => simp [RowKit.intOf]; omega
                · have hb2 : decide ((r2 : Int) > 0) = false := decide_eq_false (by omega)
                  go_wp2_with fail
                  go_roundw
                  case rel => exact ⟨j + 1, _, feats, _, by omega, by go_num, HFI.out.skip, HSX⟩
                  case measure => simp [RowKit.intOf]; omega
            · have hlt : decide (label < 0) = false := decide_eq_false (by omega)
              go_wp2_with fail
              refine (n_any g 4 _ (HSX.out).src (by decide) (by decide)).mono ?_
              rintro e wx ⟨r2, hr2, rfl, hsx, hox⟩
              have HSX := Lib.hid ((HSX.out).call HQ.out hox hsx)
              have BAX := Lib.hid (BAX.out.only hox (by omega))
              clear hsx hox hk1
              have hk1 := BAX.out.cell (i := 1) rfl
              by_cases hr2 : 0 < r2
              · have hb2 : decide ((r2 : Int) > 0) = true := decide_eq_true (by omega)
                go_upto_region 27 with fail
                obtain ⟨S, hSd⟩ : ∃ S : World → Prop, S = fun w' => w'.cell? ⟨w.heap.size + 1, 2, none⟩ = some (.slice Af feats.length cf) := ⟨_, rfl⟩
                have HSI : Hid (∀ w', S w' → w'.cell? ⟨w.heap.size + 1, 2, none⟩ = some (.slice Af feats.length cf)) := by rw [Hid, hSd]; exact fun _ h => h
                have HSE : Hid (∀ w' x y l, Blk w' (w.heap.size + 1) tSch (x :: y :: .slice Af feats.length cf :: l) → S w') := by rw [Hid, hSd]; exact fun w' x y l h => h.cell (i := 2) rfl
                clear hSd
                have HSX := Lib.hid (HSX.out.ext (Ext.refl wx).drew)
                have HS0 : Hid (S (wx).drew) := HSE.out _ _ _ _ HSX.out.blk
                refine AnyT.start (S := S) (T := fun j => decide (9 ≤ j)) (by kernel_rfl) ?_
                generalize (wx).drew = wd at *
                refine AnyT.ld 0 118 ?_ _ rfl rfl (by kernel_rfl) (fun _ _ _ h => h) HS0.out rfl ?_ ?_
                rotate_left
                focus (intro w' hSw; have hs := HSI.out w' hSw; go_split_ands; go_simp; try (first | exact rfl | omega | go_num | (intro hbd; exfalso; omega)))
                simp only [Act.put, List.setIfInBounds_toArray, List.set_cons_zero, List.set_cons_succ]
                refine AnyT.ld 1 119 ?_ _ rfl rfl (by kernel_rfl) (fun _ _ _ h => h) HS0.out rfl ?_ ?_
                rotate_left
                focus (intro w' hSw; have hs := HSI.out w' hSw; go_split_ands; go_simp; try (first | exact rfl | omega | go_num | (intro hbd; exfalso; omega)))
                simp only [Act.put, List.setIfInBounds_toArray, List.set_cons_zero, List.set_cons_succ]
                refine AnyT.ld 2 120 ?_ _ rfl rfl (by kernel_rfl) (fun _ _ _ h => h) HS0.out rfl ?_ ?_
                rotate_left
                focus (intro w' hSw; have hs := HSI.out w' hSw; go_split_ands; go_simp; try (first | exact rfl | omega | go_num | (intro hbd; exfalso; omega)))
                simp only [Act.put, List.setIfInBounds_toArray, List.set_cons_zero, List.set_cons_succ]
                refine AnyT.ld 3 121 ?_ _ rfl rfl (by kernel_rfl) (fun _ _ _ h => h) HS0.out rfl ?_ ?_
                rotate_left
                focus (intro w' hSw; have hs := HSI.out w' hSw; go_split_ands; go_simp; try (first | exact rfl | omega | go_num | (intro hbd; exfalso; omega)))
                simp only [Act.put, List.setIfInBounds_toArray, List.set_cons_zero, List.set_cons_succ]
                refine AnyT.step 4 (by kernel_rfl) ?_
                intro o ho K hK
                simp only [List.getElem?_toArray, List.getElem?_cons_succ, List.getElem?_cons_zero, Option.some.injEq] at ho
                subst ho
                go_simp
                refine (n_any g 2 _ HSX.out.src (by decide) (by decide)).mono ?_
                rintro e wy ⟨ms, hms, rfl, hsx, hox⟩
                have HSX := Lib.hid (HSX.out.call HQ.out hox hsx)
                refine hK.out _ _ (fun _ => HSE.out _ _ _ _ HSX.out.blk) ?_
                clear HS0 hK hsx hox
                have HS0 := Lib.hid (HSE.out _ _ _ _ HSX.out.blk)
                refine AnyT.ld 5 123 ?_ _ rfl rfl (by kernel_rfl) (fun _ _ _ h => h) HS0.out rfl ?_ ?_
                rotate_left
                focus (intro w' hSw; have hs := HSI.out w' hSw; go_split_ands; go_simp; try (first | exact rfl | omega | go_num | (intro hbd; exfalso; omega)))
                simp only [Act.put, List.setIfInBounds_toArray, List.set_cons_zero, List.set_cons_succ]
                refine AnyT.step 6 (by kernel_rfl) ?_
                intro o ho K hK
                simp only [List.getElem?_toArray, List.getElem?_cons_succ, List.getElem?_cons_zero, Option.some.injEq] at ho
                subst ho
                go_simp
                refine hK.out _ _ (fun _ => HSE.out _ _ _ _ (HSX.out.blk.ext ((Ext.refl _).alloc _))) ?_
                refine box1 (P := fun W => AnyT _ _ _ _ _ _ _ _ _ W) fun WZ HXZ BX => ?_
                have HSX := Lib.hid (HSX.out.ext HXZ.out)
                clear HXZ hK
                refine AnyT.step 7 (by kernel_rfl) ?_
                intro o ho K hK
                simp only [List.getElem?_toArray, List.getElem?_cons_succ, List.getElem?_cons_zero, Option.some.injEq] at ho
                subst ho
                refine if_go rfl ?_
                obtain ⟨xq, RQ, CQ⟩ := HSX.out.of
                have hbt : (feats.length + 1) * 24 ≤ 140737488355328 := by have := HFI.out.len; omega
                refine wp_appB _ _ 29 rfl W.heap.size fea_slice _ _ _ rfl RQ _ [.int .i64 j, .int .i64 1, .int .i64 ms] BX.out 1 1 rfl rfl rfl hbt HSX.out.sz ?_
                intro v' wq hoq hgq hbq
                obtain ⟨Aq, cq, rfl, _, _, _⟩ := own_parts hoq
                have S6 := Lib.hid (HSX.out.appF HQ.out (x := ((j : Int), 1, (ms : Int))) rfl RQ CQ hoq hgq)
                clear RQ CQ hoq hgq hbq HSX BX
                simp only [Act.put, List.setIfInBounds_toArray, List.set_cons_zero, List.set_cons_succ]
                refine hK.out _ _ (fun _ => HSE.out _ _ _ _ S6.out.blk) ?_
                clear HS0
                have HS0 := Lib.hid (HSE.out _ _ _ _ S6.out.blk)
                refine AnyT.ld 8 126 ?_ _ rfl rfl (by kernel_rfl) (fun _ _ _ h => h) HS0.out rfl ?_ ?_
                rotate_left
                focus (intro w' hSw; have hs := HSI.out w' hSw; go_split_ands; go_simp; try (first | exact rfl | omega | go_num | (intro hbd; exfalso; omega)))
                simp only [Act.put, List.setIfInBounds_toArray, List.set_cons_zero, List.set_cons_succ]
                have hc0 := S6.out.blk.cell (i := 2) rfl
                have hf0 := S6.out.blk.frozen 2
                obtain ⟨W7, hW7, S7, ON7⟩ := S6.out.put HQ.out 2 (.slice Aq (feats.length + 1) cq)
                have HW7 := Lib.hid hW7
                clear hW7 hK
                refine AnyT.step 9 (by kernel_rfl) ?_
                intro o ho K hK
                simp only [List.getElem?_toArray, List.getElem?_cons_succ, List.getElem?_cons_zero, Option.some.injEq] at ho
                subst ho
                go_simp
                refine hK.out _ _ (fun h => by cases h) ?_
                rw [HW7.out]
                refine AnyT.done (by kernel_rfl) ?_
                have HFN := Lib.hid (HFI.out.snoc HAJ.out (k := 1) (m := (ms : Int)) (.inl ⟨rfl, rfl, by omega⟩))
                clear hc0 hf0 HSI HSE HS0 S6 ON7 HW7 hK hk1
                go_wp2_with fail
                go_roundw
                case rel => exact ⟨j + 1, _, feats ++ [((j : Int), 1, (ms : Int))], _, by omega, by go_num, HFN, S7⟩
                case measure => simp [RowKit.intOf]; omega
              · have hb2 : decide ((r2 : Int) > 0) = false := decide_eq_false (by omega)
                go_wp2_with fail
                go_roundw
                case rel => exact ⟨j + 1, _, feats, _, by omega, by go_num, HFI.out.skip, HSX⟩
                case measure => simp [RowKit.intOf]; omega
          · have hb : (kd == 2) = false := by rw [beq_eq_false_iff_ne]; exact hk2
            clear hc3
            by_cases hk3 : kd = 3
            · subst hk3
              clear hb
              go_wp2_with fail
              refine (n_any g 4 _ (HSX.out).src (by decide) (by decide)).mono ?_
              rintro e wx ⟨r3, hr3, rfl, hsx, hox⟩
              have HSX := Lib.hid ((HSX.out).call HQ.out hox hsx)
              have BAX := Lib.hid (BAX.out.only hox (by omega))
              clear hsx hox hk1
              have hk1 := BAX.out.cell (i := 1) rfl
              by_cases hr3 : 0 < r3
              · have hb3 : decide ((r3 : Int) > 0) = true := decide_eq_true (by omega)
                obtain ⟨xf2, rf, cf2⟩ := HSX.out.of
                have RF := Lib.hid rf
                have CF := Lib.hid cf2
                clear rf cf2
                have hc2 := HSX.out.blk.cell (i := 2) rfl
                have hbt : (feats.length + 1) * 24 ≤ 140737488355328 := by have := HFI.out.len; omega
                have hsz := HSX.out.sz
                go_wp2_with (at_builtin; refine wpList_app1 rfl _ _ 29 rfl W.heap.size fea_slice _ _ _ rfl RF.out #[.int .i64 j, .int .i64 2, .int .i64 0] 1 1 rfl rfl rfl hbt hsz ?_)
                intro v' wq hoq hgq _
                obtain ⟨Aq, cq, rfl, _, _, _⟩ := own_parts hoq
                have S6 := Lib.hid (HSX.out.appF HQ.out (x := ((j : Int), 2, 0)) rfl RF.out CF.out hoq hgq)
                clear RF CF hoq hgq hc2 hbt hsz HSX
                have hc0 := S6.out.blk.cell (i := 2) rfl
                have hf0 := S6.out.blk.frozen 2
                obtain ⟨W7, hW7, S7, ON7⟩ := S6.out.put HQ.out 2 (.slice Aq (feats.length + 1) cq)
                have HW7 := Lib.hid hW7
                have HFN := Lib.hid (HFI.out.snoc HAJ.out (k := 2) (m := 0) (.inr ⟨rfl, rfl, rfl⟩))
                clear hW7
                go_upto_region 30 with fail
                rw [HW7.out]
                clear hc0 hf0 hk1 HW7 ON7 S6
                go_wp2_with fail
                go_roundw
                case rel => exact ⟨j + 1, _, feats ++ [((j : Int), 2, 0)], label, by omega, by go_num, HFN, S7⟩
                case measure => simp [RowKit.intOf]; omega
              · have hb3 : decide ((r3 : Int) > 0) = false := decide_eq_false (by omega)
                go_wp2_with fail
                go_roundw
                case rel => exact ⟨j + 1, _, feats, _, by omega, by go_num, HFI.out.skip, HSX⟩
                case measure => simp [RowKit.intOf]; omega
            · have hb3 : (kd == 3) = false := by rw [beq_eq_false_iff_ne]; exact hk3
              go_wp2_with fail
              go_roundw
              case rel => exact ⟨j + 1, _, feats, _, by omega, by go_num, HFI.out.skip, HSX⟩
              case measure => simp [RowKit.intOf]; omega
        · obtain rfl : j = N := by omega
          have HFN : Hid (FI atts atts.length feats label) := by rw [HN.out]; exact HFI.out
          rw [← HN.out] at HSX hal ha1 ⊢
          have hf8 : ¬ (8 < feats.length) := by have := HFN.out.len; omega
          have hf8d : decide (feats.length > 8) = false := decide_eq_false hf8
          have HOK := Lib.hid (made_ok HAI.out HRI.out HUI.out HFN.out (by omega) (by omega) (by rw [HRL.out]; omega) (by rw [HRL.out]; omega))
          have HSV : Hid (SchV wr (.agg #[.slice A0 atts.length c0, .slice A1 i c1, .slice Af feats.length cf, .int .i64 label]) ⟨atts, rels, feats, label⟩) := by
            refine ⟨A0, c0, A1, c1, Af, cf, ?_, HSX.out.oa.ls, ?_, HSX.out.of.ls⟩
            · show _ = Value.agg #[_, .slice A1 rels.length c1, _, _]
              rw [HRL.out]
            · have h := HSX.out.rebase.ol.ls
              show RlL wr (.slice A1 rels.length c1) rels
              rw [HRL.out]
              exact h
          obtain ⟨k0, k1, k2, k3⟩ := HSX.out.blk.four
          obtain ⟨j0, j1, j2, j3⟩ := HSX.out.res.four
          obtain ⟨f0, f1, f2, f3⟩ := HSX.out.res.free4
          obtain ⟨W', hW', B7, K7, N7⟩ := put4 HSX.out.res (.slice A0 atts.length c0) (.slice A1 i c1) (.slice Af feats.length cf) (.int .i64 label)
          have HW := Lib.hid hW'
          have HS7 := Lib.hid (HSX.out.src.past N7.out (by omega))
          have HO7 := Lib.hid (HSX.out.on.fresh N7.out (Nat.le_refl _))
          have HV7 := Lib.hid (HSV.out.kept K7.out (by decide) (by decide) (by decide) (by decide))
          have hfl : feats.length ≤ most := by have := HFN.out.len; omega
          clear hW'
          go_wp2
          rw [HW.out]
          exact ret_sch rfl rfl rfl B7.out ⟨_, _, HOK.out, hal, hfl, rfl, HV7.out, HS7.out, HO7.out⟩
end Go.Proofs.YthalpbjkkfkheaaGreatDoor
