/- The printed functions of the checker, told plainly: small, ends, Ahead, Small. Conditions: rows of at most 100000. -/
import Derived.Test.YtckebppacealeaaDoorPCodeUnlikex1
import Derived.Test.YtckebppacealeaaDoorPCodeUnlikex2
import Derived.Test.YtckebppacealeaaDoorPCodeUnlikex3
set_option linter.unusedVariables false
namespace Go.Proofs.YtckebppacealeaaDoor.Lp
open Go.RowKit Go.Proofs.YtckebppacealeaaDoor.PCodeUnlike Go.Proofs.YtckebppacealeaaDoorW.PrintWords Go.Proofs.YtckebppacealeaaDoorW.PrintLast
theorem w64n {n : Nat} (h : n < 4611686018427387904) : wrap64 ((n : Int) + 1) = ((n + 1 : Nat) : Int) := by rw [wrap64]; omega
theorem getD_at {α : Type} (l : List α) (i : Nat) (d : α) (h : i < l.length) : l.getD i d = l[i] := by simp [List.getD_eq_getElem?_getD, h]
theorem getD_set {α : Type} (l : List α) (i j : Nat) (v d : α) (h : i < l.length) : (l.set i v).getD j d = if i = j then v else l.getD j d := by
  simp only [List.getD_eq_getElem?_getD, List.getElem?_set]
  by_cases e : i = j
  · subst e; simp [h]
  · simp [e]
theorem ext_getD {α : Type} (d : α) {l m : List α} (h : l.length = m.length) (g : ∀ i, i < l.length → l.getD i d = m.getD i d) : l = m := by
  apply List.ext_getElem h
  intro i h1 h2
  have := g i h1
  rwa [getD_at _ _ _ h1, getD_at _ _ _ h2] at this
theorem getD_mem {α : Type} (l : List α) (i : Nat) (d : α) (h : i < l.length) : l.getD i d ∈ l := by
  rw [getD_at _ _ _ h]; exact List.getElem_mem h
theorem mem_getD {α : Type} {l : List α} {x : α} (d : α) (h : x ∈ l) : ∃ i, i < l.length ∧ l.getD i d = x := by
  obtain ⟨i, hi, e⟩ := List.getElem_of_mem h
  exact ⟨i, hi, by rw [getD_at _ _ _ hi]; exact e⟩
theorem getD_rep {α : Type} (n i : Nat) (v d : α) (h : i < n) : (List.replicate n v).getD i d = v := by simp [List.getD_eq_getElem?_getD, h]
theorem drop_at {α : Type} (l : List α) (i : Nat) (d : α) (h : i < l.length) : l.drop i = l.getD i d :: l.drop (i + 1) := by
  rw [getD_at _ _ _ h]; exact List.drop_eq_getElem_cons h

/-! ### Contains -/
theorem index_l (l : List Int) (a : Int) (hl : l.length < 1000000) : ∀ (m i : Nat), l.length - i = m → i ≤ l.length → (∀ j, j < i → l.getD j 0 ≠ a) →
    ∃ r, Ev (fun k => slices_Index_int_int.l0 k l a (l.length : Int) (i : Int)) r ∧ (r ≥ 0 ↔ a ∈ l) := by
  intro m
  induction m with
  | zero =>
    intro i hm hi hn
    refine ⟨-1, Ev.step (f := fun _ => some (-1)) (fun k => by rw [slices_Index_int_int.l0, if_neg (by omega)]) (Ev.now _), ?_⟩
    refine ⟨fun h => absurd h (by decide), fun h => ?_⟩
    obtain ⟨j, hj, e⟩ := mem_getD 0 h
    exact absurd e (hn j (by omega))
  | succ m ih =>
    intro i hm hi hn
    have hlt : i < l.length := by omega
    by_cases e : a = l.getD i 0
    · refine ⟨(i : Int), Ev.step (f := fun _ => some (i : Int)) (fun k => by rw [slices_Index_int_int.l0, if_pos (by omega), if_pos (by omega), if_pos (by omega), if_pos (by exact e)]) (Ev.now _), ?_⟩
      exact ⟨fun _ => e ▸ getD_mem l i 0 hlt, fun _ => by omega⟩
    · obtain ⟨r, h1, h2⟩ := ih (i + 1) (by omega) (by omega) (fun j hj => by
        by_cases ej : j = i
        · subst ej; exact fun z => e z.symm
        · exact hn j (by omega))
      refine ⟨r, Ev.step (fun k => ?_) h1, h2⟩
      rw [slices_Index_int_int.l0, if_pos (by omega), if_pos (by omega), if_pos (by omega), if_neg (by exact e), w64n (by omega)]
theorem contains_ev (l : List Int) (a : Int) (hl : l.length < 1000000) : Ev (fun k => slices_Contains_int_int.f k l a) (decide (a ∈ l)) := by
  obtain ⟨r, h1, h2⟩ := index_l l a hl _ 0 rfl (by omega) (fun j hj => absurd hj (by omega))
  have : Ev (fun k => slices_Index_int_int.f k l a) r := h1
  refine this.bind (f := fun _ t => some (decide (t ≥ 0))) ?_
  have e : decide (r ≥ 0) = decide (a ∈ l) := decide_eq_decide.mpr h2
  rw [e]; exact Ev.now _
/-! ### The blocks ahead -/
def tos (B : List S56) (u : Nat) : List Int := (B.getD u z56).f2.f2
structure Bd (B : List S56) : Prop where
  n : B.length ≤ 100000
  t : ∀ u, u < B.length → (tos B u).length ≤ 100000
  c : ∀ u, u < B.length → (B.getD u z56).f0.length ≤ 100000 ∧ (B.getD u z56).f1.length ≤ 100000
def ints (l : List Nat) : List Int := l.map (fun u : Nat => (u : Int))
theorem ints_len (l : List Nat) : (ints l).length = l.length := List.length_map ..
theorem ints_app (l m : List Nat) : ints (l ++ m) = ints l ++ ints m := List.map_append
def ah (B : List S56) (t i : Nat) : List Int := ints ((List.range i).filter (fun u => decide ((t : Int) ∈ tos B u)))
theorem ah_len (B : List S56) (t i : Nat) : (ah B t i).length ≤ i := by
  rw [ah, ints_len]
  have := List.length_filter_le (fun u => decide ((t : Int) ∈ tos B u)) (List.range i)
  simpa using this
theorem ah_succ (B : List S56) (t i : Nat) : ah B t (i + 1) = if (t : Int) ∈ tos B i then ah B t i ++ [(i : Int)] else ah B t i := by
  unfold ah
  rw [List.range_succ, List.filter_append]
  by_cases h : (t : Int) ∈ tos B i
  · rw [if_pos h, List.filter_cons_of_pos (by simpa using h), List.filter_nil, ints_app]; rfl
  · rw [if_neg h, List.filter_cons_of_neg (by simpa using h), List.filter_nil, List.append_nil]
theorem ah_not (B : List S56) (t i : Nat) : (i : Int) ∉ ah B t i := by
  intro h
  obtain ⟨u, hu, e⟩ := List.mem_map.mp h
  have := List.mem_range.mp (List.mem_filter.mp hu).1
  omega
def rw_ (B : List S56) (i j t : Nat) : List Int := if (t : Int) ∈ (tos B i).take j then ah B t i ++ [(i : Int)] else ah B t i
structure Aw (B : List S56) (i j : Nat) (X : List (List Int)) : Prop where
  len : X.length = B.length
  val : ∀ t, t < B.length → X.getD t [] = rw_ B i j t
theorem rw_mem (B : List S56) (i j t : Nat) : (i : Int) ∈ rw_ B i j t ↔ (t : Int) ∈ (tos B i).take j := by
  unfold rw_
  by_cases h : (t : Int) ∈ (tos B i).take j
  · rw [if_pos h]; simp [h]
  · rw [if_neg h]; exact ⟨fun z => absurd z (ah_not B t i), fun z => absurd z h⟩
theorem rw_len (B : List S56) (i j t : Nat) : (rw_ B i j t).length ≤ i + 1 := by
  have := ah_len B t i
  unfold rw_
  split
  · rw [List.length_append, List.length_singleton]; omega
  · omega
theorem aw_l1 (B : List S56) (s : Bd B) (i : Nat) (hi : i < B.length) (r : List (List Int))
    (H : ∀ X, Aw B (i + 1) 0 X → Ev (fun k => check_Ahead.l0 k X B (B.length : Int) ((i + 1 : Nat) : Int)) r) :
    ∀ (m j : Nat) (X : List (List Int)), (tos B i).length - j = m → j ≤ (tos B i).length → Aw B i j X →
      Ev (fun k => check_Ahead.l1 k X (i : Int) B (B.length : Int) (i : Int) (tos B i) ((tos B i).length : Int) (j : Int)) r := by
  have hn := s.n
  have ht := s.t i hi
  intro m
  induction m with
  | zero =>
    intro j X hm hj hX
    obtain rfl : j = (tos B i).length := by omega
    refine Ev.step (fun k => ?_) (H X ⟨hX.len, fun t h => ?_⟩)
    · rw [check_Ahead.l1, if_neg (by omega), w64n (by omega)]
    · rw [hX.val t h, rw_, rw_, List.take_length, List.take_zero, if_neg (List.not_mem_nil), ah_succ]
  | succ m ih =>
    intro j X hm hj hX
    have hlt : j < (tos B i).length := by omega
    have hxl := hX.len
    have er : rd (tos B i) (j : Int) = (tos B i).getD j 0 := rfl
    have etk : (tos B i).take (j + 1) = (tos B i).take j ++ [(tos B i).getD j 0] := by
      rw [List.take_succ_eq_append_getElem hlt, ← getD_at _ _ 0 hlt]
    generalize (tos B i).getD j 0 = t at er etk
    have same : (∀ u, u < B.length → ((u : Int) = t → (u : Int) ∈ (tos B i).take j)) → Ev (fun k => check_Ahead.l1 k X (i : Int) B (B.length : Int) (i : Int) (tos B i) ((tos B i).length : Int) ((j + 1 : Nat) : Int)) r := by
      intro hs
      refine ih (j + 1) X (by omega) (by omega) ⟨hxl, fun u hu => ?_⟩
      rw [hX.val u hu, rw_, rw_, etk]
      have : (u : Int) ∈ (tos B i).take j ++ [t] ↔ (u : Int) ∈ (tos B i).take j := by
        rw [List.mem_append, List.mem_singleton]
        exact ⟨fun z => z.elim id (hs u hu), .inl⟩
      by_cases h : (u : Int) ∈ (tos B i).take j
      · rw [if_pos h, if_pos (this.mpr h)]
      · rw [if_neg h, if_neg (fun z => h (this.mp z))]
    by_cases h0 : t ≥ 0
    · by_cases h1 : t < (X.length : Int)
      · obtain ⟨v, rfl⟩ : ∃ v : Nat, t = (v : Int) := ⟨t.toNat, by omega⟩
        have e1 : rd_L1 X (v : Int) = X.getD v [] := rfl
        have hv := hX.val v (by omega)
        have hvl := rw_len B i j v
        refine Ev.step (f := fun k => (slices_Contains_int_int.f k (X.getD v []) (i : Int)).bind fun c => if c = true then (check_Ahead.l1 k X (i : Int) B (B.length : Int) (i : Int) (tos B i) ((tos B i).length : Int) ((j + 1 : Nat) : Int)) else (if (X.getD v []).length < 17592186044416 then (check_Ahead.l1 k (X.set v (X.getD v [] ++ [(i : Int)])) (i : Int) B (B.length : Int) (i : Int) (tos B i) ((tos B i).length : Int) ((j + 1 : Nat) : Int)) else none)) (fun k => ?_) ?_
        · rw [check_Ahead.l1, if_pos (by omega), if_pos (by omega), if_pos (by omega), er, if_pos h0, if_pos h1, if_pos (by omega), e1, w64n (by omega)]
          rfl
        · refine (contains_ev (X.getD v []) (i : Int) (by rw [hv]; omega)).bind ?_
          rw [hv]
          by_cases h2 : (v : Int) ∈ (tos B i).take j
          · rw [decide_eq_true ((rw_mem B i j v).mpr h2)]
            exact Ev.congr (fun k => if_pos rfl) (same (fun u _ e => by rw [e]; exact h2))
          · rw [decide_eq_false (fun z => h2 ((rw_mem B i j v).mp z))]
            refine Ev.congr (fun k => by rw [if_neg (by decide), if_pos (by omega)]) (ih (j + 1) _ (by omega) (by omega) ⟨by simpa using hxl, fun u hu => ?_⟩)
            rw [getD_set _ _ _ _ _ (by omega)]
            by_cases e : v = u
            · subst e
              rw [if_pos rfl, rw_, rw_, etk, if_neg h2, if_pos (by simp)]
            · rw [if_neg e, hX.val u hu, rw_, rw_, etk]
              have : (u : Int) ∈ (tos B i).take j ++ [(v : Int)] ↔ (u : Int) ∈ (tos B i).take j := by
                rw [List.mem_append, List.mem_singleton]
                exact ⟨fun z => z.elim id (fun z => by omega), .inl⟩
              by_cases h : (u : Int) ∈ (tos B i).take j
              · rw [if_pos h, if_pos (this.mpr h)]
              · rw [if_neg h, if_neg (fun z => h (this.mp z))]
      · refine Ev.step (fun k => ?_) (same (fun u hu e => by omega))
        rw [check_Ahead.l1, if_pos (by omega), if_pos (by omega), if_pos (by omega), er, if_pos h0, if_neg h1, w64n (by omega)]
    · refine Ev.step (fun k => ?_) (same (fun u hu e => by omega))
      rw [check_Ahead.l1, if_pos (by omega), if_pos (by omega), if_pos (by omega), er, if_neg h0, w64n (by omega)]
theorem aw_l0 (B : List S56) (s : Bd B) : ∀ (m i : Nat) (X : List (List Int)), B.length - i = m → i ≤ B.length → Aw B i 0 X →
    ∃ R, Ev (fun k => check_Ahead.l0 k X B (B.length : Int) (i : Int)) R ∧ R.length = B.length ∧ ∀ t, t < B.length → R.getD t [] = ah B t B.length := by
  have hn := s.n
  suffices h : ∃ R : List (List Int), R.length = B.length ∧ (∀ t, t < B.length → R.getD t [] = ah B t B.length) ∧ ∀ (m i : Nat) (X : List (List Int)), B.length - i = m → i ≤ B.length → Aw B i 0 X → Ev (fun k => check_Ahead.l0 k X B (B.length : Int) (i : Int)) R by
    obtain ⟨R, h1, h2, h3⟩ := h
    exact fun m i X g1 g2 g3 => ⟨R, h3 m i X g1 g2 g3, h1, h2⟩
  refine ⟨(List.range B.length).map (fun t => ah B t B.length), by simp, fun t ht => by rw [getD_at _ _ _ (by simpa using ht)]; simp, ?_⟩
  intro m
  induction m with
  | zero =>
    intro i X hm hi hX
    obtain rfl : i = B.length := by omega
    have : X = (List.range B.length).map (fun t => ah B t B.length) := by
      refine ext_getD [] (by simp [hX.len]) (fun t ht => ?_)
      have hl := hX.len
      rw [hX.val t (by omega), getD_at ((List.range B.length).map _) _ _ (by simp; omega), rw_, List.take_zero, if_neg (List.not_mem_nil)]
      simp
    rw [this]
    exact Ev.step (f := fun _ => some _) (fun k => by rw [check_Ahead.l0, if_neg (by omega)]) (Ev.now _)
  | succ m ih =>
    intro i X hm hi hX
    have hlt : i < B.length := by omega
    have et : (rd_T56 B (i : Int)).f2.f2 = tos B i := rfl
    refine Ev.step (fun k => ?_) (aw_l1 B s i hlt _ (fun X' hX' => ih (i + 1) X' (by omega) (by omega) hX') _ 0 X rfl (by omega) hX)
    rw [check_Ahead.l0, if_pos (by omega), if_pos (by omega), if_pos (by omega), et]
    rfl
theorem ahead_ev (B : List S56) (s : Bd B) (a b : Int) (l : List Int) : ∃ R, Ev (fun k => check_Ahead.f k a b l B) R ∧ R.length = B.length ∧ ∀ t, t < B.length → R.getD t [] = ah B t B.length := by
  have hn := s.n
  obtain ⟨R, h1, h2⟩ := aw_l0 B s _ 0 (List.replicate B.length []) rfl (by omega) ⟨by simp, fun t ht => by rw [getD_rep _ _ _ _ ht, rw_, List.take_zero, if_neg (List.not_mem_nil)]; simp [ah, ints]⟩
  refine ⟨R, Ev.congr (fun k => ?_) h1, h2⟩
  rw [check_Ahead.f, if_pos (by omega), if_pos (by omega)]
  rfl
/-! ### small -/
def total (B : List S56) : Nat := (B.map fun b => b.f0.length + b.f1.length + 1).sum
def smallB (l : List Int) (B : List S56) : Bool := if 1 ≤ B.length then (if B.length ≤ 64 then (if l.length ≤ 256 then decide (total B ≤ 256) else false) else false) else false
theorem total_succ (B : List S56) (i : Nat) (h : i < B.length) : total (B.take (i + 1)) = total (B.take i) + ((B.getD i z56).f0.length + (B.getD i z56).f1.length + 1) := by
  rw [getD_at _ _ _ h, List.take_succ_eq_append_getElem h, total, total, List.map_append, List.sum_append]
  simp
theorem small_ev (B : List S56) (s : Bd B) (a b : Int) (l : List Int) : Ev (fun k => check_small.f k a b l B) (smallB l B) := by
  have hn := s.n
  have go : ∀ (m i : Nat), B.length - i = m → i ≤ B.length → total (B.take i) ≤ i * 200001 → Ev (fun k => check_small.l0 k (total (B.take i) : Int) B (B.length : Int) (i : Int) a b l B) (smallB l B) := by
    intro m
    induction m with
    | zero =>
      intro i hm hi ht
      obtain rfl : i = B.length := by omega
      rw [List.take_length]
      unfold smallB
      refine Ev.step (f := fun _ => some _) (fun k => ?_) (Ev.now _)
      rw [check_small.l0, if_neg (by omega)]
      by_cases c1 : 1 ≤ B.length
      · rw [if_pos (show (B.length : Int) ≥ 1 by omega), if_pos c1]
        by_cases c2 : B.length ≤ 64
        · rw [if_pos (show (B.length : Int) ≤ 64 by omega), if_pos c2]
          by_cases c3 : l.length ≤ 256
          · rw [if_pos (show (l.length : Int) ≤ 256 by omega), if_pos c3]
            exact congrArg some (decide_eq_decide.mpr (by omega))
          · rw [if_neg (show ¬ (l.length : Int) ≤ 256 by omega), if_neg c3]
        · rw [if_neg (show ¬ (B.length : Int) ≤ 64 by omega), if_neg c2]
      · rw [if_neg (show ¬ (B.length : Int) ≥ 1 by omega), if_neg c1]
    | succ m ih =>
      intro i hm hi ht
      have hlt : i < B.length := by omega
      have hc := s.c i hlt
      have e := total_succ B i hlt
      have et : rd_T56 B (i : Int) = B.getD i z56 := rfl
      refine Ev.step (fun k => ?_) (ih (i + 1) (by omega) (by omega) (by rw [e]; omega))
      rw [check_small.l0, if_pos (by omega), if_pos (by omega), if_pos (by omega), et, w64n (by omega), e]
      generalize (B.getD i z56).f0.length = x at *
      generalize (B.getD i z56).f1.length = y at *
      generalize total (B.take i) = z at *
      have e1 : wrap64 ((z : Int) + (wrap64 ((wrap64 ((x : Int) + (y : Int))) + 1))) = ((z + (x + y + 1) : Nat) : Int) := by
        have e2 : wrap64 ((x : Int) + (y : Int)) = (x : Int) + (y : Int) := by rw [wrap64]; omega
        have e3 : wrap64 ((x : Int) + (y : Int) + 1) = (x : Int) + (y : Int) + 1 := by rw [wrap64]; omega
        rw [e2, e3, wrap64]
        have : i * 200001 ≤ 100000 * 200001 := Nat.mul_le_mul_right _ (by omega)
        omega
      rw [e1]
  exact go _ 0 rfl (by omega) (by simp [total])
/-! ### ends -/
def endsB (n : Nat) (t : S54) : Bool :=
  if t.f2.all (fun x => decide (1 ≤ x) && decide (x < n)) = true then
    (if t.f0 = 1 then decide (t.f2.length = 1) else if t.f0 = 2 then (if t.f2.length = 2 then rd t.f2 0 != rd t.f2 1 else false) else if t.f0 = 3 then decide (t.f2.length = 0) else false)
  else false
theorem ends_ev (B : List S56) (a b : Int) (l : List Int) (t : S54) (ht : t.f2.length ≤ 100000) : Ev (fun k => check_ends.f k a b l B t.f0 t.f1 t.f2) (endsB B.length t) := by
  obtain ⟨kd, ar, ts⟩ := t
  dsimp only at *
  have go : ∀ (m i : Nat), ts.length - i = m → i ≤ ts.length → (∀ j, j < i → 1 ≤ ts.getD j 0 ∧ ts.getD j 0 < B.length) → Ev (fun k => check_ends.l0 k ts (ts.length : Int) (i : Int) a b l B kd ar ts) (endsB B.length ⟨kd, ar, ts⟩) := by
    intro m
    induction m with
    | zero =>
      intro i hm hi hv
      obtain rfl : i = ts.length := by omega
      have hall : ts.all (fun x => decide (1 ≤ x) && decide (x < B.length)) = true := by
        rw [List.all_eq_true]
        intro x hx
        obtain ⟨j, hj, rfl⟩ := mem_getD (0 : Int) hx
        simpa using hv j hj
      unfold endsB
      dsimp only
      rw [if_pos hall]
      refine Ev.step (f := fun _ => some _) (fun k => ?_) (Ev.now _)
      rw [check_ends.l0, if_neg (by omega)]
      by_cases c1 : kd = 1
      · rw [if_pos c1, if_pos c1]
        exact congrArg some (by rw [Bool.eq_iff_iff, beq_iff_eq, decide_eq_true_iff]; omega)
      rw [if_neg c1, if_neg c1]
      by_cases c2 : kd = 2
      · rw [if_pos c2, if_pos c2]
        by_cases c3 : ts.length = 2
        · rw [if_pos (show (ts.length : Int) = 2 by omega), if_pos (by omega), if_pos (by omega), if_pos c3]
        · rw [if_neg (show ¬ (ts.length : Int) = 2 by omega), if_neg c3]
      rw [if_neg c2, if_neg c2]
      by_cases c3 : kd = 3
      · rw [if_pos c3, if_pos c3]
        exact congrArg some (by rw [Bool.eq_iff_iff, beq_iff_eq, decide_eq_true_iff]; omega)
      · rw [if_neg c3, if_neg c3]
    | succ m ih =>
      intro i hm hi hv
      have hlt : i < ts.length := by omega
      have er : rd ts (i : Int) = ts.getD i 0 := rfl
      have bad : ¬ (1 ≤ ts.getD i 0 ∧ ts.getD i 0 < B.length) → endsB B.length ⟨kd, ar, ts⟩ = false := fun h => by
        unfold endsB
        dsimp only
        rw [if_neg]
        intro hall
        have := List.all_eq_true.mp hall _ (getD_mem ts i 0 hlt)
        simp only [Bool.and_eq_true, decide_eq_true_eq] at this
        exact h this
      by_cases c1 : ts.getD i 0 < 1
      · rw [bad (by omega)]
        exact Ev.step (f := fun _ => some false) (fun k => by rw [check_ends.l0, if_pos (by omega), if_pos (by omega), if_pos (by omega), er, if_pos c1]) (Ev.now _)
      by_cases c2 : ts.getD i 0 ≥ (B.length : Int)
      · rw [bad (by omega)]
        exact Ev.step (f := fun _ => some false) (fun k => by rw [check_ends.l0, if_pos (by omega), if_pos (by omega), if_pos (by omega), er, if_neg c1, if_pos c2]) (Ev.now _)
      refine Ev.step (fun k => ?_) (ih (i + 1) (by omega) (by omega) (fun j hj => by
        by_cases e : j = i
        · subst e; omega
        · exact hv j (by omega)))
      rw [check_ends.l0, if_pos (by omega), if_pos (by omega), if_pos (by omega), er, if_neg c1, if_neg c2, w64n (by omega)]
  exact go _ 0 rfl (by omega) (fun j hj => absurd hj (by omega))
/-! ### Small -/
structure OkB (b : S56) : Prop where
  ins : b.f1.length ≤ 300
  phis : b.f0.length ≤ 300
  tos : b.f2.f2.length ≤ 70
  args : ∀ i, i < b.f1.length → (b.f1.getD i z58).f2.length ≤ 300
  pargs : ∀ i, i < b.f0.length → (b.f0.getD i z60).f1.length ≤ 300
structure OkF (f : S50) : Prop where
  blocks : f.f3.length ≤ 70
  regs : f.f2.length ≤ 300
  params : f.f0 ≤ 1000
  each : ∀ u, u < f.f3.length → OkB (f.f3.getD u z56)
structure OkM (M : List S50) : Prop where
  n : M.length ≤ 40
  each : ∀ i, i < M.length → OkF (M.getD i z50)
theorem OkF.bd {f : S50} (h : OkF f) : Bd f.f3 :=
  ⟨by have := h.blocks; omega, fun u hu => by have := (h.each u hu).tos; show (f.f3.getD u z56).f2.f2.length ≤ 100000; omega, fun u hu => by have := (h.each u hu).phis; have := (h.each u hu).ins; omega⟩
section
def Res (Fin : Bool → Prop) (g : Nat → Option Bool) : Prop := ∃ r, Ev g r ∧ Fin r
theorem Res.step (Fin : Bool → Prop) {g f : Nat → Option Bool} (h : ∀ k, g (k + 1) = f k) (hr : Res Fin f) : Res Fin g := by
  obtain ⟨r, h1, h2⟩ := hr
  exact ⟨r, Ev.step h h1, h2⟩
theorem Res.no (Fin : Bool → Prop) (hF : Fin false) {g : Nat → Option Bool} (h : ∀ k, g (k + 1) = some false) : Res Fin g := ⟨false, Ev.step (f := fun _ => some false) h (Ev.now _), hF⟩
theorem small_l3 (M : List S50) (Fin : Bool → Prop) (hF : Fin false) (x3 : Int) (a b : Int) (l : List Int) (B : List S56) (u : Nat) (x0 : List S60) (x1 : List S58) (p q : Int) (t : List Int) (h0 : x0.length ≤ 300)
    (H : (∀ i, i < x0.length → (x0.getD i z60).f1.length ≤ 300) → Res Fin (fun k => fettleref02_Small.l1 k x3 (wrap64 ((u : Int) + 1)) M a b l B)) :
    ∀ (m i : Nat), x0.length - i = m → i ≤ x0.length → (∀ j, j < i → (x0.getD j z60).f1.length ≤ 300) → Res Fin (fun k => fettleref02_Small.l3 k x3 (u : Int) (i : Int) M a b l B x0 x1 p q t) := by
  intro m
  induction m with
  | zero =>
    intro i hm hi hv
    exact Res.step Fin (fun k => by rw [fettleref02_Small.l3, if_neg (by omega)]) (H (fun j hj => hv j (by omega)))
  | succ m ih =>
    intro i hm hi hv
    have er : rd_T60 x0 (i : Int) = x0.getD i z60 := rfl
    by_cases c : (((rd_T60 x0 (i : Int)).f1).length : Int) > 300
    · exact Res.no Fin hF (fun k => by rw [fettleref02_Small.l3, if_pos (by omega), if_pos (by omega), if_pos c])
    · refine Res.step Fin (fun k => by rw [fettleref02_Small.l3, if_pos (by omega), if_pos (by omega), if_neg c, w64n (by omega)]) (ih (i + 1) (by omega) (by omega) (fun j hj => ?_))
      by_cases e : j = i
      · subst e; rw [er] at c; omega
      · exact hv j (by omega)
theorem small_l2 (M : List S50) (Fin : Bool → Prop) (hF : Fin false) (x3 : Int) (a b : Int) (l : List Int) (B : List S56) (u : Nat) (x0 : List S60) (x1 : List S58) (p q : Int) (t : List Int) (h0 : x0.length ≤ 300) (h1 : x1.length ≤ 300)
    (H : (∀ i, i < x1.length → (x1.getD i z58).f2.length ≤ 300) → (∀ i, i < x0.length → (x0.getD i z60).f1.length ≤ 300) → Res Fin (fun k => fettleref02_Small.l1 k x3 (wrap64 ((u : Int) + 1)) M a b l B)) :
    ∀ (m i : Nat), x1.length - i = m → i ≤ x1.length → (∀ j, j < i → (x1.getD j z58).f2.length ≤ 300) → Res Fin (fun k => fettleref02_Small.l2 k x3 (u : Int) (i : Int) M a b l B x0 x1 p q t) := by
  intro m
  induction m with
  | zero =>
    intro i hm hi hv
    exact Res.step Fin (fun k => by rw [fettleref02_Small.l2, if_neg (by omega)]; rfl) (small_l3 M Fin hF x3 a b l B u x0 x1 p q t h0 (H (fun j hj => hv j (by omega))) _ 0 rfl (by omega) (fun j hj => absurd hj (by omega)))
  | succ m ih =>
    intro i hm hi hv
    have er : rd_T58 x1 (i : Int) = x1.getD i z58 := rfl
    by_cases c : (((rd_T58 x1 (i : Int)).f2).length : Int) > 300
    · exact Res.no Fin hF (fun k => by rw [fettleref02_Small.l2, if_pos (by omega), if_pos (by omega), if_pos c])
    · refine Res.step Fin (fun k => by rw [fettleref02_Small.l2, if_pos (by omega), if_pos (by omega), if_neg c, w64n (by omega)]) (ih (i + 1) (by omega) (by omega) (fun j hj => ?_))
      by_cases e : j = i
      · subst e; rw [er] at c; omega
      · exact hv j (by omega)
theorem small_l1 (M : List S50) (Fin : Bool → Prop) (hF : Fin false) (x3 : Int) (a b : Int) (l : List Int) (B : List S56) (hB : B.length ≤ 70)
    (H : (∀ u, u < B.length → OkB (B.getD u z56)) → Res Fin (fun k => fettleref02_Small.l0 k (wrap64 (x3 + 1)) M)) :
    ∀ (m u : Nat), B.length - u = m → u ≤ B.length → (∀ j, j < u → OkB (B.getD j z56)) → Res Fin (fun k => fettleref02_Small.l1 k x3 (u : Int) M a b l B) := by
  intro m
  induction m with
  | zero =>
    intro u hm hu hv
    exact Res.step Fin (fun k => by rw [fettleref02_Small.l1, if_neg (by omega)]) (H (fun j hj => hv j (by omega)))
  | succ m ih =>
    intro u hm hu hv
    have er : rd_T56 B (u : Int) = B.getD u z56 := rfl
    have bad : ∀ x0 x1 p q t, Res Fin (fun k => fettleref02_Small.j3 k x3 (u : Int) true M a b l B x0 x1 p q t) := fun x0 x1 p q t => Res.no Fin hF (fun k => by rw [fettleref02_Small.j3, if_pos rfl])
    by_cases c1 : (((rd_T56 B (u : Int)).f1).length : Int) > 300
    · exact Res.step Fin (fun k => by rw [fettleref02_Small.l1, if_pos (by omega), if_pos (by omega), if_pos c1]) (bad _ _ _ _ _)
    by_cases c2 : (((rd_T56 B (u : Int)).f0).length : Int) > 300
    · exact Res.step Fin (fun k => by rw [fettleref02_Small.l1, if_pos (by omega), if_pos (by omega), if_neg c1, if_pos c2]) (bad _ _ _ _ _)
    by_cases c3 : (((rd_T56 B (u : Int)).f2.f2).length : Int) > 70
    · exact Res.step Fin (fun k => by rw [fettleref02_Small.l1, if_pos (by omega), if_pos (by omega), if_neg c1, if_neg c2, decide_eq_true c3]) (bad _ _ _ _ _)
    refine Res.step Fin (f := fun k => fettleref02_Small.j3 k x3 (u : Int) false M a b l B (rd_T56 B (u : Int)).f0 (rd_T56 B (u : Int)).f1 (rd_T56 B (u : Int)).f2.f0 (rd_T56 B (u : Int)).f2.f1 (rd_T56 B (u : Int)).f2.f2) (fun k => by rw [fettleref02_Small.l1, if_pos (by omega), if_pos (by omega), if_neg c1, if_neg c2, decide_eq_false c3]) ?_
    rw [er] at *
    refine Res.step Fin (fun k => by rw [fettleref02_Small.j3, if_neg (by decide)]; rfl) (small_l2 M Fin hF x3 a b l B u _ _ _ _ _ (by omega) (by omega) (fun g1 g2 => ?_) _ 0 rfl (by omega) (fun j hj => absurd hj (by omega)))
    rw [w64n (by omega)]
    refine ih (u + 1) (by omega) (by omega) (fun j hj => ?_)
    by_cases e : j = u
    · subst e
      exact ⟨by omega, by omega, by omega, g1, g2⟩
    · exact hv j (by omega)
theorem small_l0 (M : List S50) (Fin : Bool → Prop) (hF : Fin false) (hM : M.length ≤ 40) (H : OkM M → Fin true) :
    ∀ (m i : Nat), M.length - i = m → i ≤ M.length → (∀ j, j < i → OkF (M.getD j z50)) → Res Fin (fun k => fettleref02_Small.l0 k (i : Int) M) := by
  intro m
  induction m with
  | zero =>
    intro i hm hi hv
    exact ⟨true, Ev.step (f := fun _ => some true) (fun k => by rw [fettleref02_Small.l0, if_neg (by omega)]) (Ev.now _), H ⟨hM, fun j hj => hv j (by omega)⟩⟩
  | succ m ih =>
    intro i hm hi hv
    have er : rd_T50 M (i : Int) = M.getD i z50 := rfl
    have bad : ∀ a b l B, Res Fin (fun k => fettleref02_Small.j1 k (i : Int) true M a b l B) := fun a b l B => Res.no Fin hF (fun k => by rw [fettleref02_Small.j1, if_pos rfl])
    by_cases c1 : (((rd_T50 M (i : Int)).f3).length : Int) > 70
    · exact Res.step Fin (fun k => by rw [fettleref02_Small.l0, if_pos (by omega), if_pos (by omega), if_pos c1]) (bad _ _ _ _)
    by_cases c2 : (((rd_T50 M (i : Int)).f2).length : Int) > 300
    · exact Res.step Fin (fun k => by rw [fettleref02_Small.l0, if_pos (by omega), if_pos (by omega), if_neg c1, if_pos c2]) (bad _ _ _ _)
    by_cases c3 : (rd_T50 M (i : Int)).f0 > 1000
    · exact Res.step Fin (fun k => by rw [fettleref02_Small.l0, if_pos (by omega), if_pos (by omega), if_neg c1, if_neg c2, decide_eq_true c3]) (bad _ _ _ _)
    refine Res.step Fin (f := fun k => fettleref02_Small.j1 k (i : Int) false M (rd_T50 M (i : Int)).f0 (rd_T50 M (i : Int)).f1 (rd_T50 M (i : Int)).f2 (rd_T50 M (i : Int)).f3) (fun k => by rw [fettleref02_Small.l0, if_pos (by omega), if_pos (by omega), if_neg c1, if_neg c2, decide_eq_false c3]) ?_
    rw [er] at *
    refine Res.step Fin (fun k => by rw [fettleref02_Small.j1, if_neg (by decide)]; rfl) (small_l1 M Fin hF (i : Int) _ _ _ _ (by omega) (fun g => ?_) _ 0 rfl (by omega) (fun j hj => absurd hj (by omega)))
    rw [w64n (by omega)]
    refine ih (i + 1) (by omega) (by omega) (fun j hj => ?_)
    by_cases e : j = i
    · subst e
      exact ⟨by omega, by omega, by omega, g⟩
    · exact hv j (by omega)
end
theorem small_mod (M : List S50) : ∃ r, Ev (fun k => fettleref02_Small.f k M) r ∧ (r = true → OkM M) := by
  by_cases c : (M.length : Int) > 40
  · exact ⟨false, Ev.congr (f := fun _ => some false) (fun k => by rw [fettleref02_Small.f, if_pos c]) (Ev.now _), fun h => by cases h⟩
  · obtain ⟨r, h1, h2⟩ := small_l0 M (fun r => r = true → OkM M) (fun h => by cases h) (by omega) (fun h _ => h) _ 0 rfl (by omega) (fun j hj => absurd hj (by omega))
    exact ⟨r, Ev.congr (fun k => by rw [fettleref02_Small.f, if_neg c]; rfl) h1, h2⟩
end Go.Proofs.YtckebppacealeaaDoor.Lp
