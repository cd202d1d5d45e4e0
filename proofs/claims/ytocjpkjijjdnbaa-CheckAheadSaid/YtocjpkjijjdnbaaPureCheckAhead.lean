/- The blocks ahead of each block are those that the reference tells, for every function of blocks. Conditions: none beyond the statement's own. -/
import Derived.Test.YtocjpkjijjdnbaaPCheckAheadx4
set_option linter.unusedVariables false
namespace Go.Proofs.Ytocjpkjijjdnbaa.Pure
open Go.RowKit Go.Proofs.Ytocjpkjijjdnbaa.PCheckAhead Go.Proofs.YtocjpkjijjdnbaaW.PrintWords Go.Proofs.YtocjpkjijjdnbaaW.PrintLast
theorem w64n {n : Nat} (h : n < 4611686018427387904) : wrap64 ((n : Int) + 1) = ((n + 1 : Nat) : Int) := by rw [wrap64]; omega
theorem getD_at {α : Type} (l : List α) (i : Nat) (d : α) (h : i < l.length) : l.getD i d = l[i] := by simp [List.getD_eq_getElem?_getD, h]
theorem getD_set {α : Type} (l : List α) (i j : Nat) (v d : α) (h : i < l.length) : (l.set i v).getD j d = if i = j then v else l.getD j d := by
  simp only [List.getD_eq_getElem?_getD, List.getElem?_set]
  by_cases e : i = j
  · subst e; simp [h]
  · simp [e]
theorem ext_getD {α : Type} (d : α) {l m : List α} (h : l.length = m.length) (g : ∀ i, i < l.length → l.getD i d = m.getD i d) : l = m := by
  apply List.ext_getElem h
  intro i h1 h2
  have := g i h1
  rwa [getD_at _ _ _ h1, getD_at _ _ _ h2] at this
theorem getD_mem {α : Type} (l : List α) (i : Nat) (d : α) (h : i < l.length) : l.getD i d ∈ l := by
  rw [getD_at _ _ _ h]; exact List.getElem_mem h
theorem mem_getD {α : Type} {l : List α} {x : α} (d : α) (h : x ∈ l) : ∃ i, i < l.length ∧ l.getD i d = x := by
  obtain ⟨i, hi, e⟩ := List.getElem_of_mem h
  exact ⟨i, hi, by rw [getD_at _ _ _ hi]; exact e⟩
theorem getD_rep {α : Type} (n i : Nat) (v d : α) (h : i < n) : (List.replicate n v).getD i d = v := by simp [List.getD_eq_getElem?_getD, h]
theorem drop_at {α : Type} (l : List α) (i : Nat) (d : α) (h : i < l.length) : l.drop i = l.getD i d :: l.drop (i + 1) := by
  rw [getD_at _ _ _ h]; exact List.drop_eq_getElem_cons h

/-! ### Contains -/
theorem index_l (l : List Int) (a : Int) (hl : l.length < 1000000) : ∀ (m i : Nat), l.length - i = m → i ≤ l.length → (∀ j, j < i → l.getD j 0 ≠ a) →
    ∃ r, Ev (fun k => slices_Index_int_int.l0 k l a (l.length : Int) (i : Int)) r ∧ (r ≥ 0 ↔ a ∈ l) := by
  intro m
  induction m with
  | zero =>
    intro i hm hi hn
    refine ⟨-1, Ev.step (f := fun _ => some (-1)) (fun k => by rw [slices_Index_int_int.l0, if_neg (by omega)]) (Ev.now _), ?_⟩
    refine ⟨fun h => absurd h (by decide), fun h => ?_⟩
    obtain ⟨j, hj, e⟩ := mem_getD 0 h
    exact absurd e (hn j (by omega))
  | succ m ih =>
    intro i hm hi hn
    have hlt : i < l.length := by omega
    by_cases e : a = l.getD i 0
    · refine ⟨(i : Int), Ev.step (f := fun _ => some (i : Int)) (fun k => by rw [slices_Index_int_int.l0, if_pos (by omega), if_pos (by omega), if_pos (by omega), if_pos (by exact e)]) (Ev.now _), ?_⟩
      exact ⟨fun _ => e ▸ getD_mem l i 0 hlt, fun _ => by omega⟩
    · obtain ⟨r, h1, h2⟩ := ih (i + 1) (by omega) (by omega) (fun j hj => by
        by_cases ej : j = i
        · subst ej; exact fun z => e z.symm
        · exact hn j (by omega))
      refine ⟨r, Ev.step (fun k => ?_) h1, h2⟩
      rw [slices_Index_int_int.l0, if_pos (by omega), if_pos (by omega), if_pos (by omega), if_neg (by exact e), w64n (by omega)]
theorem contains_ev (l : List Int) (a : Int) (hl : l.length < 1000000) : Ev (fun k => slices_Contains_int_int.f k l a) (decide (a ∈ l)) := by
  obtain ⟨r, h1, h2⟩ := index_l l a hl _ 0 rfl (by omega) (fun j hj => absurd hj (by omega))
  have : Ev (fun k => slices_Index_int_int.f k l a) r := h1
  refine this.bind (f := fun _ t => some (decide (t ≥ 0))) ?_
  have e : decide (r ≥ 0) = decide (a ∈ l) := decide_eq_decide.mpr h2
  rw [e]; exact Ev.now _
/-! ### The blocks ahead -/
def tos (B : List S43) (u : Nat) : List Int := (B.getD u z43).f2.f2
structure Small (B : List S43) : Prop where
  n : B.length ≤ 70
  t : ∀ u, u < B.length → (tos B u).length ≤ 70
def ints (l : List Nat) : List Int := l.map (fun u : Nat => (u : Int))
theorem ints_len (l : List Nat) : (ints l).length = l.length := List.length_map ..
theorem ints_app (l m : List Nat) : ints (l ++ m) = ints l ++ ints m := List.map_append
def ah (B : List S43) (t i : Nat) : List Int := ints ((List.range i).filter (fun u => decide ((t : Int) ∈ tos B u)))
theorem ah_len (B : List S43) (t i : Nat) : (ah B t i).length ≤ i := by
  rw [ah, ints_len]
  have := List.length_filter_le (fun u => decide ((t : Int) ∈ tos B u)) (List.range i)
  simpa using this
theorem ah_succ (B : List S43) (t i : Nat) : ah B t (i + 1) = if (t : Int) ∈ tos B i then ah B t i ++ [(i : Int)] else ah B t i := by
  unfold ah
  rw [List.range_succ, List.filter_append]
  by_cases h : (t : Int) ∈ tos B i
  · rw [if_pos h, List.filter_cons_of_pos (by simpa using h), List.filter_nil, ints_app]; rfl
  · rw [if_neg h, List.filter_cons_of_neg (by simpa using h), List.filter_nil, List.append_nil]
theorem ah_not (B : List S43) (t i : Nat) : (i : Int) ∉ ah B t i := by
  intro h
  obtain ⟨u, hu, e⟩ := List.mem_map.mp h
  have := List.mem_range.mp (List.mem_filter.mp hu).1
  omega
def rw_ (B : List S43) (i j t : Nat) : List Int := if (t : Int) ∈ (tos B i).take j then ah B t i ++ [(i : Int)] else ah B t i
structure Aw (B : List S43) (i j : Nat) (X : List (List Int)) : Prop where
  len : X.length = B.length
  val : ∀ t, t < B.length → X.getD t [] = rw_ B i j t
theorem rw_mem (B : List S43) (i j t : Nat) : (i : Int) ∈ rw_ B i j t ↔ (t : Int) ∈ (tos B i).take j := by
  unfold rw_
  by_cases h : (t : Int) ∈ (tos B i).take j
  · rw [if_pos h]; simp [h]
  · rw [if_neg h]; exact ⟨fun z => absurd z (ah_not B t i), fun z => absurd z h⟩
theorem rw_len (B : List S43) (i j t : Nat) : (rw_ B i j t).length ≤ i + 1 := by
  have := ah_len B t i
  unfold rw_
  split
  · rw [List.length_append, List.length_singleton]; omega
  · omega
theorem aw_l1 (B : List S43) (s : Small B) (i : Nat) (hi : i < B.length) (r : List (List Int))
    (H : ∀ X, Aw B (i + 1) 0 X → Ev (fun k => check_Ahead.l0 k X B (B.length : Int) ((i + 1 : Nat) : Int)) r) :
    ∀ (m j : Nat) (X : List (List Int)), (tos B i).length - j = m → j ≤ (tos B i).length → Aw B i j X →
      Ev (fun k => check_Ahead.l1 k X (i : Int) B (B.length : Int) (i : Int) (tos B i) ((tos B i).length : Int) (j : Int)) r := by
  have hn := s.n
  have ht := s.t i hi
  intro m
  induction m with
  | zero =>
    intro j X hm hj hX
    obtain rfl : j = (tos B i).length := by omega
    refine Ev.step (fun k => ?_) (H X ⟨hX.len, fun t h => ?_⟩)
    · rw [check_Ahead.l1, if_neg (by omega), w64n (by omega)]
    · rw [hX.val t h, rw_, rw_, List.take_length, List.take_zero, if_neg (List.not_mem_nil), ah_succ]
  | succ m ih =>
    intro j X hm hj hX
    have hlt : j < (tos B i).length := by omega
    have hxl := hX.len
    have er : rd (tos B i) (j : Int) = (tos B i).getD j 0 := rfl
    have etk : (tos B i).take (j + 1) = (tos B i).take j ++ [(tos B i).getD j 0] := by
      rw [List.take_succ_eq_append_getElem hlt, ← getD_at _ _ 0 hlt]
    generalize (tos B i).getD j 0 = t at er etk
    have same : (∀ u, u < B.length → ((u : Int) = t → (u : Int) ∈ (tos B i).take j)) → Ev (fun k => check_Ahead.l1 k X (i : Int) B (B.length : Int) (i : Int) (tos B i) ((tos B i).length : Int) ((j + 1 : Nat) : Int)) r := by
      intro hs
      refine ih (j + 1) X (by omega) (by omega) ⟨hxl, fun u hu => ?_⟩
      rw [hX.val u hu, rw_, rw_, etk]
      have : (u : Int) ∈ (tos B i).take j ++ [t] ↔ (u : Int) ∈ (tos B i).take j := by
        rw [List.mem_append, List.mem_singleton]
        exact ⟨fun z => z.elim id (hs u hu), .inl⟩
      by_cases h : (u : Int) ∈ (tos B i).take j
      · rw [if_pos h, if_pos (this.mpr h)]
      · rw [if_neg h, if_neg (fun z => h (this.mp z))]
    by_cases h0 : t ≥ 0
    · by_cases h1 : t < (X.length : Int)
      · obtain ⟨v, rfl⟩ : ∃ v : Nat, t = (v : Int) := ⟨t.toNat, by omega⟩
        have e1 : rd_L1 X (v : Int) = X.getD v [] := rfl
        have hv := hX.val v (by omega)
        have hvl := rw_len B i j v
        refine Ev.step (f := fun k => (slices_Contains_int_int.f k (X.getD v []) (i : Int)).bind fun c => if c = true then (check_Ahead.l1 k X (i : Int) B (B.length : Int) (i : Int) (tos B i) ((tos B i).length : Int) ((j + 1 : Nat) : Int)) else (if (X.getD v []).length < 17592186044416 then (check_Ahead.l1 k (X.set v (X.getD v [] ++ [(i : Int)])) (i : Int) B (B.length : Int) (i : Int) (tos B i) ((tos B i).length : Int) ((j + 1 : Nat) : Int)) else none)) (fun k => ?_) ?_
        · rw [check_Ahead.l1, if_pos (by omega), if_pos (by omega), if_pos (by omega), er, if_pos h0, if_pos h1, if_pos (by omega), e1, w64n (by omega)]
          rfl
        · refine (contains_ev (X.getD v []) (i : Int) (by rw [hv]; omega)).bind ?_
          rw [hv]
          by_cases h2 : (v : Int) ∈ (tos B i).take j
          · rw [decide_eq_true ((rw_mem B i j v).mpr h2)]
            exact Ev.congr (fun k => if_pos rfl) (same (fun u _ e => by rw [e]; exact h2))
          · rw [decide_eq_false (fun z => h2 ((rw_mem B i j v).mp z))]
            refine Ev.congr (fun k => by rw [if_neg (by decide), if_pos (by omega)]) (ih (j + 1) _ (by omega) (by omega) ⟨by simpa using hxl, fun u hu => ?_⟩)
            rw [getD_set _ _ _ _ _ (by omega)]
            by_cases e : v = u
            · subst e
              rw [if_pos rfl, rw_, rw_, etk, if_neg h2, if_pos (by simp)]
            · rw [if_neg e, hX.val u hu, rw_, rw_, etk]
              have : (u : Int) ∈ (tos B i).take j ++ [(v : Int)] ↔ (u : Int) ∈ (tos B i).take j := by
                rw [List.mem_append, List.mem_singleton]
                exact ⟨fun z => z.elim id (fun z => by omega), .inl⟩
              by_cases h : (u : Int) ∈ (tos B i).take j
              · rw [if_pos h, if_pos (this.mpr h)]
              · rw [if_neg h, if_neg (fun z => h (this.mp z))]
      · refine Ev.step (fun k => ?_) (same (fun u hu e => by omega))
        rw [check_Ahead.l1, if_pos (by omega), if_pos (by omega), if_pos (by omega), er, if_pos h0, if_neg h1, w64n (by omega)]
    · refine Ev.step (fun k => ?_) (same (fun u hu e => by omega))
      rw [check_Ahead.l1, if_pos (by omega), if_pos (by omega), if_pos (by omega), er, if_neg h0, w64n (by omega)]
theorem aw_l0 (B : List S43) (s : Small B) : ∀ (m i : Nat) (X : List (List Int)), B.length - i = m → i ≤ B.length → Aw B i 0 X →
    ∃ R, Ev (fun k => check_Ahead.l0 k X B (B.length : Int) (i : Int)) R ∧ R.length = B.length ∧ ∀ t, t < B.length → R.getD t [] = ah B t B.length := by
  have hn := s.n
  suffices h : ∃ R : List (List Int), R.length = B.length ∧ (∀ t, t < B.length → R.getD t [] = ah B t B.length) ∧ ∀ (m i : Nat) (X : List (List Int)), B.length - i = m → i ≤ B.length → Aw B i 0 X → Ev (fun k => check_Ahead.l0 k X B (B.length : Int) (i : Int)) R by
    obtain ⟨R, h1, h2, h3⟩ := h
    exact fun m i X g1 g2 g3 => ⟨R, h3 m i X g1 g2 g3, h1, h2⟩
  refine ⟨(List.range B.length).map (fun t => ah B t B.length), by simp, fun t ht => by rw [getD_at _ _ _ (by simpa using ht)]; simp, ?_⟩
  intro m
  induction m with
  | zero =>
    intro i X hm hi hX
    obtain rfl : i = B.length := by omega
    have : X = (List.range B.length).map (fun t => ah B t B.length) := by
      refine ext_getD [] (by simp [hX.len]) (fun t ht => ?_)
      have hl := hX.len
      rw [hX.val t (by omega), getD_at ((List.range B.length).map _) _ _ (by simp; omega), rw_, List.take_zero, if_neg (List.not_mem_nil)]
      simp
    rw [this]
    exact Ev.step (f := fun _ => some _) (fun k => by rw [check_Ahead.l0, if_neg (by omega)]) (Ev.now _)
  | succ m ih =>
    intro i X hm hi hX
    have hlt : i < B.length := by omega
    have et : (rd_T43 B (i : Int)).f2.f2 = tos B i := rfl
    refine Ev.step (fun k => ?_) (aw_l1 B s i hlt _ (fun X' hX' => ih (i + 1) X' (by omega) (by omega) hX') _ 0 X rfl (by omega) hX)
    rw [check_Ahead.l0, if_pos (by omega), if_pos (by omega), if_pos (by omega), et]
    rfl
theorem ahead_ev (B : List S43) (s : Small B) (a b : Int) (l : List Int) : ∃ R, Ev (fun k => check_Ahead.f k a b l B) R ∧ R.length = B.length ∧ ∀ t, t < B.length → R.getD t [] = ah B t B.length := by
  have hn := s.n
  obtain ⟨R, h1, h2⟩ := aw_l0 B s _ 0 (List.replicate B.length []) rfl (by omega) ⟨by simp, fun t ht => by rw [getD_rep _ _ _ _ ht, rw_, List.take_zero, if_neg (List.not_mem_nil)]; simp [ah, ints]⟩
  refine ⟨R, Ev.congr (fun k => ?_) h1, h2⟩
  rw [check_Ahead.f, if_pos (by omega), if_pos (by omega)]
  rfl
/-! ### The reference's -/
theorem refAw_l1 (B : List S43) (s : Small B) (a b : Int) (l : List Int) (t i : Nat) (hi : i < B.length) (hil : i ≤ 70) (r : List Int)
    (H : Ev (fun k => fettleref02_Ahead.l0 k (t : Int) (ah B t (i + 1)) ((i + 1 : Nat) : Int) a b l B) r) :
    ∀ (m j : Nat) (f : Bool), (tos B i).length - j = m → j ≤ (tos B i).length → (f = true ↔ (t : Int) ∈ (tos B i).take j) →
      Ev (fun k => fettleref02_Ahead.l1 k (t : Int) (ah B t i) (i : Int) f (j : Int) a b l B) r := by
  have hn := s.n
  have ht := s.t i hi
  have hal := ah_len B t i
  intro m
  induction m with
  | zero =>
    intro j f hm hj hf
    obtain rfl : j = (tos B i).length := by omega
    rw [List.take_length] at hf
    rw [ah_succ] at H
    cases f with
    | true =>
      rw [if_pos (hf.mp rfl)] at H
      refine Ev.step (fun k => ?_) H
      rw [fettleref02_Ahead.l1, if_pos (by omega), if_pos (by omega), show (rd_T43 B (i : Int)).f2.f2 = tos B i from rfl, if_neg (by omega), if_pos rfl, if_pos (by omega), w64n (by omega)]
    | false =>
      rw [if_neg (fun z => by have := hf.mpr z; cases this)] at H
      refine Ev.step (fun k => ?_) H
      rw [fettleref02_Ahead.l1, if_pos (by omega), if_pos (by omega), show (rd_T43 B (i : Int)).f2.f2 = tos B i from rfl, if_neg (by omega), if_neg (by decide), w64n (by omega)]
  | succ m ih =>
    intro j f hm hj hf
    have hlt : j < (tos B i).length := by omega
    have er : rd (tos B i) (j : Int) = (tos B i).getD j 0 := rfl
    have etk : (tos B i).take (j + 1) = (tos B i).take j ++ [(tos B i).getD j 0] := by
      rw [List.take_succ_eq_append_getElem hlt, ← getD_at _ _ 0 hlt]
    cases f with
    | true =>
      refine Ev.step (fun k => ?_) (ih (j + 1) true (by omega) (by omega) ⟨fun _ => by rw [etk]; exact List.mem_append_left _ (hf.mp rfl), fun _ => rfl⟩)
      rw [fettleref02_Ahead.l1, if_pos (by omega), if_pos (by omega), show (rd_T43 B (i : Int)).f2.f2 = tos B i from rfl, if_pos (by omega), if_pos rfl, w64n (by omega)]
    | false =>
      refine Ev.step (fun k => ?_) (ih (j + 1) ((tos B i).getD j 0 == (t : Int)) (by omega) (by omega) ?_)
      · rw [fettleref02_Ahead.l1, if_pos (by omega), if_pos (by omega), show (rd_T43 B (i : Int)).f2.f2 = tos B i from rfl, if_pos (by omega), if_neg (by decide), if_pos (by omega), er, w64n (by omega)]
      · rw [etk, List.mem_append, List.mem_singleton, beq_iff_eq]
        refine ⟨fun z => .inr z.symm, fun z => z.elim (fun z => ?_) (fun z => z.symm)⟩
        have := hf.mpr z
        cases this
theorem refAw_ev (B : List S43) (s : Small B) (a b : Int) (l : List Int) (t : Nat) : Ev (fun k => fettleref02_Ahead.f k a b l B (t : Int)) (ah B t B.length) := by
  have hn := s.n
  have go : ∀ (m i : Nat), B.length - i = m → i ≤ B.length → Ev (fun k => fettleref02_Ahead.l0 k (t : Int) (ah B t i) (i : Int) a b l B) (ah B t B.length) := by
    intro m
    induction m with
    | zero =>
      intro i hm hi
      obtain rfl : i = B.length := by omega
      exact Ev.step (f := fun _ => some _) (fun k => by rw [fettleref02_Ahead.l0, if_neg (by omega)]) (Ev.now _)
    | succ m ih =>
      intro i hm hi
      refine Ev.step (fun k => ?_) (refAw_l1 B s a b l t i (by omega) (by omega) _ (ih (i + 1) (by omega) (by omega)) _ 0 false rfl (by omega) ⟨fun z => (by cases z), fun z => (by simp at z)⟩)
      rw [fettleref02_Ahead.l0, if_pos (by omega)]
      rfl
  exact go _ 0 rfl (by omega)
theorem small_in (a b : Int) (l : List Int) (B : List S43) (hB : B.length ≤ 70) (g : S25) (x3 : Int) (Fin : Bool → Prop) (hF : Fin false)
    (x0 : List S52) (x1 : List S45) (t : List Int) (u : Nat) (hu : u < B.length) (p q : Int)
    (H : ∃ r, Ev (fun k => fettleref02_Small.l1 k x3 (wrap64 ((u : Int) + 1)) [g] a b l B) r ∧ Fin r) :
    (∀ (m i : Nat), x0.length ≤ 300 → x0.length - i = m → i ≤ x0.length → ∃ r, Ev (fun k => fettleref02_Small.l3 k x3 (u : Int) (i : Int) [g] a b l B x0 x1 p q t) r ∧ Fin r) := by
  intro m
  induction m with
  | zero =>
    intro i h0 hm hi
    obtain ⟨r, h1, h2⟩ := H
    exact ⟨r, Ev.step (fun k => by rw [fettleref02_Small.l3, if_neg (by omega)]) h1, h2⟩
  | succ m ih =>
    intro i h0 hm hi
    by_cases c : (((rd_T52 x0 (i : Int)).f1).length : Int) > 300
    · exact ⟨false, Ev.step (f := fun _ => some false) (fun k => by rw [fettleref02_Small.l3, if_pos (by omega), if_pos (by omega), if_pos c]) (Ev.now _), hF⟩
    · obtain ⟨r, h1, h2⟩ := ih (i + 1) h0 (by omega) (by omega)
      exact ⟨r, Ev.step (fun k => by rw [fettleref02_Small.l3, if_pos (by omega), if_pos (by omega), if_neg c, w64n (by omega)]) h1, h2⟩
theorem small_l2 (a b : Int) (l : List Int) (B : List S43) (hB : B.length ≤ 70) (g : S25) (x3 : Int) (Fin : Bool → Prop) (hF : Fin false)
    (x0 : List S52) (x1 : List S45) (h0 : x0.length ≤ 300) (h1 : x1.length ≤ 300) (t : List Int) (u : Nat) (hu : u < B.length) (p q : Int)
    (H : ∃ r, Ev (fun k => fettleref02_Small.l1 k x3 (wrap64 ((u : Int) + 1)) [g] a b l B) r ∧ Fin r) :
    (∀ (m i : Nat), x1.length - i = m → i ≤ x1.length → ∃ r, Ev (fun k => fettleref02_Small.l2 k x3 (u : Int) (i : Int) [g] a b l B x0 x1 p q t) r ∧ Fin r) := by
  intro m
  induction m with
  | zero =>
    intro i hm hi
    obtain ⟨r, g1, g2⟩ := small_in a b l B hB g x3 Fin hF x0 x1 t u hu p q H _ 0 h0 rfl (by omega)
    exact ⟨r, Ev.step (fun k => by rw [fettleref02_Small.l2, if_neg (by omega)]; rfl) g1, g2⟩
  | succ m ih =>
    intro i hm hi
    by_cases c : (((rd_T45 x1 (i : Int)).f2).length : Int) > 300
    · exact ⟨false, Ev.step (f := fun _ => some false) (fun k => by rw [fettleref02_Small.l2, if_pos (by omega), if_pos (by omega), if_pos c]) (Ev.now _), hF⟩
    · obtain ⟨r, g1, g2⟩ := ih (i + 1) (by omega) (by omega)
      exact ⟨r, Ev.step (fun k => by rw [fettleref02_Small.l2, if_pos (by omega), if_pos (by omega), if_neg c, w64n (by omega)]) g1, g2⟩
theorem small_l1 (a b : Int) (l : List Int) (B : List S43) (hB : B.length ≤ 70) (g : S25) (x3 : Int) (Fin : Bool → Prop) (hF : Fin false)
    (H : (∀ u, u < B.length → (tos B u).length ≤ 70) → ∃ r, Ev (fun k => fettleref02_Small.l0 k (wrap64 (x3 + 1)) [g]) r ∧ Fin r) :
    (∀ (m u : Nat), B.length - u = m → u ≤ B.length → (∀ w, w < u → (tos B w).length ≤ 70) → ∃ r, Ev (fun k => fettleref02_Small.l1 k x3 (u : Int) [g] a b l B) r ∧ Fin r) := by
  intro m
  induction m with
  | zero =>
    intro u hm hu hv
    obtain ⟨r, g1, g2⟩ := H (fun w hw => hv w (by omega))
    exact ⟨r, Ev.step (fun k => by rw [fettleref02_Small.l1, if_neg (by omega)]) g1, g2⟩
  | succ m ih =>
    intro u hm hu hv
    have hlt : u < B.length := by omega
    have et : (rd_T43 B (u : Int)).f2.f2 = tos B u := rfl
    have bad : ∀ x0 x1 p q t, Ev (fun k => fettleref02_Small.j3 k x3 (u : Int) true [g] a b l B x0 x1 p q t) false := fun x0 x1 p q t => Ev.step (f := fun _ => some false) (fun k => by rw [fettleref02_Small.j3, if_pos rfl]) (Ev.now _)
    by_cases c1 : (((rd_T43 B (u : Int)).f1).length : Int) > 300
    · exact ⟨false, Ev.step (fun k => by rw [fettleref02_Small.l1, if_pos (by omega), if_pos (by omega), if_pos c1]) (bad _ _ _ _ _), hF⟩
    · by_cases c2 : (((rd_T43 B (u : Int)).f0).length : Int) > 300
      · exact ⟨false, Ev.step (fun k => by rw [fettleref02_Small.l1, if_pos (by omega), if_pos (by omega), if_neg c1, if_pos c2]) (bad _ _ _ _ _), hF⟩
      · by_cases c3 : ((tos B u).length : Int) > 70
        · exact ⟨false, Ev.step (fun k => by rw [fettleref02_Small.l1, if_pos (by omega), if_pos (by omega), if_neg c1, if_neg c2, et, decide_eq_true c3]) (bad _ _ _ _ _), hF⟩
        · obtain ⟨r, g1, g2⟩ := small_l2 a b l B hB g x3 Fin hF (rd_T43 B (u : Int)).f0 (rd_T43 B (u : Int)).f1 (by omega) (by omega) (tos B u) u hlt (rd_T43 B (u : Int)).f2.f0 (rd_T43 B (u : Int)).f2.f1 (by
            rw [w64n (by omega)]
            exact ih (u + 1) (by omega) (by omega) (fun w hw => by
              by_cases e : w = u
              · subst e; omega
              · exact hv w (by omega))) _ 0 rfl (by omega)
          refine ⟨r, Ev.step (f := fun k => fettleref02_Small.j3 k x3 (u : Int) false [g] a b l B (rd_T43 B (u : Int)).f0 (rd_T43 B (u : Int)).f1 (rd_T43 B (u : Int)).f2.f0 (rd_T43 B (u : Int)).f2.f1 (tos B u)) (fun k => ?_) (Ev.step (fun k => ?_) g1), g2⟩
          · rw [fettleref02_Small.l1, if_pos (by omega), if_pos (by omega), if_neg c1, if_neg c2, et, decide_eq_false c3]
          · rw [fettleref02_Small.j3, if_neg (by decide)]
            rfl
theorem small_one (B : List S43) (a b : Int) (l : List Int) : ∃ r, Ev (fun k => fettleref02_Small.f k [(⟨a, b, l, B⟩ : S25)]) r ∧ (r = true → Small B) := by
  have hF : (false = true → Small B) := fun z => by cases z
  suffices h : ∃ r, Ev (fun k => fettleref02_Small.l0 k 0 [(⟨a, b, l, B⟩ : S25)]) r ∧ (r = true → Small B) by
    obtain ⟨r, g1, g2⟩ := h
    exact ⟨r, Ev.congr (fun k => by rw [fettleref02_Small.f, if_neg (by simp)]) g1, g2⟩
  have bad : Ev (fun k => fettleref02_Small.j1 k 0 true [(⟨a, b, l, B⟩ : S25)] a b l B) false := Ev.step (f := fun _ => some false) (fun k => by rw [fettleref02_Small.j1, if_pos rfl]) (Ev.now _)
  have e3 : (rd_T25 [(⟨a, b, l, B⟩ : S25)] 0) = ⟨a, b, l, B⟩ := rfl
  by_cases c1 : (B.length : Int) > 70
  · exact ⟨false, Ev.step (fun k => by rw [fettleref02_Small.l0, if_pos (by simp), if_pos (by omega), e3, if_pos c1]) bad, hF⟩
  · by_cases c2 : (l.length : Int) > 300
    · exact ⟨false, Ev.step (fun k => by rw [fettleref02_Small.l0, if_pos (by simp), if_pos (by omega), e3, if_neg c1, if_pos c2]) bad, hF⟩
    · by_cases c3 : a > 1000
      · exact ⟨false, Ev.step (fun k => by rw [fettleref02_Small.l0, if_pos (by simp), if_pos (by omega), e3, if_neg c1, if_neg c2, decide_eq_true c3]) bad, hF⟩
      · obtain ⟨r, g1, g2⟩ := small_l1 a b l B (by omega) (⟨a, b, l, B⟩ : S25) 0 (fun r => r = true → Small B) hF (fun ht => ⟨true, Ev.step (f := fun _ => some true) (fun k => by
          have : wrap64 (0 + 1) = 1 := by rw [wrap64]; rfl
          rw [this, fettleref02_Small.l0, if_neg (by simp)]) (Ev.now _), fun _ => ⟨by omega, ht⟩⟩) _ 0 rfl (by omega) (fun w hw => absurd hw (by omega))
        refine ⟨r, Ev.step (f := fun k => fettleref02_Small.j1 k 0 false [(⟨a, b, l, B⟩ : S25)] a b l B) (fun k => ?_) (Ev.step (fun k => ?_) g1), g2⟩
        · rw [fettleref02_Small.l0, if_pos (by simp), if_pos (by omega), e3, if_neg c1, if_neg c2, decide_eq_false c3]
        · rw [fettleref02_Small.j1, if_neg (by decide)]
          rfl
/-! ### The law -/
theorem law_l1 (B : List S43) (s : Small B) (a b : Int) (l : List Int) (R : List (List Int)) (hR : R.length = B.length) (t : Nat) (ht : t < B.length) (w : List Int) (hw : R.getD t [] = w) (hwl : w.length ≤ 70)
    (H : Ev (fun k => fettlelaw02_CheckAhead.l0 k true R ((t + 1 : Nat) : Int) a b l B) true) :
    ∀ (m j : Nat), w.length - j = m → j ≤ w.length → Ev (fun k => fettlelaw02_CheckAhead.l1 k true R (t : Int) w (j : Int) a b l B) true := by
  have hn := s.n
  intro m
  induction m with
  | zero =>
    intro j hm hj
    exact Ev.step (fun k => by rw [fettlelaw02_CheckAhead.l1, if_neg (by omega), w64n (by omega)]) H
  | succ m ih =>
    intro j hm hj
    refine Ev.step (fun k => ?_) (ih (j + 1) (by omega) (by omega))
    rw [fettlelaw02_CheckAhead.l1, if_pos (by omega), if_pos (by omega), if_pos (by omega), if_pos (by omega), show rd_L1 R (t : Int) = w from hw, if_pos (by omega), if_pos rfl, w64n (by omega)]
theorem CheckAhead : fettlelaw02_CheckAhead.Pure := by
  intro a b l B
  suffices h : Ev (fun k => fettlelaw02_CheckAhead.f k a b l B) true from h.rounds
  obtain ⟨r, e1, hs⟩ := small_one B a b l
  refine Ev.congr (f := fun k => (fettleref02_Small.f k (([(⟨a, b, l, B⟩ : S25)] : List (S25)))).bind fun t182 => (if t182 = true then ((check_Ahead.f k a b l B).bind fun t183 => (if (t183.length : Int) = (B.length : Int) then (fettlelaw02_CheckAhead.l0 k true t183 0 a b l B) else (some false))) else (some true))) (fun k => rfl) ?_
  refine e1.bind ?_
  cases r with
  | false => exact Ev.congr (f := fun _ => some true) (fun k => by rw [if_neg (by decide)]) (Ev.now _)
  | true =>
    have s := hs rfl
    have hn := s.n
    refine Ev.congr (fun k => if_pos rfl) ?_
    obtain ⟨R, g1, hR, hv⟩ := ahead_ev B s a b l
    refine g1.bind ?_
    have go : ∀ (m t : Nat), B.length - t = m → t ≤ B.length → Ev (fun k => fettlelaw02_CheckAhead.l0 k true R (t : Int) a b l B) true := by
      intro m
      induction m with
      | zero =>
        intro t hm ht
        exact Ev.step (f := fun _ => some true) (fun k => by rw [fettlelaw02_CheckAhead.l0, if_neg (by omega)]) (Ev.now _)
      | succ m ih =>
        intro t hm ht
        have hlt : t < B.length := by omega
        have hal := ah_len B t B.length
        have e2 : rd_L1 R (t : Int) = ah B t B.length := hv t hlt
        refine Ev.step (f := fun k => (fettleref02_Ahead.f k a b l B (t : Int)).bind fun t186 => (if 0 ≤ (t : Int) then (if (t186.length : Int) = ((rd_L1 R (t : Int)).length : Int) then (fettlelaw02_CheckAhead.l1 k true R (t : Int) t186 0 a b l B) else (some false)) else (none))) (fun k => by rw [fettlelaw02_CheckAhead.l0, if_pos (by omega)]) ((refAw_ev B s a b l t).bind ?_)
        refine Ev.congr (fun k => ?_) (law_l1 B s a b l R hR t hlt _ (hv t hlt) (by omega) (ih (t + 1) (by omega) (by omega)) _ 0 rfl (by omega))
        rw [if_pos (by omega), e2, if_pos rfl]
        rfl
    refine Ev.congr (fun k => ?_) (go _ 0 rfl (by omega))
    rw [if_pos (by omega)]
    rfl
end Go.Proofs.Ytocjpkjijjdnbaa.Pure
