/- Each function that LoopsStays reaches answers on any small function. Conditions: none beyond the statement's own. -/
import Derived.Test.YtpionncanaamgaaPLoopsStaysx15
import Derived.Test.YtpionncanaamgaaTree
import Derived.Test.YtpionncanaamgaaPLoopsStaysx1
set_option linter.unusedVariables false
namespace Go.Proofs.Ytpionncanaamgaa.Pure
open Go.RowKit Go.Proofs.Ytpionncanaamgaa.PLoopsStays Go.Proofs.YtpionncanaamgaaW.PrintWords Go.Proofs.YtpionncanaamgaaW.PrintLast
theorem w64n {n : Nat} (h : n < 4611686018427387904) : wrap64 ((n : Int) + 1) = ((n + 1 : Nat) : Int) := by rw [wrap64]; omega
theorem getD_at {α : Type} (l : List α) (i : Nat) (d : α) (h : i < l.length) : l.getD i d = l[i] := by simp [List.getD_eq_getElem?_getD, h]
theorem getD_set {α : Type} (l : List α) (i j : Nat) (v d : α) (h : i < l.length) : (l.set i v).getD j d = if i = j then v else l.getD j d := by
  simp only [List.getD_eq_getElem?_getD, List.getElem?_set]
  by_cases e : i = j
  · subst e; simp [h]
  · simp [e]
theorem ext_getD {α : Type} (d : α) {l m : List α} (h : l.length = m.length) (g : ∀ i, i < l.length → l.getD i d = m.getD i d) : l = m := by
  apply List.ext_getElem h
  intro i h1 h2
  have := g i h1
  rwa [getD_at _ _ _ h1, getD_at _ _ _ h2] at this
theorem getD_mem {α : Type} (l : List α) (i : Nat) (d : α) (h : i < l.length) : l.getD i d ∈ l := by
  rw [getD_at _ _ _ h]; exact List.getElem_mem h
theorem mem_getD {α : Type} {l : List α} {x : α} (d : α) (h : x ∈ l) : ∃ i, i < l.length ∧ l.getD i d = x := by
  obtain ⟨i, hi, e⟩ := List.getElem_of_mem h
  exact ⟨i, hi, by rw [getD_at _ _ _ hi]; exact e⟩
theorem getD_rep {α : Type} (n i : Nat) (v d : α) (h : i < n) : (List.replicate n v).getD i d = v := by simp [List.getD_eq_getElem?_getD, h]
theorem drop_at {α : Type} (l : List α) (i : Nat) (d : α) (h : i < l.length) : l.drop i = l.getD i d :: l.drop (i + 1) := by
  rw [getD_at _ _ _ h]; exact List.drop_eq_getElem_cons h

/-! ### Contains -/
theorem index_l (l : List Int) (a : Int) (hl : l.length < 1000000) : ∀ (m i : Nat), l.length - i = m → i ≤ l.length → (∀ j, j < i → l.getD j 0 ≠ a) →
    ∃ r, Ev (fun k => slices_Index_int_int.l0 k l a (l.length : Int) (i : Int)) r ∧ (r ≥ 0 ↔ a ∈ l) := by
  intro m
  induction m with
  | zero =>
    intro i hm hi hn
    refine ⟨-1, Ev.step (f := fun _ => some (-1)) (fun k => by rw [slices_Index_int_int.l0, if_neg (by omega)]) (Ev.now _), ?_⟩
    refine ⟨fun h => absurd h (by decide), fun h => ?_⟩
    obtain ⟨j, hj, e⟩ := mem_getD 0 h
    exact absurd e (hn j (by omega))
  | succ m ih =>
    intro i hm hi hn
    have hlt : i < l.length := by omega
    by_cases e : a = l.getD i 0
    · refine ⟨(i : Int), Ev.step (f := fun _ => some (i : Int)) (fun k => by rw [slices_Index_int_int.l0, if_pos (by omega), if_pos (by omega), if_pos (by omega), if_pos (by exact e)]) (Ev.now _), ?_⟩
      exact ⟨fun _ => e ▸ getD_mem l i 0 hlt, fun _ => by omega⟩
    · obtain ⟨r, h1, h2⟩ := ih (i + 1) (by omega) (by omega) (fun j hj => by
        by_cases ej : j = i
        · subst ej; exact fun z => e z.symm
        · exact hn j (by omega))
      refine ⟨r, Ev.step (fun k => ?_) h1, h2⟩
      rw [slices_Index_int_int.l0, if_pos (by omega), if_pos (by omega), if_pos (by omega), if_neg (by exact e), w64n (by omega)]
theorem contains_ev (l : List Int) (a : Int) (hl : l.length < 1000000) : Ev (fun k => slices_Contains_int_int.f k l a) (decide (a ∈ l)) := by
  obtain ⟨r, h1, h2⟩ := index_l l a hl _ 0 rfl (by omega) (fun j hj => absurd hj (by omega))
  have : Ev (fun k => slices_Index_int_int.f k l a) r := h1
  refine this.bind (f := fun _ t => some (decide (t ≥ 0))) ?_
  have e : decide (r ≥ 0) = decide (a ∈ l) := decide_eq_decide.mpr h2
  rw [e]; exact Ev.now _
/-! ### Next -/
def addTo (n : Nat) (acc : List Int) (t : Int) : List Int := if 0 ≤ t ∧ t < (n : Int) then (if t ∈ acc then acc else acc ++ [t]) else acc
def tos (B : List S52) (u : Nat) : List Int := (B.getD u z52).f2.f2
def nxr (B : List S52) (u : Nat) : List Int := (tos B u).foldl (addTo B.length) []
def nx (B : List S52) : List (List Int) := (List.range B.length).map (nxr B)
theorem nx_len (B : List S52) : (nx B).length = B.length := by simp [nx]
theorem nx_at (B : List S52) (u : Nat) (h : u < B.length) : (nx B).getD u [] = nxr B u := by
  rw [getD_at _ _ _ (by rw [nx_len]; exact h)]; simp [nx]
theorem addTo_mem (n : Nat) (acc : List Int) (t x : Int) : x ∈ addTo n acc t ↔ x ∈ acc ∨ (x = t ∧ 0 ≤ t ∧ t < n) := by
  unfold addTo
  by_cases h : 0 ≤ t ∧ t < (n : Int)
  · rw [if_pos h]
    by_cases g : t ∈ acc
    · rw [if_pos g]; exact ⟨.inl, fun z => z.elim id (fun z => z.1 ▸ g)⟩
    · rw [if_neg g]; simp [h]
  · rw [if_neg h]; exact ⟨.inl, fun z => z.elim id (fun z => absurd z.2 h)⟩
theorem fold_mem (n : Nat) : ∀ (ts acc : List Int) (x : Int), x ∈ ts.foldl (addTo n) acc ↔ x ∈ acc ∨ (x ∈ ts ∧ 0 ≤ x ∧ x < n)
  | [], acc, x => by simp
  | t :: ts, acc, x => by
    rw [List.foldl_cons, fold_mem n ts, addTo_mem, List.mem_cons]
    constructor
    · rintro ((h | ⟨rfl, h⟩) | h)
      · exact .inl h
      · exact .inr ⟨.inl rfl, h⟩
      · exact .inr ⟨.inr h.1, h.2⟩
    · rintro (h | ⟨rfl | h, g⟩)
      · exact .inl (.inl h)
      · exact .inl (.inr ⟨rfl, g⟩)
      · exact .inr ⟨h, g⟩
theorem nxr_mem (B : List S52) (u : Nat) (x : Int) : x ∈ nxr B u ↔ x ∈ tos B u ∧ 0 ≤ x ∧ x < B.length := by
  rw [nxr, fold_mem]; simp
theorem addTo_len (n : Nat) (acc : List Int) (t : Int) : (addTo n acc t).length ≤ acc.length + 1 := by
  unfold addTo; split
  · split <;> simp
  · omega
theorem fold_len (n : Nat) : ∀ (ts acc : List Int), (ts.foldl (addTo n) acc).length ≤ acc.length + ts.length
  | [], acc => by simp
  | t :: ts, acc => by
    rw [List.foldl_cons, List.length_cons]
    have := fold_len n ts (addTo n acc t)
    have := addTo_len n acc t
    omega
structure Small (B : List S52) : Prop where
  n : B.length ≤ 70
  t : ∀ u, u < B.length → (tos B u).length ≤ 70
theorem next_in (B : List S52) (s : Small B) (i : Nat) (hi : i < B.length) (r : List (List Int)) : ∀ (m j : Nat) (X : List (List Int)), (tos B i).length - j = m → j ≤ (tos B i).length → X.length = B.length →
    (X.getD i []).length + ((tos B i).length - j) ≤ 70 →
    Ev (fun k => graph_Next.l0 k (X.set i (((tos B i).drop j).foldl (addTo B.length) (X.getD i []))) B (B.length : Int) ((i + 1 : Nat) : Int)) r →
    Ev (fun k => graph_Next.l1 k X (i : Int) B (B.length : Int) (i : Int) (tos B i) ((tos B i).length : Int) (j : Int)) r := by
  have hn := s.n
  have ht := s.t i hi
  intro m
  induction m with
  | zero =>
    intro j X hm hj hX hb h
    refine Ev.step (fun k => ?_) h
    rw [graph_Next.l1, if_neg (by omega), w64n (by omega), List.drop_of_length_le (by omega), List.foldl_nil]
    congr 1
    refine ext_getD [] (by simp) (fun u hu => ?_)
    rw [getD_set _ _ _ _ _ (by omega)]
    by_cases e : i = u
    · subst e; rw [if_pos rfl]
    · rw [if_neg e]
  | succ m ih =>
    intro j X hm hj hX hb h
    have hlt : j < (tos B i).length := by omega
    rw [drop_at _ j 0 hlt, List.foldl_cons] at h
    have ert : rd (tos B i) (j : Int) = (tos B i).getD j 0 := rfl
    have erow : rd_L1 X (i : Int) = X.getD i [] := rfl
    generalize hg : (tos B i).getD j 0 = t at h ert
    have same : addTo B.length (X.getD i []) t = X.getD i [] → Ev (fun k => graph_Next.l1 k X (i : Int) B (B.length : Int) (i : Int) (tos B i) ((tos B i).length : Int) ((j + 1 : Nat) : Int)) r := by
      intro e
      rw [e] at h
      exact ih (j + 1) X (by omega) (by omega) hX (by omega) h
    by_cases h0 : t ≥ 0
    · by_cases h1 : t < (X.length : Int)
      · by_cases h2 : t ∈ X.getD i []
        · refine Ev.step (f := fun k => (slices_Contains_int_int.f k (X.getD i []) t).bind fun c => if c = true then (graph_Next.l1 k X (i : Int) B (B.length : Int) (i : Int) (tos B i) ((tos B i).length : Int) ((j + 1 : Nat) : Int)) else (if (X.getD i []).length < 17592186044416 then (graph_Next.l1 k (X.set i (X.getD i [] ++ [t])) (i : Int) B (B.length : Int) (i : Int) (tos B i) ((tos B i).length : Int) ((j + 1 : Nat) : Int)) else none)) (fun k => ?_) ?_
          · rw [graph_Next.l1, if_pos (by omega), if_pos (by omega), if_pos (by omega), ert, if_pos h0, if_pos h1, if_pos (by omega), if_pos (by omega), erow, w64n (by omega)]
            rfl
          · refine (contains_ev (X.getD i []) t (by omega)).bind ?_
            rw [decide_eq_true h2]
            refine Ev.congr (fun k => by rw [if_pos rfl]) (same ?_)
            rw [addTo, if_pos (by omega), if_pos h2]
        · refine Ev.step (f := fun k => (slices_Contains_int_int.f k (X.getD i []) t).bind fun c => if c = true then (graph_Next.l1 k X (i : Int) B (B.length : Int) (i : Int) (tos B i) ((tos B i).length : Int) ((j + 1 : Nat) : Int)) else (if (X.getD i []).length < 17592186044416 then (graph_Next.l1 k (X.set i (X.getD i [] ++ [t])) (i : Int) B (B.length : Int) (i : Int) (tos B i) ((tos B i).length : Int) ((j + 1 : Nat) : Int)) else none)) (fun k => ?_) ?_
          · rw [graph_Next.l1, if_pos (by omega), if_pos (by omega), if_pos (by omega), ert, if_pos h0, if_pos h1, if_pos (by omega), if_pos (by omega), erow, w64n (by omega)]
            rfl
          · refine (contains_ev (X.getD i []) t (by omega)).bind ?_
            rw [decide_eq_false h2]
            refine Ev.congr (fun k => by rw [if_neg (by decide), if_pos (by omega)]) (ih (j + 1) (X.set i (X.getD i [] ++ [t])) (by omega) (by omega) (by simpa using hX) ?_ ?_)
            · rw [getD_set _ _ _ _ _ (by omega), if_pos rfl, List.length_append, List.length_singleton]; omega
            · rw [getD_set _ _ _ _ _ (by omega), if_pos rfl, List.set_set]
              rw [addTo, if_pos (by omega), if_neg h2] at h
              exact h
      · refine Ev.step (fun k => ?_) (same (by rw [addTo, if_neg (by omega)]))
        rw [graph_Next.l1, if_pos (by omega), if_pos (by omega), if_pos (by omega), ert, if_pos h0, if_neg h1, w64n (by omega)]
    · refine Ev.step (fun k => ?_) (same (by rw [addTo, if_neg (by omega)]))
      rw [graph_Next.l1, if_pos (by omega), if_pos (by omega), if_pos (by omega), ert, if_neg h0, w64n (by omega)]
theorem next_out (B : List S52) (s : Small B) : ∀ (m i : Nat) (X : List (List Int)), B.length - i = m → i ≤ B.length → X.length = B.length →
    (∀ u, u < B.length → X.getD u [] = if u < i then nxr B u else []) →
    Ev (fun k => graph_Next.l0 k X B (B.length : Int) (i : Int)) (nx B) := by
  have hn := s.n
  intro m
  induction m with
  | zero =>
    intro i X hm hi hX hv
    refine Ev.step (f := fun _ => some (nx B)) (fun k => ?_) (Ev.now _)
    rw [graph_Next.l0, if_neg (by omega)]
    congr 1
    refine ext_getD [] (by rw [nx_len, hX]) (fun u hu => ?_)
    rw [hv u (by omega), if_pos (by omega), nx_at B u (by omega)]
  | succ m ih =>
    intro i X hm hi hX hv
    have hlt : i < B.length := by omega
    have ht := s.t i hlt
    have e0 : X.getD i [] = [] := by rw [hv i hlt, if_neg (by omega)]
    refine Ev.step (f := fun k => graph_Next.l1 k X (i : Int) B (B.length : Int) (i : Int) (tos B i) ((tos B i).length : Int) ((0 : Nat) : Int)) (fun k => ?_) (next_in B s i hlt _ _ 0 X rfl (by omega) hX (by rw [e0]; simpa using ht) (ih (i + 1) _ (by omega) (by omega) (by simpa using hX) (fun u hu => ?_)))
    · rw [graph_Next.l0, if_pos (by omega), if_pos (by omega), if_pos (by omega)]; rfl
    · rw [getD_set _ _ _ _ _ (by omega), e0, List.drop_zero]
      by_cases e : i = u
      · subst e; rw [if_pos rfl, if_pos (by omega)]; rfl
      · rw [if_neg e, hv u hu]
        by_cases g : u < i
        · rw [if_pos g, if_pos (by omega)]
        · rw [if_neg g, if_neg (by omega)]
theorem next_ev (B : List S52) (s : Small B) (a b : Int) (l : List Int) : Ev (fun k => graph_Next.f k a b l B) (nx B) := by
  have hn := s.n
  refine Ev.congr (fun k => ?_) (next_out B s _ 0 (List.replicate B.length []) rfl (by omega) (by simp) (fun u hu => by rw [getD_rep _ _ _ _ hu, if_neg (by omega)]))
  rw [graph_Next.f, if_pos (by omega), if_pos (by omega)]
  rfl
/-! ### The order -/
def Ed (N : List (List Int)) (u v : Nat) : Prop := (v : Int) ∈ N.getD u []
structure Ok (N : List (List Int)) : Prop where
  n : N.length ≤ 70
  row : ∀ u, u < N.length → (N.getD u []).length ≤ 70
  rng : ∀ u, u < N.length → ∀ x ∈ N.getD u [], ∃ v : Nat, x = (v : Int) ∧ v < N.length
def ints (l : List Nat) : List Int := l.map (fun u : Nat => (u : Int))
theorem ints_app (l m : List Nat) : ints (l ++ m) = ints l ++ ints m := List.map_append
theorem ints_len (l : List Nat) : (ints l).length = l.length := List.length_map ..
theorem ints_at (l : List Nat) (i : Nat) (h : i < l.length) : (ints l).getD i 0 = ((l[i] : Nat) : Int) := by
  rw [getD_at _ _ _ (by rw [ints_len]; exact h)]; simp [ints]
def unseen (s : List Bool) : Nat := s.countP (fun b => !b)
theorem unseen_set (s : List Bool) (b : Nat) (h : b < s.length) (hs : s.getD b false = false) : unseen (s.set b true) + 1 = unseen s := by
  rw [getD_at _ _ _ h] at hs
  have hp : 0 < unseen s := List.countP_pos_iff.mpr ⟨s[b], List.getElem_mem h, by simp [hs]⟩
  unfold unseen at *
  rw [List.countP_set h, hs]
  simp
  omega
/-- What a visit adds. -/
structure Vis (N : List (List Int)) (s s' : List Bool) (e : List Nat) (top : Nat → Prop) : Prop where
  len : s'.length = N.length
  seen : ∀ u, u < N.length → (s'.getD u false = true ↔ s.getD u false = true ∨ u ∈ e)
  nodup : e.Nodup
  new : ∀ u ∈ e, u < N.length ∧ s.getD u false = false
  succ : ∀ u ∈ e, ∀ v, v < N.length → Ed N u v → s'.getD v false = true
  pre : ∀ u ∈ e, top u ∨ ∃ p x y, e = x ++ y ∧ u ∈ x ∧ p ∈ y ∧ Ed N p u
  cnt : unseen s' + e.length = unseen s
theorem visit_l (N : List (List Int)) (o : Ok N) (c b : Nat) (hb : b < N.length)
    (IH : ∀ (s : List Bool) (out : List Nat) (b : Nat), unseen s ≤ c → s.length = N.length → b < N.length → s.getD b false = false → out.length + unseen s ≤ 1000 →
      ∃ s' e, Ev (fun k => graph_visit.f k N (b : Int) s (ints out)) (s', ints (out ++ (e ++ [b]))) ∧ Vis N s s' (e ++ [b]) (· = b)) :
    ∀ (m i : Nat) (s : List Bool) (out : List Nat), (N.getD b []).length - i = m → i ≤ (N.getD b []).length → unseen s ≤ c → s.length = N.length → out.length + unseen s ≤ 1000 →
      ∃ s' e, Ev (fun k => graph_visit.l k N (b : Int) (N.getD b []) i s (ints out)) (s', ints (out ++ (e ++ [b]))) ∧ Vis N s s' e (Ed N b) ∧
        (∀ j v, i ≤ j → j < (N.getD b []).length → (N.getD b []).getD j 0 = ((v : Nat) : Int) → s'.getD v false = true) := by
  intro m
  induction m with
  | zero =>
    intro i s out hm hi hc hs ho
    refine ⟨s, [], Ev.step (f := fun _ => some (s, ints (out ++ ([] ++ [b])))) (fun k => ?_) (Ev.now _), ⟨hs, fun u hu => by simp, List.nodup_nil, fun u hu => absurd hu (List.not_mem_nil), fun u hu => absurd hu (List.not_mem_nil), fun u hu => absurd hu (List.not_mem_nil), by simp⟩, fun j v h1 h2 => absurd h2 (by omega)⟩
    rw [graph_visit.l, if_neg (by omega), if_pos (by rw [ints_len]; omega)]
    simp [ints]
  | succ m ih =>
    intro i s out hm hi hc hs ho
    have hlt : i < (N.getD b []).length := by omega
    obtain ⟨v, ev, hv⟩ := o.rng b hb _ (getD_mem (N.getD b []) i 0 hlt)
    have er : rd (N.getD b []) ((i : Nat) : Int) = (v : Int) := ev
    have ers : rdOf false s ((v : Nat) : Int) = s.getD v false := rfl
    have hE : Ed N b v := by unfold Ed; rw [← ev]; exact getD_mem _ _ _ hlt
    by_cases hsv : s.getD v false = true
    · obtain ⟨s', e, h1, h2, h3⟩ := ih (i + 1) s out (by omega) (by omega) hc hs ho
      refine ⟨s', e, Ev.step (fun k => ?_) h1, h2, fun j w hj hl ew => ?_⟩
      · rw [graph_visit.l, if_pos hlt, er, if_pos (by omega), if_pos (by omega), ers, if_pos hsv]
      · by_cases ej : j = i
        · subst ej
          rw [ev] at ew
          obtain rfl : v = w := by omega
          exact (h2.seen v hv).mpr (.inl hsv)
        · exact h3 j w (by omega) hl ew
    · obtain ⟨s1, e1, g1, g2⟩ := IH s out v hc hs hv (by simpa using hsv) ho
      have hcnt := g2.cnt
      have hl1 : (out ++ (e1 ++ [v])).length = out.length + (e1 ++ [v]).length := List.length_append
      obtain ⟨s', e, h1, h2, h3⟩ := ih (i + 1) s1 (out ++ (e1 ++ [v])) (by omega) (by omega) (by omega) g2.len (by omega)
      have keep : ∀ u, u < N.length → s1.getD u false = true → s'.getD u false = true := fun u hu h => (h2.seen u hu).mpr (.inl h)
      refine ⟨s', (e1 ++ [v]) ++ e, Ev.step (f := fun k => (graph_visit.f k N (v : Int) s (ints out)).bind fun p => graph_visit.l k N (b : Int) (N.getD b []) (i + 1) p.1 p.2) (fun k => ?_) (g1.bind ?_), ⟨h2.len, fun u hu => ?_, ?_, fun u hu => ?_, fun u hu w hw he => ?_, fun u hu => ?_, ?_⟩, fun j w hj hl ew => ?_⟩
      · rw [graph_visit.l, if_pos hlt, er, if_pos (by omega), if_pos (by omega), ers, if_neg hsv]
      · simpa [List.append_assoc] using h1
      · rw [h2.seen u hu, g2.seen u hu, List.mem_append (s := e1 ++ [v]) (t := e), or_assoc]
      · refine List.nodup_append.mpr ⟨g2.nodup, h2.nodup, fun x hx y hy exy => ?_⟩
        subst exy
        have := (h2.new x hy).2
        rw [(g2.seen x (h2.new x hy).1).mpr (.inr hx)] at this
        cases this
      · rcases List.mem_append.mp hu with h | h
        · exact g2.new u h
        · refine ⟨(h2.new u h).1, ?_⟩
          have h4 := (h2.new u h).2
          by_cases h5 : s.getD u false = true
          · rw [(g2.seen u (h2.new u h).1).mpr (.inl h5)] at h4; cases h4
          · simpa using h5
      · rcases List.mem_append.mp hu with h | h
        · exact keep w hw (g2.succ u h w hw he)
        · exact h2.succ u h w hw he
      · rcases List.mem_append.mp hu with h | h
        · rcases g2.pre u h with rfl | ⟨p, x, y, e0, hx, hy, he⟩
          · exact .inl hE
          · exact .inr ⟨p, x, y ++ e, by rw [e0, List.append_assoc], hx, List.mem_append_left _ hy, he⟩
        · rcases h2.pre u h with h0 | ⟨p, x, y, e0, hx, hy, he⟩
          · exact .inl h0
          · exact .inr ⟨p, (e1 ++ [v]) ++ x, y, by rw [e0, ← List.append_assoc], List.mem_append_right _ hx, hy, he⟩
      · have := h2.cnt
        rw [List.length_append]; omega
      · by_cases ej : j = i
        · subst ej
          rw [ev] at ew
          obtain rfl : v = w := by omega
          exact keep v hv ((g2.seen v hv).mpr (.inr (by simp)))
        · exact h3 j w (by omega) hl ew
theorem visit_ev (N : List (List Int)) (o : Ok N) : ∀ (c : Nat) (s : List Bool) (out : List Nat) (b : Nat), unseen s ≤ c → s.length = N.length → b < N.length → s.getD b false = false → out.length + unseen s ≤ 1000 →
      ∃ s' e, Ev (fun k => graph_visit.f k N (b : Int) s (ints out)) (s', ints (out ++ (e ++ [b]))) ∧ Vis N s s' (e ++ [b]) (· = b) := by
  intro c
  induction c with
  | zero =>
    intro s out b hc hs hb hsb ho
    have := unseen_set s b (by omega) hsb
    omega
  | succ c ih =>
    intro s out b hc hs hb hsb ho
    have hu := unseen_set s b (by omega) hsb
    obtain ⟨s', e, h1, h2, h3⟩ := visit_l N o c b hb ih _ 0 (s.set b true) out rfl (by omega) (by omega) (by simpa using hs) (by omega)
    have hst : ∀ u, (s.set b true).getD u false = if b = u then true else s.getD u false := fun u => getD_set _ _ _ _ _ (by omega)
    have hbn : b ∉ e := fun h => by
      have := (h2.new b h).2
      rw [hst, if_pos rfl] at this
      cases this
    refine ⟨s', e, Ev.step (fun k => ?_) h1, ⟨h2.len, fun u hu' => ?_, ?_, fun u hm => ?_, fun u hm w hw he => ?_, fun u hm => ?_, ?_⟩⟩
    · rw [graph_visit.f, if_pos (by omega), if_pos (by omega), if_pos (by omega)]
      rfl
    · rw [h2.seen u hu', hst, List.mem_append, List.mem_singleton]
      by_cases e0 : b = u
      · subst e0; simp
      · rw [if_neg e0]
        constructor
        · rintro (h | h)
          · exact .inl h
          · exact .inr (.inl h)
        · rintro (h | h | h)
          · exact .inl h
          · exact .inr h
          · exact absurd h.symm e0
    · refine List.nodup_append.mpr ⟨h2.nodup, by simp, fun x hx y hy exy => ?_⟩
      rw [List.mem_singleton] at hy
      subst exy; subst hy
      exact hbn hx
    · rcases List.mem_append.mp hm with h | h
      · refine ⟨(h2.new u h).1, ?_⟩
        have := (h2.new u h).2
        rw [hst] at this
        by_cases e0 : b = u
        · rw [if_pos e0] at this; cases this
        · rw [if_neg e0] at this; exact this
      · rw [List.mem_singleton] at h
        subst h
        exact ⟨hb, hsb⟩
    · rcases List.mem_append.mp hm with h | h
      · exact h2.succ u h w hw he
      · rw [List.mem_singleton] at h
        subst h
        obtain ⟨j, hj, ej⟩ := mem_getD 0 he
        exact h3 j w (by omega) hj ej
    · rcases List.mem_append.mp hm with h | h
      · rcases h2.pre u h with h0 | ⟨p, x, y, e0, hx, hy, he⟩
        · exact .inr ⟨b, e, [b], rfl, h, by simp, h0⟩
        · exact .inr ⟨p, x, y ++ [b], by rw [e0, List.append_assoc], hx, List.mem_append_left _ hy, he⟩
      · rw [List.mem_singleton] at h
        exact .inl h
    · have := h2.cnt
      rw [List.length_append, List.length_singleton]; omega

/-! ### Reverse -/
theorem rev_l (l : List Int) (hl : l.length ≤ 1000) : ∀ (m i : Nat) (x : List Int), l.length - 2 * i ≤ m → 2 * i ≤ l.length + 1 → x.length = l.length →
    (∀ u, u < l.length → x.getD u 0 = if u < i ∨ l.length < u + 1 + i then l.getD (l.length - 1 - u) 0 else l.getD u 0) →
    Ev (fun k => slices_Reverse_int_int.l0 k x (i : Int) ((l.length : Int) - 1 - i)) l.reverse := by
  have fin : ∀ (i : Nat) (x : List Int), l.length ≤ 2 * i + 1 → 2 * i ≤ l.length + 1 → x.length = l.length →
    (∀ u, u < l.length → x.getD u 0 = if u < i ∨ l.length < u + 1 + i then l.getD (l.length - 1 - u) 0 else l.getD u 0) →
    Ev (fun k => slices_Reverse_int_int.l0 k x (i : Int) ((l.length : Int) - 1 - i)) l.reverse := by
    intro i x h1 h2 hx hv
    refine Ev.step (f := fun _ => some l.reverse) (fun k => ?_) (Ev.now _)
    rw [slices_Reverse_int_int.l0, if_neg (by omega)]
    congr 1
    refine ext_getD 0 (by simpa using hx) (fun u hu => ?_)
    rw [hv u (by omega), getD_at l.reverse _ _ (by simpa using (by omega : u < l.length)), List.getElem_reverse]
    split
    · rw [getD_at _ _ _ (by omega)]
    · next h =>
      have : l.length - 1 - u = u := by omega
      rw [getD_at _ _ _ (by omega)]
      congr 1
      exact this.symm
  intro m
  induction m with
  | zero =>
    intro i x hm hi hx hv
    exact fin i x (by omega) hi hx hv
  | succ m ih =>
    intro i x hm hi hx hv
    by_cases hlt : l.length ≤ 2 * i + 1
    · exact fin i x hlt hi hx hv
    · have ej : (((l.length : Int) - 1 - i) : Int).toNat = l.length - 1 - i := by omega
      have e1 : rd x ((l.length : Int) - 1 - i) = x.getD (l.length - 1 - i) 0 := by unfold rd; rw [ej]
      refine Ev.step (fun k => ?_) (ih (i + 1) ((x.set i (x.getD (l.length - 1 - i) 0)).set (l.length - 1 - i) (x.getD i 0)) (by omega) (by omega) (by simpa using hx) (fun u hu => ?_))
      · rw [slices_Reverse_int_int.l0, if_pos (by omega), if_pos (by omega), if_pos (by omega), if_pos (by omega), if_pos (by omega), w64n (by omega), e1, ej]
        have : wrap64 ((l.length : Int) - 1 - i - 1) = (l.length : Int) - 1 - ((i + 1 : Nat) : Int) := by rw [wrap64]; omega
        rw [this]
        rfl
      · rw [getD_set _ _ _ _ _ (by simp; omega)]
        by_cases u1 : l.length - 1 - i = u
        · rw [if_pos u1, hv i (by omega), if_neg (by omega), if_pos (by omega)]
          congr 1; omega
        · rw [if_neg u1, getD_set _ _ _ _ _ (by omega)]
          by_cases u2 : i = u
          · subst u2
            rw [if_pos rfl, hv _ (by omega), if_neg (by omega), if_pos (by omega)]
          · rw [if_neg u2, hv u hu]
            by_cases g : u < i ∨ l.length < u + 1 + i
            · rw [if_pos g, if_pos (by omega)]
            · rw [if_neg g, if_neg (by omega)]
theorem rev_ev (l : List Int) (hl : l.length ≤ 1000) : Ev (fun k => slices_Reverse_int_int.f k l) l.reverse := by
  refine Ev.congr (fun k => ?_) (rev_l l hl _ 0 l (Nat.le_refl _) (by omega) rfl (fun u hu => by rw [if_neg (by omega)]))
  rw [slices_Reverse_int_int.f]
  have : wrap64 ((l.length : Int) - 1) = (l.length : Int) - 1 - ((0 : Nat) : Int) := by rw [wrap64]; omega
  rw [this]
  rfl
/-! ### What the order is -/
structure Ord (N : List (List Int)) (ord : List Nat) : Prop where
  head : ord = [] ∧ N.length = 0 ∨ ∃ t, ord = 0 :: t
  nodup : ord.Nodup
  rng : ∀ u ∈ ord, u < N.length
  closed : ∀ u ∈ ord, ∀ v, v < N.length → Ed N u v → v ∈ ord
  pre : ∀ u ∈ ord, u ≠ 0 → ∃ p, p ∈ ord ∧ Ed N p u ∧ ord.idxOf p < ord.idxOf u
theorem nx_ok (B : List S52) (s : Small B) : Ok (nx B) := by
  refine ⟨by rw [nx_len]; exact s.n, fun u hu => ?_, fun u hu x hx => ?_⟩
  · rw [nx_len] at hu
    rw [nx_at B u hu]
    have := fold_len B.length (tos B u) []
    have := s.t u hu
    unfold nxr
    simp only [List.length_nil] at *
    omega
  · rw [nx_len] at *
    rw [nx_at B u hu] at hx
    have := ((nxr_mem B u x).mp hx).2
    exact ⟨x.toNat, by omega, by omega⟩
theorem idx_lt {l x y : List Nat} {a b : Nat} (h : l = x ++ y) (nd : l.Nodup) (ha : a ∈ x) (hb : b ∈ y) : l.idxOf a < l.idxOf b := by
  subst h
  rw [List.idxOf_append, if_pos ha, List.idxOf_append, if_neg]
  · have := List.idxOf_lt_length_of_mem ha
    omega
  · intro hbx
    exact (List.nodup_append.mp nd).2.2 b hbx b hb rfl
theorem order_ev (B : List S52) (s : Small B) (a b : Int) (l : List Int) :
    ∃ ord seen, Ev (fun k => graph_order.f k a b l B) (ints ord, seen) ∧ Ord (nx B) ord ∧ seen.length = B.length ∧ (∀ u, u < B.length → (seen.getD u false = true ↔ u ∈ ord)) ∧ ord.length ≤ 70 := by
  have hn := s.n
  have o := nx_ok B s
  have hl := nx_len B
  have hN := next_ev B s a b l
  by_cases h0 : 0 < B.length
  · have hu : unseen (List.replicate (nx B).length false) = B.length := by simp [unseen, hl, List.countP_replicate]
    obtain ⟨s', e, h1, h2⟩ := visit_ev (nx B) o _ (List.replicate (nx B).length false) [] 0 (Nat.le_refl _) (by simp) (by omega) (getD_rep _ _ _ _ (by omega)) (by rw [hu]; simp; omega)
    have hcnt := h2.cnt
    rw [hu] at hcnt
    have hmem : ∀ u, u ∈ (e ++ [0]).reverse ↔ u ∈ e ++ [0] := fun u => List.mem_reverse
    have hseen : ∀ u, u < B.length → (s'.getD u false = true ↔ u ∈ (e ++ [0]).reverse) := by
      intro u hu'
      rw [h2.seen u (by omega), getD_rep _ _ _ _ (by omega), hmem]
      simp
    refine ⟨(e ++ [0]).reverse, s', ?_, ⟨.inr ⟨e.reverse, by simp⟩, ?_, fun u hu' => ?_, fun u hu' v hv he => ?_, fun u hu' hne => ?_⟩, by rw [h2.len, hl], hseen, by rw [List.length_reverse]; omega⟩
    · refine hN.bind (f := fun k next => if next.length ≤ 281474976710656 then ((if 0 < next.length then graph_visit.f k next 0 (List.replicate next.length false) [] else some (List.replicate next.length false, [])).bind fun p => ((slices_Reverse_int_int.f k p.2).bind fun o => some (o, p.1))) else none) ?_
      refine Ev.congr (f := fun k => (graph_visit.f k (nx B) 0 (List.replicate (nx B).length false) []).bind fun p => ((slices_Reverse_int_int.f k p.2).bind fun o => some (o, p.1))) (fun k => by rw [if_pos (by omega), if_pos (by omega)]) ?_
      refine Ev.bind (f := fun k p => ((slices_Reverse_int_int.f k p.2).bind fun o => some (o, p.1))) h1 ?_
      have hr := rev_ev (ints ([] ++ (e ++ [0]))) (by rw [ints_len]; simp only [List.nil_append]; omega)
      refine Ev.bind (f := fun _ o => some (o, s')) hr ?_
      have : (ints ([] ++ (e ++ [0]))).reverse = ints (e ++ [0]).reverse := by rw [List.nil_append, ints, ints, List.map_reverse]
      rw [this]
      exact Ev.now _
    · have h3 := h2.nodup
      unfold List.Nodup at *
      rw [List.pairwise_reverse]
      exact h3.imp (fun h => h.symm)
    · have := (h2.new u ((hmem u).mp hu')).1
      exact this
    · rw [hl] at hv
      exact (hseen v hv).mp (h2.succ u ((hmem u).mp hu') v (by omega) he)
    · rcases h2.pre u ((hmem u).mp hu') with h | ⟨p, x, y, e0, hx, hy, he⟩
      · exact absurd h hne
      · refine ⟨p, (hmem p).mpr (by rw [e0]; exact List.mem_append_right _ hy), he, idx_lt (x := y.reverse) (y := x.reverse) (by rw [e0, List.reverse_append]) ?_ (List.mem_reverse.mpr hy) (List.mem_reverse.mpr hx)⟩
        have h3 := h2.nodup
        unfold List.Nodup at *
        rw [List.pairwise_reverse]
        exact h3.imp (fun h => h.symm)
  · have hz : B.length = 0 := by omega
    refine ⟨[], [], ?_, ⟨.inl ⟨rfl, by omega⟩, List.nodup_nil, fun u hu => absurd hu List.not_mem_nil, fun u hu => absurd hu List.not_mem_nil, fun u hu => absurd hu List.not_mem_nil⟩, by simp [hz], fun u hu => by omega, by simp⟩
    refine hN.bind (f := fun k next => if next.length ≤ 281474976710656 then ((if 0 < next.length then graph_visit.f k next 0 (List.replicate next.length false) [] else some (List.replicate next.length false, [])).bind fun p => ((slices_Reverse_int_int.f k p.2).bind fun o => some (o, p.1))) else none) ?_
    refine Ev.congr (f := fun k => (slices_Reverse_int_int.f k []).bind fun o => some (o, [])) (fun k => by
      rw [if_pos (by omega), if_neg (by omega), Option.bind_some]
      simp [hl, hz]) ?_
    exact Ev.bind (f := fun _ o => some (o, ([] : List Bool))) (rev_ev [] (by simp)) (Ev.now _)
/-- A way from the entry on which each is 'ok'. -/
inductive Way (N : List (List Int)) (ok : Nat → Prop) : Nat → Prop where
  | root : 0 < N.length → ok 0 → Way N ok 0
  | step {u v : Nat} : Way N ok u → v < N.length → Ed N u v → ok v → Way N ok v
theorem Way.ok {N : List (List Int)} {ok : Nat → Prop} {b : Nat} (h : Way N ok b) : ok b := by
  cases h with
  | root _ h => exact h
  | step _ _ _ h => exact h
theorem Way.lt {N : List (List Int)} {ok : Nat → Prop} {b : Nat} (h : Way N ok b) : b < N.length := by
  cases h with
  | root h _ => exact h
  | step _ h _ _ => exact h
theorem Way.mono {N : List (List Int)} {ok ok' : Nat → Prop} {b : Nat} (h : Way N ok b) (m : ∀ u, ok u → ok' u) : Way N ok' b := by
  induction h with
  | root h g => exact .root h (m _ g)
  | step _ h e g ih => exact .step ih h e (m _ g)
theorem Ord.way {N : List (List Int)} {ord : List Nat} (o : Ord N ord) (u : Nat) : u ∈ ord ↔ Way N (fun _ => True) u := by
  constructor
  · have : ∀ (k u : Nat), ord.idxOf u < k → u ∈ ord → Way N (fun _ => True) u := by
      intro k
      induction k with
      | zero => intro u h; omega
      | succ k ih =>
        intro u hk hu
        by_cases h0 : u = 0
        · subst h0
          exact .root (by have := o.rng 0 hu; omega) trivial
        · obtain ⟨p, hp, he, hl⟩ := o.pre u hu h0
          exact .step (ih p (by omega) hp) (o.rng u hu) he trivial
    exact this (ord.idxOf u + 1) u (by omega)
  · intro h
    induction h with
    | root h _ =>
      rcases o.head with ⟨_, hz⟩ | ⟨t, ht⟩
      · omega
      · rw [ht]; simp
    | step _ h e _ ih => exact o.closed _ ih _ h e
/-- d stands on each way to b. -/
def Dom (N : List (List Int)) (d b : Nat) : Prop := Way N (fun _ => True) b ∧ (d = b ∨ ¬ Way N (· ≠ d) b)
theorem dom_gr (N : List (List Int)) (ord : List Nat) (o : Ord N ord) (h0 : 0 < N.length) : ∃ fw, Tree.Gr (Ed N) (fun u => ord.idxOf u) (· ∈ ord) fw (Dom N) := by
  have hz : 0 ∈ ord := (o.way 0).mpr (.root h0 trivial)
  have hp : ∀ b, ∃ p, b ∈ ord → b ≠ 0 → p ∈ ord ∧ Ed N p b ∧ ord.idxOf p < ord.idxOf b := by
    intro b
    by_cases h : b ∈ ord ∧ b ≠ 0
    · obtain ⟨p, hp⟩ := o.pre b h.1 h.2
      exact ⟨p, fun _ _ => hp⟩
    · exact ⟨0, fun h1 h2 => absurd ⟨h1, h2⟩ h⟩
  refine ⟨fun b => Classical.choose (hp b), hz, ?_, fun a b ha hb e => ?_, fun b hb hne => Classical.choose_spec (hp b) hb hne, fun d hd => ?_, fun d b p hd hne he hpi => ?_⟩
  · rcases o.head with ⟨_, hz⟩ | ⟨t, ht⟩
    · omega
    · show ord.idxOf 0 = 0
      rw [ht]; simp
  · have h1 := List.idxOf_lt_length_of_mem ha
    have h2 := List.idxOf_lt_length_of_mem hb
    have e1 := List.getElem_idxOf h1
    have e2 := List.getElem_idxOf h2
    rw [← e1, ← e2]
    simp only [show ord.idxOf a = ord.idxOf b from e]
  · rcases hd.2 with h | h
    · exact h
    · by_cases e : d = 0
      · exact e
      · exact absurd (Way.root h0 (fun z => e z.symm)) h
  · have hw := (o.way p).mp hpi
    refine ⟨hw, ?_⟩
    by_cases e : d = p
    · exact .inl e
    · right
      intro hp
      rcases hd.2 with h | h
      · exact hne h
      · exact h (.step hp hd.1.lt he (fun z => hne z.symm))
/-! ### Ahead -/
/-- The rows of those ahead, when i rows are told and j of the next. -/
structure Ah (N X : List (List Int)) (i j : Nat) : Prop where
  len : X.length = N.length
  mem : ∀ v, v < N.length → ∀ x, x ∈ X.getD v [] ↔ ∃ u : Nat, x = (u : Int) ∧ u < N.length ∧ (u < i ∧ Ed N u v ∨ u = i ∧ ∃ q, q < j ∧ (N.getD i []).getD q 0 = (v : Int) ∧ q < (N.getD i []).length)
  cnt : ∀ v, v < N.length → (X.getD v []).length ≤ 70 * i + j
theorem ahead_out (N : List (List Int)) (o : Ok N) : ∀ (m i : Nat) (X : List (List Int)), N.length - i = m → i ≤ N.length → Ah N X i 0 →
    ∃ Y, Ev (fun k => dom_ahead.l0 k X N (N.length : Int) (i : Int)) Y ∧ Ah N Y N.length 0 := by
  have hn := o.n
  intro m
  induction m with
  | zero =>
    intro i X hm hi a
    obtain rfl : i = N.length := by omega
    refine ⟨X, Ev.step (f := fun _ => some X) (fun k => ?_) (Ev.now _), a⟩
    rw [dom_ahead.l0, if_neg (by omega)]
  | succ m ih =>
    intro i X hm hi a
    have hlt : i < N.length := by omega
    have ht := o.row i hlt
    -- the inner loop, forward: it ends in some rows
    have fw : ∀ (m j : Nat) (X : List (List Int)), (N.getD i []).length - j = m → j ≤ (N.getD i []).length → Ah N X i j →
        ∃ Y, Ev (fun k => dom_ahead.l1 k X (i : Int) N (N.length : Int) (i : Int) (N.getD i []) ((N.getD i []).length : Int) (j : Int)) Y ∧ Ah N Y N.length 0 := by
      intro m'
      induction m' with
      | zero =>
        intro j X hm' hj a'
        have a2 : Ah N X (i + 1) 0 := by
          refine ⟨a'.len, fun v hv x => ?_, fun v hv => ?_⟩
          · rw [a'.mem v hv]
            constructor
            · rintro ⟨u, e, hu, h | ⟨rfl, q, h1, h2, h3⟩⟩
              · exact ⟨u, e, hu, .inl ⟨by omega, h.2⟩⟩
              · exact ⟨u, e, hu, .inl ⟨by omega, by unfold Ed; rw [← h2]; exact getD_mem _ _ _ h3⟩⟩
            · rintro ⟨u, e, hu, h | ⟨_, q, h1, _⟩⟩
              · by_cases g : u < i
                · exact ⟨u, e, hu, .inl ⟨g, h.2⟩⟩
                · obtain rfl : u = i := by omega
                  obtain ⟨q, hq, eq⟩ := mem_getD 0 h.2
                  exact ⟨u, e, hu, .inr ⟨rfl, q, by omega, eq, hq⟩⟩
              · omega
          · have := a'.cnt v hv
            omega
        obtain ⟨Y, h1, h2⟩ := ih (i + 1) X (by omega) (by omega) a2
        refine ⟨Y, Ev.step (fun k => ?_) h1, h2⟩
        rw [dom_ahead.l1, if_neg (by omega), w64n (by omega)]
      | succ m' ih' =>
        intro j X hm' hj a'
        have hl : j < (N.getD i []).length := by omega
        obtain ⟨v, ev, hv⟩ := o.rng i hlt _ (getD_mem (N.getD i []) j 0 hl)
        have er : rd (N.getD i []) ((j : Nat) : Int) = (v : Int) := ev
        have erow : rd_L1 X (v : Int) = X.getD v [] := rfl
        have hc := a'.cnt v hv
        have hX := a'.len
        obtain ⟨Y, h1, h2⟩ := ih' (j + 1) (X.set v (X.getD v [] ++ [(i : Int)])) (by omega) (by omega) (by
          refine ⟨by simpa using hX, fun w hw x => ?_, fun w hw => ?_⟩
          · rw [getD_set _ _ _ _ _ (by omega)]
            by_cases e : v = w
            · subst e
              rw [if_pos rfl, List.mem_append, a'.mem v hv, List.mem_singleton]
              constructor
              · rintro (⟨u, e, hu, h | ⟨rfl, q, h1, h2, h3⟩⟩ | rfl)
                · exact ⟨u, e, hu, .inl h⟩
                · exact ⟨u, e, hu, .inr ⟨rfl, q, by omega, h2, h3⟩⟩
                · exact ⟨i, rfl, hlt, .inr ⟨rfl, j, by omega, ev, hl⟩⟩
              · rintro ⟨u, e, hu, h | ⟨rfl, q, h1, h2, h3⟩⟩
                · exact .inl ⟨u, e, hu, .inl h⟩
                · exact .inr e
            · rw [if_neg e, a'.mem w hw]
              constructor
              · rintro ⟨u, e, hu, h | ⟨rfl, q, h1, h2, h3⟩⟩
                · exact ⟨u, e, hu, .inl h⟩
                · exact ⟨u, e, hu, .inr ⟨rfl, q, by omega, h2, h3⟩⟩
              · rintro ⟨u, e', hu, h | ⟨rfl, q, h1, h2, h3⟩⟩
                · exact ⟨u, e', hu, .inl h⟩
                · by_cases g : q = j
                  · subst g
                    rw [ev] at h2
                    omega
                  · exact ⟨u, e', hu, .inr ⟨rfl, q, by omega, h2, h3⟩⟩
          · rw [getD_set _ _ _ _ _ (by omega)]
            by_cases e : v = w
            · rw [if_pos e, List.length_append, List.length_singleton]; omega
            · rw [if_neg e]
              have := a'.cnt w hw
              omega)
        refine ⟨Y, Ev.step (fun k => ?_) h1, h2⟩
        rw [dom_ahead.l1, if_pos (by omega), if_pos (by omega), if_pos (by omega), er, if_pos (by omega), if_pos (by omega), erow, if_pos (by omega), w64n (by omega)]
        rfl
    obtain ⟨Y, h1, h2⟩ := fw _ 0 X rfl (by omega) a
    refine ⟨Y, Ev.step (fun k => ?_) h1, h2⟩
    rw [dom_ahead.l0, if_pos (by omega), if_pos (by omega), if_pos (by omega)]
    rfl
/-- The rows of those ahead. -/
structure Back (N X : List (List Int)) : Prop where
  len : X.length = N.length
  mem : ∀ v, v < N.length → ∀ x, x ∈ X.getD v [] ↔ ∃ u : Nat, x = (u : Int) ∧ u < N.length ∧ Ed N u v
  cnt : ∀ v, v < N.length → (X.getD v []).length ≤ 5000
theorem ahead_ev (N : List (List Int)) (o : Ok N) : ∃ Y, Ev (fun k => dom_ahead.f k N) Y ∧ Back N Y := by
  have hn := o.n
  obtain ⟨Y, h1, h2⟩ := ahead_out N o _ 0 (List.replicate N.length []) rfl (by omega) ⟨by simp, fun v hv x => by
    rw [getD_rep _ _ _ _ hv]
    refine ⟨fun h => absurd h List.not_mem_nil, ?_⟩
    rintro ⟨u, e, hu, h | ⟨_, q, h1, _⟩⟩ <;> omega, fun v hv => by rw [getD_rep _ _ _ _ hv]; simp⟩
  refine ⟨Y, Ev.congr (fun k => ?_) h1, h2.len, fun v hv x => ?_, fun v hv => ?_⟩
  · rw [dom_ahead.f, if_pos (by omega), if_pos (by omega)]
    rfl
  · rw [h2.mem v hv]
    constructor
    · rintro ⟨u, e, hu, h | ⟨_, q, h1, _⟩⟩
      · exact ⟨u, e, hu, h.2⟩
      · omega
    · rintro ⟨u, e, hu, h⟩
      exact ⟨u, e, hu, .inl ⟨hu, h⟩⟩
  · have := h2.cnt v hv
    omega

/-! ### Meet -/
/-- The parents, as the program holds them. -/
def parOf (x : List Int) : Nat → Option Nat := fun b => if 0 ≤ x.getD b (-1) then some (x.getD b (-1)).toNat else none
theorem par_some {x : List Int} {b q : Nat} (h : parOf x b = some q) : b < x.length ∧ x.getD b 0 = (q : Int) ∧ x.getD b (-1) = (q : Int) := by
  unfold parOf at h
  by_cases g : 0 ≤ x.getD b (-1)
  · rw [if_pos g] at h
    have hb : b < x.length := by
      by_cases hb : b < x.length
      · exact hb
      · rw [List.getD_eq_getElem?_getD, List.getElem?_eq_none (by omega)] at g
        exact absurd g (by decide)
    have e : x.getD b 0 = x.getD b (-1) := by rw [getD_at _ _ _ hb, getD_at _ _ _ hb]
    have : (x.getD b (-1)).toNat = q := Option.some.inj h
    exact ⟨hb, by omega, by omega⟩
  · rw [if_neg g] at h; cases h
theorem par_none {x : List Int} {b : Nat} (hb : b < x.length) (h : (parOf x b).isSome = false) : x.getD b 0 < 0 := by
  unfold parOf at h
  by_cases g : 0 ≤ x.getD b (-1)
  · rw [if_pos g] at h; cases h
  · have e : x.getD b 0 = x.getD b (-1) := by rw [getD_at _ _ _ hb, getD_at _ _ _ hb]
    omega
/-- What meet is asked with: a tree, and the places of those in it. -/
structure Mt (pl : Nat → Nat) (x y : List Int) : Prop where
  wf : Tree.Wf pl (parOf x)
  pl0 : pl 0 = 0
  rank : ∀ b, (parOf x b).isSome = true → b < y.length ∧ y.getD b 0 = (pl b : Int)
  inj : ∀ a b, (parOf x a).isSome = true → (parOf x b).isSome = true → pl a = pl b → a = b
def Met (x : List Int) (a b m : Nat) : Prop := (parOf x m).isSome = true ∧ Tree.Anc (parOf x) m a ∧ Tree.Anc (parOf x) m b ∧ ∀ z, Tree.Anc (parOf x) z a → Tree.Anc (parOf x) z b → Tree.Anc (parOf x) z m
theorem meet_all (pl : Nat → Nat) (x y : List Int) (t : Mt pl x y) : ∀ (s a b : Nat), pl a + pl b ≤ s → (parOf x a).isSome = true → (parOf x b).isSome = true →
    (∃ m : Nat, Ev (fun k => dom_meet.l0 k x y (a : Int) (b : Int)) (m : Int) ∧ Met x a b m) ∧ (∃ m : Nat, Ev (fun k => dom_meet.l1 k x y (a : Int) (b : Int)) (m : Int) ∧ Met x a b m) ∧ (pl a ≤ pl b → ∃ m : Nat, Ev (fun k => dom_meet.l2 k x y (a : Int) (b : Int)) (m : Int) ∧ Met x a b m) := by
  intro s
  induction s with
  | zero =>
    intro a b hs ha hb
    obtain rfl := t.inj a b ha hb (by omega)
    have hM : Met x a a a := ⟨ha, .refl _, .refl _, fun z h _ => h⟩
    obtain ⟨r1, r2⟩ := t.rank a ha
    have er : rd y (a : Int) = (pl a : Int) := r2
    have e0 : Ev (fun k => dom_meet.l0 k x y (a : Int) (a : Int)) (a : Int) := Ev.step (f := fun _ => some (a : Int)) (fun k => by rw [dom_meet.l0, if_pos rfl]) (Ev.now _)
    have e2 : Ev (fun k => dom_meet.l2 k x y (a : Int) (a : Int)) (a : Int) := Ev.step (fun k => by rw [dom_meet.l2, if_pos (by omega), if_pos (by omega), if_pos (by omega), if_pos (by omega), if_neg (by omega)]) e0
    exact ⟨⟨a, e0, hM⟩, ⟨a, Ev.step (fun k => by rw [dom_meet.l1, if_pos (by omega), if_pos (by omega), if_pos (by omega), if_pos (by omega), if_neg (by omega)]) e2, hM⟩, fun _ => ⟨a, e2, hM⟩⟩
  | succ s ih =>
    intro a b hs ha hb
    obtain ⟨ra1, ra2⟩ := t.rank a ha
    obtain ⟨rb1, rb2⟩ := t.rank b hb
    have era : rd y (a : Int) = (pl a : Int) := ra2
    have erb : rd y (b : Int) = (pl b : Int) := rb2
    have p2 : pl a ≤ pl b → ∃ m : Nat, Ev (fun k => dom_meet.l2 k x y (a : Int) (b : Int)) (m : Int) ∧ Met x a b m := by
      intro hle
      by_cases h : pl b > pl a
      · have hb0 : b ≠ 0 := by rintro rfl; have := t.pl0; omega
        obtain ⟨q, hq⟩ := Option.isSome_iff_exists.mp hb
        obtain ⟨q1, q2, _⟩ := par_some hq
        have hw := t.wf.tree b q hq hb0
        have eq : rd x (b : Int) = (q : Int) := q2
        -- the one above b and a: whichever is the deeper
        have key : ∃ m : Nat, Ev (fun k => dom_meet.l2 k x y (a : Int) (q : Int)) (m : Int) ∧ Met x a q m := by
          obtain ⟨i0, i1, i2⟩ := ih a q (by omega) ha hw.2
          by_cases g : pl a ≤ pl q
          · exact i2 g
          · obtain ⟨m, e1, hM⟩ := i0
            refine ⟨m, Ev.step (fun k => ?_) e1, hM⟩
            obtain ⟨rq1, rq2⟩ := t.rank q hw.2
            have erq : rd y (q : Int) = (pl q : Int) := rq2
            rw [dom_meet.l2, if_pos (by omega), if_pos (by omega), if_pos (by omega), if_pos (by omega), if_neg (by omega)]
        obtain ⟨m, e1, hM⟩ := key
        refine ⟨m, Ev.step (fun k => ?_) e1, hM.1, hM.2.1, .step hq hb0 hM.2.2.1, fun z hz1 hz2 => ?_⟩
        · rw [dom_meet.l2, if_pos (by omega), if_pos (by omega), if_pos (by omega), if_pos (by omega), if_pos (by omega), if_pos (by omega), eq]
        · have := hz1.le t.wf
          obtain ⟨q', hq', _, hA⟩ := hz2.above (by rintro rfl; omega)
          rw [hq] at hq'
          cases hq'
          exact hM.2.2.2 z hz1 hA
      · obtain rfl := t.inj a b ha hb (by omega)
        refine ⟨a, Ev.step (fun k => ?_) (Ev.step (g := fun k => dom_meet.l0 k x y (a : Int) (a : Int)) (f := fun _ => some (a : Int)) (fun k => by rw [dom_meet.l0, if_pos rfl]) (Ev.now _)), ha, .refl _, .refl _, fun z h _ => h⟩
        rw [dom_meet.l2, if_pos (by omega), if_pos (by omega), if_pos (by omega), if_pos (by omega), if_neg (by omega)]
    have p1 : ∃ m : Nat, Ev (fun k => dom_meet.l1 k x y (a : Int) (b : Int)) (m : Int) ∧ Met x a b m := by
      by_cases h : pl a > pl b
      · have ha0 : a ≠ 0 := by rintro rfl; have := t.pl0; omega
        obtain ⟨q, hq⟩ := Option.isSome_iff_exists.mp ha
        obtain ⟨q1, q2, _⟩ := par_some hq
        have hw := t.wf.tree a q hq ha0
        have eq : rd x (a : Int) = (q : Int) := q2
        obtain ⟨m, e1, hM⟩ := (ih q b (by omega) hw.2 hb).2.1
        refine ⟨m, Ev.step (fun k => ?_) e1, hM.1, .step hq ha0 hM.2.1, hM.2.2.1, fun z hz1 hz2 => ?_⟩
        · rw [dom_meet.l1, if_pos (by omega), if_pos (by omega), if_pos (by omega), if_pos (by omega), if_pos (by omega), if_pos (by omega), eq]
        · have := hz2.le t.wf
          obtain ⟨q', hq', _, hA⟩ := hz1.above (by rintro rfl; omega)
          rw [hq] at hq'
          cases hq'
          exact hM.2.2.2 z hA hz2
      · obtain ⟨m, e1, hM⟩ := p2 (by omega)
        refine ⟨m, Ev.step (fun k => ?_) e1, hM⟩
        rw [dom_meet.l1, if_pos (by omega), if_pos (by omega), if_pos (by omega), if_pos (by omega), if_neg (by omega)]
    refine ⟨?_, p1, p2⟩
    by_cases e : a = b
    · subst e
      exact ⟨a, Ev.step (f := fun _ => some (a : Int)) (fun k => by rw [dom_meet.l0, if_pos rfl]) (Ev.now _), ha, .refl _, .refl _, fun z h _ => h⟩
    · obtain ⟨m, e1, hM⟩ := p1
      exact ⟨m, Ev.step (fun k => by rw [dom_meet.l0, if_neg (by omega)]) e1, hM⟩
theorem meet_ev (pl : Nat → Nat) (x y : List Int) (t : Mt pl x y) (a b : Nat) (ha : (parOf x a).isSome = true) (hb : (parOf x b).isSome = true) :
    ∃ m : Nat, Ev (fun k => dom_meet.f k x y (a : Int) (b : Int)) (m : Int) ∧ Met x a b m := (meet_all pl x y t _ a b (Nat.le_refl _) ha hb).1
/-! ### Nearest -/
theorem idx_at : ∀ (l : List Nat) (i : Nat) (h : i < l.length), l.Nodup → l.idxOf l[i] = i
  | a :: l, 0, _, _ => by simp
  | a :: l, i + 1, h, nd => by
    have hi : i < l.length := by simpa using h
    have hne : a ≠ l[i] := fun e => (List.nodup_cons.mp nd).1 (e ▸ List.getElem_mem hi)
    rw [List.getElem_cons_succ, List.idxOf_cons, idx_at l i hi (List.nodup_cons.mp nd).2]
    have : (a == l[i]) = false := by simpa using hne
    rw [this]; rfl
theorem ints_rd (l : List Nat) (i : Nat) (h : i < l.length) : rd (ints l) (i : Int) = ((l[i] : Nat) : Int) := ints_at l i h
/-- What a pass holds fast. -/
structure Cx (N : List (List Int)) (ord t : List Nat) (Bf : List (List Int)) (y : List Int) (fw : Nat → Nat) : Prop where
  ok : Ok N
  od : Ord N ord
  ht : ord = 0 :: t
  n0 : 0 < N.length
  len : ord.length ≤ 70
  bk : Back N Bf
  yl : y.length = N.length
  rank : ∀ u ∈ ord, y.getD u 0 = ((ord.idxOf u : Nat) : Int)
  gr : Tree.Gr (Ed N) (fun u => ord.idxOf u) (· ∈ ord) fw (Dom N)
theorem par_set (x : List Int) (u m : Nat) (hu : u < x.length) : parOf (x.set u (m : Int)) = Tree.upd (parOf x) u m := by
  funext b
  unfold parOf Tree.upd
  rw [getD_set _ _ _ _ _ hu]
  by_cases e : u = b
  · subst e
    rw [if_pos rfl, if_pos rfl, if_pos (by omega)]
    simp
  · rw [if_neg e, if_neg (show ¬ b = u from fun z => e z.symm)]
theorem par_same (x : List Int) (u m : Nat) (h : x.getD u 0 = (m : Int)) (hu : u < x.length) : Tree.upd (parOf x) u m = parOf x := by
  rw [← par_set x u m hu]
  congr 1
  refine ext_getD 0 (by simp) (fun b hb => ?_)
  rw [getD_set _ _ _ _ _ hu]
  by_cases e : u = b
  · subst e; rw [if_pos rfl, h]
  · rw [if_neg e]
section
variable {N : List (List Int)} {ord t : List Nat} {Bf : List (List Int)} {y : List Int} {fw : Nat → Nat}
theorem Cx.mt (c : Cx N ord t Bf y fw) {i j : Nat} {x : List Int} (h : Tree.Inv (Ed N) (fun u => ord.idxOf u) (· ∈ ord) fw (Dom N) i j (parOf x)) : Mt (fun u => ord.idxOf u) x y := by
  refine ⟨h.wf, c.gr.pl0, fun b hb => ?_, fun a b ha hb e => c.gr.inj a b ((h.asg a).mp ha).1 ((h.asg b).mp hb).1 e⟩
  have := ((h.asg b).mp hb).1
  exact ⟨by rw [c.yl]; exact c.od.rng b this, c.rank b this⟩
/-- The nearest so far. -/
def Acc (x : List Int) (row : List Int) (j : Nat) (v : Int) : Prop :=
  (v = -1 ∧ ∀ q, q < j → ∀ p : Nat, row.getD q 0 = (p : Int) → (parOf x p).isSome = false) ∨
  ∃ m : Nat, v = (m : Int) ∧ (parOf x m).isSome = true ∧ (∀ q, q < j → ∀ p : Nat, row.getD q 0 = (p : Int) → (parOf x p).isSome = true → Tree.Anc (parOf x) m p) ∧
    ∀ z, (∀ q, q < j → ∀ p : Nat, row.getD q 0 = (p : Int) → (parOf x p).isSome = true → Tree.Anc (parOf x) z p) → Tree.Anc (parOf x) z m
theorem near_l4 (c : Cx N ord t Bf y fw) (x : List Int) (hx : x.length = N.length) (fl : Bool) (i u : Nat) (hu : u < N.length) (mt : Mt (fun u => ord.idxOf u) x y)
    (hf : ∃ p, Ed N p u ∧ p < N.length ∧ (parOf x p).isSome = true) (Post : List Int → Prop)
    (H : ∀ m : Nat, (parOf x m).isSome = true → (∀ p, Ed N p u → (parOf x p).isSome = true → Tree.Anc (parOf x) m p) → (∀ z, (∀ p, Ed N p u → (parOf x p).isSome = true → Tree.Anc (parOf x) z p) → Tree.Anc (parOf x) z m) →
      ∃ r, Ev (fun k => if x.getD u 0 = (m : Int) then dom_Nearest.l3 k (ints ord) Bf x y fl (ints t) (t.length : Int) (wrap64 ((i : Int) + 1)) else dom_Nearest.l3 k (ints ord) Bf (x.set u (m : Int)) y true (ints t) (t.length : Int) (wrap64 ((i : Int) + 1))) r ∧ Post r) :
    ∀ (mm j : Nat) (v : Int), (Bf.getD u []).length - j = mm → j ≤ (Bf.getD u []).length → Acc x (Bf.getD u []) j v →
      ∃ r, Ev (fun k => dom_Nearest.l4 k (ints ord) Bf x y fl (u : Int) v (ints t) (t.length : Int) (i : Int) (Bf.getD u []) ((Bf.getD u []).length : Int) (j : Int)) r ∧ Post r := by
  have hcnt := c.bk.cnt u hu
  have hin : ∀ p : Nat, ∀ q, q < (Bf.getD u []).length → (Bf.getD u []).getD q 0 = (p : Int) → p < N.length ∧ Ed N p u := by
    intro p q hq e
    have := (c.bk.mem u hu (p : Int)).mp (by rw [← e]; exact getD_mem _ _ _ hq)
    obtain ⟨w, e, h1, h2⟩ := this
    obtain rfl : p = w := by omega
    exact ⟨h1, h2⟩
  have all : ∀ p, Ed N p u → (parOf x p).isSome = true → ∃ q, q < (Bf.getD u []).length ∧ (Bf.getD u []).getD q 0 = (p : Int) := by
    intro p he hp
    obtain ⟨q, hq⟩ := Option.isSome_iff_exists.mp hp
    have := (par_some hq).1
    exact mem_getD 0 ((c.bk.mem u hu (p : Int)).mpr ⟨p, rfl, by omega, he⟩)
  intro mm
  induction mm with
  | zero =>
    intro j v hm hj ha
    obtain rfl : j = (Bf.getD u []).length := by omega
    rcases ha with ⟨rfl, h⟩ | ⟨m, rfl, h1, h2, h3⟩
    · obtain ⟨p, he, hp, hs⟩ := hf
      obtain ⟨q, hq, e⟩ := all p he hs
      rw [h q hq p e] at hs
      cases hs
    · obtain ⟨r, g1, g2⟩ := H m h1 (fun p he hp => by
        obtain ⟨q, hq, e⟩ := all p he hp
        exact h2 q hq p e hp) (fun z hz => h3 z (fun q hq p e hp => hz p (hin p q hq e).2 hp))
      refine ⟨r, Ev.step (fun k => ?_) g1, g2⟩
      rw [dom_Nearest.l4, if_neg (by omega), if_pos (by omega), if_pos (by omega)]
      rfl
  | succ mm ih =>
    intro j v hm hj ha
    have hlt : j < (Bf.getD u []).length := by omega
    obtain ⟨p, ep, hp, he⟩ := (c.bk.mem u hu _).mp (getD_mem (Bf.getD u []) j 0 hlt)
    have er : rd (Bf.getD u []) ((j : Nat) : Int) = (p : Int) := ep
    have only : ∀ p' : Nat, (Bf.getD u []).getD j 0 = (p' : Int) → p' = p := fun p' e => by rw [ep] at e; omega
    by_cases hs : (parOf x p).isSome = true
    · obtain ⟨q0, hq0⟩ := Option.isSome_iff_exists.mp hs
      have ex : rd x (p : Int) = (q0 : Int) := (par_some hq0).2.1
      rcases ha with ⟨rfl, h⟩ | ⟨m, rfl, h1, h2, h3⟩
      · obtain ⟨r, g1, g2⟩ := ih (j + 1) (p : Int) (by omega) (by omega) (.inr ⟨p, rfl, hs, (fun q hq p' e hp' => by
          by_cases ej : q = j
          · subst ej; rw [only p' e]; exact .refl _
          · rw [h q (by omega) p' e] at hp'; cases hp'), fun z hz => hz j (by omega) p ep hs⟩)
        refine ⟨r, Ev.step (fun k => ?_) g1, g2⟩
        rw [dom_Nearest.l4, if_pos (by omega), if_pos (by omega), if_pos (by omega), er, if_pos (by omega), if_pos (by omega), ex, if_neg (by omega), if_pos (by omega), w64n (by omega)]
      · obtain ⟨m', e1, M1, M2, M3, M4⟩ := meet_ev _ x y mt p m hs h1
        obtain ⟨r, g1, g2⟩ := ih (j + 1) (m' : Int) (by omega) (by omega) (.inr ⟨m', rfl, M1, (fun q hq p' e hp' => by
          by_cases ej : q = j
          · subst ej; rw [only p' e]; exact M2
          · exact M3.trans (h2 q (by omega) p' e hp')), fun z hz => M4 z (hz j (by omega) p ep hs) (h3 z (fun q hq p' e hp' => hz q (by omega) p' e hp'))⟩)
        refine ⟨r, Ev.step (f := fun k => (dom_meet.f k x y (p : Int) (m : Int)).bind fun t175 => dom_Nearest.l4 k (ints ord) Bf x y fl (u : Int) t175 (ints t) (t.length : Int) (i : Int) (Bf.getD u []) ((Bf.getD u []).length : Int) ((j + 1 : Nat) : Int)) (fun k => ?_) (e1.bind g1), g2⟩
        rw [dom_Nearest.l4, if_pos (by omega), if_pos (by omega), if_pos (by omega), er, if_pos (by omega), if_pos (by omega), ex, if_neg (by omega), if_neg (by omega), w64n (by omega)]
    · have hs' : (parOf x p).isSome = false := by simpa using hs
      have ex : rd x (p : Int) < 0 := par_none (by omega) hs'
      obtain ⟨r, g1, g2⟩ := ih (j + 1) v (by omega) (by omega) (by
        rcases ha with ⟨rfl, h⟩ | ⟨m, rfl, h1, h2, h3⟩
        · refine .inl ⟨rfl, fun q hq p' e => ?_⟩
          by_cases ej : q = j
          · subst ej; rw [only p' e]; exact hs'
          · exact h q (by omega) p' e
        · refine .inr ⟨m, rfl, h1, fun q hq p' e hp' => ?_, fun z hz => h3 z (fun q hq p' e hp' => hz q (by omega) p' e hp')⟩
          by_cases ej : q = j
          · subst ej; rw [only p' e, hs'] at hp'; cases hp'
          · exact h2 q (by omega) p' e hp')
      refine ⟨r, Ev.step (fun k => ?_) g1, g2⟩
      rw [dom_Nearest.l4, if_pos (by omega), if_pos (by omega), if_pos (by omega), er, if_pos (by omega), if_pos (by omega), if_pos ex, w64n (by omega)]
/-- How far the parents are from the entry, all told. -/
def ph (ord : List Nat) : Option Nat → Nat
  | none => 1000
  | some q => ord.idxOf q
def far (ord : List Nat) (n : Nat) (x : List Int) : Nat := ((List.range n).map (fun b => ph ord (parOf x b))).sum
theorem sum_le : ∀ (l : List Nat) (f g : Nat → Nat), (∀ b ∈ l, f b ≤ g b) → (l.map f).sum ≤ (l.map g).sum
  | [], _, _, _ => by simp
  | a :: l, f, g, h => by
    have := sum_le l f g (fun b hb => h b (List.mem_cons_of_mem _ hb))
    have := h a (List.mem_cons_self ..)
    simp only [List.map_cons, List.sum_cons]; omega
theorem sum_lt : ∀ (l : List Nat) (f g : Nat → Nat) (u : Nat), (∀ b ∈ l, f b ≤ g b) → u ∈ l → f u < g u → (l.map f).sum < (l.map g).sum
  | [], _, _, _, _, h, _ => absurd h List.not_mem_nil
  | a :: l, f, g, u, h, hu, hlt => by
    have h1 := sum_le l f g (fun b hb => h b (List.mem_cons_of_mem _ hb))
    have h2 := h a (List.mem_cons_self ..)
    simp only [List.map_cons, List.sum_cons]
    rcases List.mem_cons.mp hu with e | e
    · subst e; omega
    · have := sum_lt l f g u (fun b hb => h b (List.mem_cons_of_mem _ hb)) e hlt
      omega
def Fix (N : List (List Int)) (ord : List Nat) (x : List Int) (i : Nat) : Prop :=
  ∀ b q, parOf x b = some q → b ≠ 0 → ord.idxOf b < i → ∀ p, Ed N p b → (parOf x p).isSome = true → Tree.Anc (parOf x) q p
def Xl (N : List (List Int)) (x : List Int) : Prop := x.length = N.length ∧ ∀ b, b < N.length → -1 ≤ x.getD b 0
theorem Xl.set {N : List (List Int)} {x : List Int} (h : Xl N x) (u m : Nat) (hu : u < N.length) : Xl N (x.set u (m : Int)) := by
  refine ⟨by rw [List.length_set]; exact h.1, fun b hb => ?_⟩
  rw [getD_set _ _ _ _ _ (by have := h.1; omega)]
  by_cases e : u = b
  · rw [if_pos e]; omega
  · rw [if_neg e]; exact h.2 b hb
/-- What stands at the end. -/
def Post (N : List (List Int)) (ord : List Nat) (fw : Nat → Nat) (r : List Int) : Prop :=
  ∃ x j, r = x.set 0 (-1) ∧ Xl N x ∧ ord.length ≤ j ∧ Tree.Inv (Ed N) (fun u => ord.idxOf u) (· ∈ ord) fw (Dom N) ord.length j (parOf x) ∧ Fix N ord x ord.length
theorem near_l3 (c : Cx N ord t Bf y fw) (f0 : Nat) (again : ∀ x j, Xl N x → 1 ≤ j → Tree.Inv (Ed N) (fun u => ord.idxOf u) (· ∈ ord) fw (Dom N) 1 j (parOf x) → far ord N.length x < f0 →
      ∃ r, Ev (fun k => dom_Nearest.l3 k (ints ord) Bf x y false (ints t) (t.length : Int) ((0 : Nat) : Int)) r ∧ Post N ord fw r) :
    ∀ (mm i j : Nat) (x : List Int) (fl : Bool), t.length - i = mm → i ≤ t.length → Xl N x → i + 1 ≤ j → Tree.Inv (Ed N) (fun u => ord.idxOf u) (· ∈ ord) fw (Dom N) (i + 1) j (parOf x) →
      far ord N.length x ≤ f0 → (fl = true → far ord N.length x < f0) → (fl = false → Fix N ord x (i + 1)) →
      ∃ r, Ev (fun k => dom_Nearest.l3 k (ints ord) Bf x y fl (ints t) (t.length : Int) (i : Int)) r ∧ Post N ord fw r := by
  have hol : ord.length = t.length + 1 := by rw [c.ht, List.length_cons]
  have hcl := c.len
  intro mm
  induction mm with
  | zero =>
    intro i j x fl hm hi hxl hij inv h1 h2 h3
    have hx := hxl.1
    obtain rfl : i = t.length := by omega
    have lt : ∀ b, b ∈ ord → ord.idxOf b < t.length + 1 := fun b hb => by have := List.idxOf_lt_length_of_mem hb; omega
    cases fl with
    | true =>
      obtain ⟨r, g1, g2⟩ := again x j hxl (by omega) (inv.again c.gr lt) (h2 rfl)
      refine ⟨r, Ev.step (f := fun k => dom_Nearest.l2 k (ints ord) Bf x y true) (fun k => ?_) (Ev.step (fun k => ?_) g1), g2⟩
      · rw [dom_Nearest.l3, if_neg (by omega)]
      · rw [dom_Nearest.l2, if_pos rfl, if_pos (by rw [ints_len]; omega), Option.bind_some, c.ht]
        have : List.drop 1 (ints (0 :: t)) = ints t := rfl
        rw [this, ints_len]
        rfl
    | false =>
      have hn := c.n0
      refine ⟨x.set 0 (-1), Ev.step (f := fun k => dom_Nearest.l2 k (ints ord) Bf x y false) (fun k => ?_) (Ev.step (f := fun _ => some (x.set 0 (-1))) (fun k => ?_) (Ev.now _)), x, j, rfl, hxl, by omega, by rw [hol]; exact inv, by rw [hol]; exact h3 rfl⟩
      · rw [dom_Nearest.l3, if_neg (by omega)]
      · rw [dom_Nearest.l2, if_neg (by decide), if_pos (by omega)]
        rfl
  | succ mm ih =>
    intro i j x fl hm hi hxl hij inv h1 h2 h3
    have hx := hxl.1
    have hlt : i < t.length := by omega
    have hmem : t[i] ∈ ord := by rw [c.ht]; exact List.mem_cons_of_mem _ (List.getElem_mem hlt)
    have hpl : ord.idxOf t[i] = i + 1 := by
      have e : ord[i + 1]'(by omega) = t[i] := by simp [c.ht]
      rw [← e]
      exact idx_at ord (i + 1) (by omega) c.od.nodup
    generalize hu : t[i] = u at hmem hpl
    have hun := c.od.rng u hmem
    have u0 : u ≠ 0 := by
      rintro rfl
      have := c.gr.pl0
      omega
    have erd : rd (ints t) (i : Int) = (u : Int) := by rw [ints_rd t i hlt, hu]
    obtain ⟨f1, f2, f3⟩ := c.gr.fwd u hmem u0
    have hfw : ∃ p, Ed N p u ∧ p < N.length ∧ (parOf x p).isSome = true := ⟨fw u, f2, c.od.rng _ f1, (inv.asg _).mpr ⟨f1, by omega⟩⟩
    have hbl : Bf.length = N.length := c.bk.len
    obtain ⟨r, g1, g2⟩ := near_l4 c x hx fl i u hun (c.mt inv) hfw (Post N ord fw) (fun m hm1 hm2 hm3 => by
      obtain ⟨inv', hup⟩ := inv.step c.gr (y := u) (m := m) hmem hpl (by omega) hij hm2 hm3
      by_cases e : x.getD u 0 = (m : Int)
      · rw [par_same x u m e (by omega)] at inv'
        obtain ⟨r, g1, g2⟩ := ih (i + 1) _ x fl (by omega) (by omega) hxl (by omega) inv' h1 h2 (fun z b q hq hb hp p he hps => by
          by_cases hbi : ord.idxOf b < i + 1
          · exact h3 z b q hq hb hbi p he hps
          · have hin := ((inv.asg b).mp (by rw [hq]; rfl)).1
            obtain rfl := c.gr.inj b u hin hmem (by omega)
            have : q = m := by
              have := (par_some hq).2.1
              omega
            rw [this]
            exact hm2 p he hps)
        exact ⟨r, Ev.congr (fun k => by rw [if_pos e, w64n (by omega)]) g1, g2⟩
      · rw [← par_set x u m (by omega)] at inv'
        have less : far ord N.length (x.set u (m : Int)) < far ord N.length x := by
          unfold far
          have pb : ∀ b, parOf (x.set u (m : Int)) b = if b = u then some m else parOf x b := fun b => by rw [par_set x u m (by omega)]; rfl
          have hmo : m ∈ ord := ((inv.asg m).mp hm1).1
          have hml := List.idxOf_lt_length_of_mem hmo
          have hlt' : ph ord (some m) < ph ord (parOf x u) := by
            cases hq : parOf x u with
            | none => simp only [ph]; omega
            | some q =>
              simp only [ph]
              have hA := hup q hq
              rcases hA.place inv.wf with z | z
              · exact absurd (by rw [z]; exact (par_some hq).2.1) e
              · exact z
          refine sum_lt _ _ _ u (fun b _ => ?_) (List.mem_range.mpr hun) ?_
          · rw [pb]
            by_cases eb : b = u
            · subst eb; rw [if_pos rfl]; omega
            · rw [if_neg eb]; exact Nat.le_refl _
          · rw [pb, if_pos rfl]; exact hlt'
        obtain ⟨r, g1, g2⟩ := ih (i + 1) _ (x.set u (m : Int)) true (by omega) (by omega) (hxl.set u m hun) (by omega) inv' (by omega) (fun _ => by omega) (fun z => by cases z)
        exact ⟨r, Ev.congr (fun k => by rw [if_neg e, w64n (by omega)]) g1, g2⟩)
      _ 0 (-1) rfl (by omega) (.inl ⟨rfl, fun q hq => absurd hq (by omega)⟩)
    refine ⟨r, Ev.step (fun k => ?_) g1, g2⟩
    rw [dom_Nearest.l3, if_pos (by omega), if_pos (by omega), if_pos (by rw [ints_len]; omega), erd, if_pos (by omega), if_pos (by omega)]
    rfl
theorem near_pass (c : Cx N ord t Bf y fw) : ∀ (f0 : Nat) (x : List Int) (j : Nat), Xl N x → 1 ≤ j → Tree.Inv (Ed N) (fun u => ord.idxOf u) (· ∈ ord) fw (Dom N) 1 j (parOf x) → far ord N.length x < f0 →
      ∃ r, Ev (fun k => dom_Nearest.l3 k (ints ord) Bf x y false (ints t) (t.length : Int) ((0 : Nat) : Int)) r ∧ Post N ord fw r := by
  intro f0
  induction f0 with
  | zero => intro x j _ _ _ h; omega
  | succ f0 ih =>
    intro x j hx hj inv h
    refine near_l3 c f0 ih _ 0 j x false rfl (by omega) hx hj inv (by omega) (fun z => by cases z) (fun _ b q hq hb hp p he hps => ?_)
    have hin := ((inv.asg b).mp (by rw [hq]; rfl)).1
    have := c.gr.pl0
    exact absurd (c.gr.inj b 0 hin c.gr.zero (by simp only at *; omega)) hb
end
theorem near_l1 (ord : List Nat) (Bf : List (List Int)) (x : List Int) (n : Nat) (nd : ord.Nodup) (rng : ∀ u ∈ ord, u < n) (hlen : ord.length ≤ 70) :
    ∀ (m i : Nat) (y : List Int), ord.length - i = m → i ≤ ord.length → y.length = n → (∀ u ∈ ord, ord.idxOf u < i → y.getD u 0 = ((ord.idxOf u : Nat) : Int)) →
      ∃ y' : List Int, y'.length = n ∧ (∀ u ∈ ord, y'.getD u 0 = ((ord.idxOf u : Nat) : Int)) ∧ ∀ r, Ev (fun k => if ((ints ord).length : Int) = 0 then some x else (if 0 < (x.length : Int) then dom_Nearest.l2 k (ints ord) Bf (x.set 0 0) y' true else none)) r →
        Ev (fun k => dom_Nearest.l1 k (ints ord) Bf x y (ints ord) ((ints ord).length : Int) (i : Int)) r := by
  intro m
  induction m with
  | zero =>
    intro i y hm hi hy hv
    refine ⟨y, hy, fun u hu => hv u hu (by have := List.idxOf_lt_length_of_mem hu; omega), fun r h => Ev.step (fun k => ?_) h⟩
    rw [dom_Nearest.l1, if_neg (by rw [ints_len]; omega)]
    rfl
  | succ m ih =>
    intro i y hm hi hy hv
    have hlt : i < ord.length := by omega
    have erd : rd (ints ord) (i : Int) = ((ord[i] : Nat) : Int) := ints_rd ord i hlt
    have hpl : ord.idxOf ord[i] = i := idx_at ord i hlt nd
    have hun := rng _ (List.getElem_mem hlt)
    obtain ⟨y', h1, h2, h3⟩ := ih (i + 1) (y.set ord[i] (i : Int)) (by omega) (by omega) (by simpa using hy) (fun u hu hp => by
      rw [getD_set _ _ _ _ _ (by omega)]
      by_cases e : ord[i] = u
      · rw [if_pos e, ← e, hpl]
      · rw [if_neg e]
        refine hv u hu ?_
        have : ord.idxOf u ≠ i := by
          rintro rfl
          exact e (List.getElem_idxOf hlt)
        omega)
    refine ⟨y', h1, h2, fun r h => Ev.step (fun k => ?_) (h3 r h)⟩
    rw [dom_Nearest.l1, if_pos (by rw [ints_len]; omega), if_pos (by omega), if_pos (by rw [ints_len]; omega), erd, if_pos (by omega), if_pos (by omega), w64n (by omega)]
    rfl
theorem near_l0 (ord : List Nat) (Bf : List (List Int)) (y : List Int) (r : List Int) (n : Nat) (hn : n ≤ 70)
    (H : Ev (fun k => dom_Nearest.l1 k (ints ord) Bf (List.replicate n (-1)) y (ints ord) ((ints ord).length : Int) ((0 : Nat) : Int)) r) :
    ∀ (m i : Nat) (x : List Int), n - i = m → i ≤ n → x.length = n → (∀ u, u < i → x.getD u 0 = -1) →
      Ev (fun k => dom_Nearest.l0 k (ints ord) Bf x y (n : Int) (i : Int)) r := by
  intro m
  induction m with
  | zero =>
    intro i x hm hi hx hv
    refine Ev.step (fun k => ?_) H
    rw [dom_Nearest.l0, if_neg (by omega)]
    have : x = List.replicate n (-1) := ext_getD 0 (by simpa using hx) (fun u hu => by rw [hv u (by omega), getD_rep _ _ _ _ (by omega)])
    rw [this]
    rfl
  | succ m ih =>
    intro i x hm hi hx hv
    refine Ev.step (fun k => ?_) (ih (i + 1) (x.set i (-1)) (by omega) (by omega) (by simpa using hx) (fun u hu => ?_))
    · rw [dom_Nearest.l0, if_pos (by omega), if_pos (by omega), if_pos (by omega), w64n (by omega)]
      rfl
    · rw [getD_set _ _ _ _ _ (by omega)]
      by_cases e : i = u
      · rw [if_pos e]
      · rw [if_neg e]; exact hv u (by omega)
/-- The nearest dominators, as a tree: ancestors are who dominates. -/
structure Near (N : List (List Int)) (r : List Int) (pl : Nat → Nat) (par : Nat → Option Nat) : Prop where
  len : r.length = N.length
  wf : Tree.Wf pl par
  asg : ∀ b, (par b).isSome = true ↔ Way N (fun _ => True) b
  anc : ∀ a b, Way N (fun _ => True) b → (Tree.Anc par a b ↔ Dom N a b)
  none : ∀ b, b < N.length → (b = 0 ∨ par b = .none) → r.getD b 0 = -1
  some : ∀ b q, par b = .some q → b ≠ 0 → r.getD b 0 = (q : Int)
theorem near_of (N : List (List Int)) (ord : List Nat) (fw : Nat → Nat) (od : Ord N ord) (r : List Int) (h : Post N ord fw r) :
    ∃ pl par, Near N r pl par := by
  obtain ⟨x, j, rfl, ⟨hx, hxv⟩, hj, inv, fix⟩ := h
  have lt : ∀ b, b ∈ ord → ord.idxOf b < ord.length := fun b hb => List.idxOf_lt_length_of_mem hb
  have asg : ∀ b, (parOf x b).isSome = true ↔ Way N (fun _ => True) b := by
    intro b
    rw [inv.asg, ← od.way]
    exact ⟨fun z => z.1, fun z => ⟨z, by have := lt b z; omega⟩⟩
  refine ⟨_, parOf x, ⟨by simpa using hx, inv.wf, asg, fun a b hb => ⟨fun hA => ⟨hb, ?_⟩, fun hD => inv.B b a ((asg b).mpr hb) hD⟩, fun b hb h => ?_, fun b q hq hb => ?_⟩⟩
  · right
    intro hW
    refine inv.last (fun b hb => by have := lt b hb; show ord.idxOf b < j; omega) (fun b q hq hb p he hp => fix b q hq hb (lt b ((inv.asg b).mp (by rw [hq]; rfl)).1) p he hp) a (fun b => Way N (· ≠ a) b) (fun b hb => (od.way b).mpr (hb.mono (fun _ _ => trivial))) (fun z => z.ok rfl) (fun P p0 ps b hb => ?_) b hW hA
    induction hb with
    | root h1 h2 => exact p0 (.root h1 h2)
    | step hu hv he hok ih => exact ps _ _ hu ih he (.step hu hv he hok)
  · rw [getD_set _ _ _ _ _ (by omega)]
    by_cases e : 0 = b
    · rw [if_pos e]
    · rw [if_neg e]
      rcases h with h | h
      · exact absurd h.symm e
      · unfold parOf at h
        by_cases g : 0 ≤ x.getD b (-1)
        · rw [if_pos g] at h; cases h
        · have := hxv b hb
          have e2 : x.getD b 0 = x.getD b (-1) := by rw [getD_at _ _ _ (by omega), getD_at _ _ _ (by omega)]
          omega
  · have := (par_some hq).1
    rw [getD_set _ _ _ _ _ (by omega), if_neg (fun z => hb z.symm)]
    exact (par_some hq).2.1
theorem nearest_ev (B : List S52) (s : Small B) (a b : Int) (l : List Int) :
    ∃ r, Ev (fun k => dom_Nearest.f k a b l B) r ∧ r.length = B.length ∧ (0 < B.length → ∃ pl par, Near (nx B) r pl par) := by
  have hn := s.n
  have o := nx_ok B s
  have hl := nx_len B
  obtain ⟨ord, seen, e1, od, _, _, ho⟩ := order_ev B s a b l
  have e2 := next_ev B s a b l
  obtain ⟨Y, e3, bk⟩ := ahead_ev (nx B) o
  have hY := bk.len
  have e1' : Ev (fun k => graph_Order.f k a b l B) (ints ord) := Ev.bind (f := fun _ (p : List Int × List Bool) => some p.1) e1 (Ev.now (ints ord))
  have key : ∀ r, Ev (fun k => dom_Nearest.l0 k (ints ord) Y (List.replicate B.length 0) (List.replicate B.length 0) (B.length : Int) ((0 : Nat) : Int)) r → Ev (fun k => dom_Nearest.f k a b l B) r := by
    intro r h
    refine e1'.bind (f := fun k t145 => (graph_Next.f k a b l B).bind fun t148 => ((dom_ahead.f k t148).bind fun t151 => (if 0 ≤ (t151.length : Int) then (if ((t151.length : Int) : Int).toNat ≤ 35184372088832 then ((some (List.replicate ((t151.length : Int) : Int).toNat 0 : List Int)).bind fun y154 => (dom_Nearest.l0 k t145 t151 y154 (List.replicate ((t151.length : Int) : Int).toNat 0) (y154.length : Int) 0)) else (none)) else (none)))) ?_
    refine e2.bind ?_
    refine e3.bind ?_
    refine Ev.congr (fun k => ?_) h
    rw [if_pos (by omega), if_pos (by omega), Option.bind_some, List.length_replicate]
    have : ((Y.length : Int)).toNat = B.length := by omega
    rw [this]
    rfl
  have fill : ∀ r, Ev (fun k => dom_Nearest.l1 k (ints ord) Y (List.replicate B.length (-1)) (List.replicate B.length 0) (ints ord) ((ints ord).length : Int) ((0 : Nat) : Int)) r → Ev (fun k => dom_Nearest.f k a b l B) r :=
    fun r h => key r (near_l0 ord Y _ r B.length hn h _ 0 _ rfl (by omega) (by simp) (fun u hu => absurd hu (by omega)))
  obtain ⟨y, hy, hr, rk⟩ := near_l1 ord Y (List.replicate B.length (-1)) B.length od.nodup (fun u hu => by have := od.rng u hu; omega) ho _ 0 (List.replicate B.length 0) rfl (by omega) (by simp) (fun u _ h => absurd h (by omega))
  rcases od.head with ⟨hz, hz2⟩ | ⟨t, ht⟩
  · refine ⟨[], fill _ (rk _ ?_), by simp; omega, fun h => by omega⟩
    refine Ev.congr (f := fun _ => some []) (fun k => ?_) (Ev.now _)
    subst hz
    have : B.length = 0 := by omega
    rw [if_pos (by rfl), this]
    rfl
  · have h0 : 0 < B.length := by
      have := od.rng 0 (by rw [ht]; simp)
      omega
    obtain ⟨fw, g⟩ := dom_gr (nx B) ord od (by omega)
    have hx1 : (List.replicate B.length (-1 : Int)).set 0 0 = (List.replicate B.length (-1 : Int)).set 0 ((0 : Nat) : Int) := rfl
    have xl : Xl (nx B) ((List.replicate B.length (-1 : Int)).set 0 ((0 : Nat) : Int)) := Xl.set ⟨by simp [hl], fun b hb => by rw [getD_rep _ _ _ _ (by omega)]; omega⟩ 0 0 (by omega)
    have hp0 : ∀ b, parOf (List.replicate B.length (-1 : Int)) b = none := by
      intro b
      unfold parOf
      rw [if_neg]
      by_cases h : b < B.length
      · rw [getD_rep _ _ _ _ h]; decide
      · rw [List.getD_eq_getElem?_getD, List.getElem?_eq_none (by simp; omega)]
        decide
    have hp : parOf ((List.replicate B.length (-1 : Int)).set 0 ((0 : Nat) : Int)) = Tree.upd (parOf (List.replicate B.length (-1 : Int))) 0 0 := par_set _ 0 0 (by simp; omega)
    have first : Tree.Inv (Ed (nx B)) (fun u => ord.idxOf u) (· ∈ ord) fw (Dom (nx B)) 1 1 (parOf ((List.replicate B.length (-1 : Int)).set 0 ((0 : Nat) : Int))) := by
      refine Tree.Inv.first g (by rw [hp, Tree.upd, if_pos rfl]) (fun b hb => by rw [hp, Tree.upd, if_neg hb, hp0])
    have c : Cx (nx B) ord t Y y fw := ⟨o, od, ht, by omega, ho, bk, by omega, hr, g⟩
    obtain ⟨r, h1, h2⟩ := near_pass c _ _ 1 xl (by omega) first (Nat.lt_succ_self _)
    obtain ⟨pl, par, nr⟩ := near_of _ _ _ od r h2
    refine ⟨r, fill r (rk r (Ev.congr (f := fun k => dom_Nearest.l2 k (ints ord) Y ((List.replicate B.length (-1 : Int)).set 0 ((0 : Nat) : Int)) y true) (fun k => ?_) (Ev.step (fun k => ?_) h1))), by rw [nr.len, hl], fun _ => ⟨pl, par, nr⟩⟩
    · have : (ints ord).length = t.length + 1 := by rw [ints_len, ht, List.length_cons]
      rw [if_neg (by omega), if_pos (by rw [List.length_replicate]; omega)]
      rfl
    · have hol : ord.length = t.length + 1 := by rw [ht, List.length_cons]
      rw [dom_Nearest.l2, if_pos rfl, if_pos (by rw [ints_len]; omega), Option.bind_some]
      have : List.drop 1 (ints ord) = ints t := by rw [ht]; rfl
      rw [this, ints_len]
      rfl
/-! ### Dominates -/
structure Tb (n : Nat) (P : Nat → Nat → Prop) (T : List (List Bool)) : Prop where
  len : T.length = n
  row : ∀ d, d < n → (T.getD d []).length = n
  val : ∀ d b, d < n → b < n → ((T.getD d []).getD b false = true ↔ P d b)
theorem Tb.congr {n : Nat} {P Q : Nat → Nat → Prop} {T : List (List Bool)} (h : Tb n P T) (e : ∀ d b, d < n → b < n → (P d b ↔ Q d b)) : Tb n Q T :=
  ⟨h.len, h.row, fun d b hd hb => (h.val d b hd hb).trans (e d b hd hb)⟩
theorem Tb.put {n : Nat} {P : Nat → Nat → Prop} {T : List (List Bool)} (h : Tb n P T) {d b : Nat} (hd : d < n) (hb : b < n) : Tb n (fun d' b' => P d' b' ∨ (d' = d ∧ b' = b)) (T.set d ((T.getD d []).set b true)) := by
  have hl := h.len
  refine ⟨by simpa using hl, fun d' hd' => ?_, fun d' b' hd' hb' => ?_⟩
  · rw [getD_set _ _ _ _ _ (by omega)]
    by_cases e : d = d'
    · rw [if_pos e, List.length_set]; exact h.row d hd
    · rw [if_neg e]; exact h.row d' hd'
  · rw [getD_set _ _ _ _ _ (by omega)]
    by_cases e : d = d'
    · subst e
      have hr := h.row d hd
      rw [if_pos rfl, getD_set _ _ _ _ _ (by omega)]
      by_cases e2 : b = b'
      · subst e2; simp
      · rw [if_neg e2, h.val d b' hd hb']
        exact ⟨.inl, fun z => z.elim id (fun z => absurd z.2.symm e2)⟩
    · rw [if_neg e, h.val d' b' hd' hb']
      exact ⟨.inl, fun z => z.elim id (fun z => absurd z.1.symm e)⟩
section
variable {N : List (List Int)} {R : List Int} {pl : Nat → Nat} {par : Nat → Option Nat}
theorem dom_l2 (nr : Near N R pl par) (hn : N.length ≤ 70) (sn : List Bool) (hsl : sn.length = N.length) (b : Nat) (hb : b < N.length) (hsb : sn.getD b false = true) (hw : Way N (fun _ => True) b) (Fin : List (List Bool) → Prop)
    (H : ∀ X, Tb N.length (fun d c => c < b + 1 ∧ Dom N d c) X → ∃ T, Ev (fun k => dom_Dominates.l1 k R sn X (N.length : Int) (wrap64 ((b : Int) + 1))) T ∧ Fin T) :
    ∀ (m a : Nat) (S : Nat → Prop) (X : List (List Bool)), pl a ≤ m → (par a).isSome = true → (∀ d, S d ∨ Tree.Anc par d a ↔ Tree.Anc par d b) → Tb N.length (fun d c => c < b ∧ Dom N d c ∨ c = b ∧ S d) X →
      ∃ T, Ev (fun k => dom_Dominates.l2 k R sn X (b : Int) (a : Int) (N.length : Int) (b : Int)) T ∧ Fin T := by
  have fin : ∀ (S : Nat → Prop) (X : List (List Bool)) (v : Int), v < 0 → (∀ d, S d ↔ Tree.Anc par d b) → Tb N.length (fun d c => c < b ∧ Dom N d c ∨ c = b ∧ S d) X →
      ∃ T, Ev (fun k => dom_Dominates.l2 k R sn X (b : Int) v (N.length : Int) (b : Int)) T ∧ Fin T := by
    intro S X v hv hS tb
    obtain ⟨T, h1, h2⟩ := H X (tb.congr (fun d c hd hc => by
      constructor
      · rintro (⟨h, g⟩ | ⟨rfl, h⟩)
        · exact ⟨by omega, g⟩
        · exact ⟨by omega, (nr.anc d c hw).mp ((hS d).mp h)⟩
      · rintro ⟨h, g⟩
        by_cases e : c = b
        · subst e; exact .inr ⟨rfl, (hS d).mpr ((nr.anc d c hw).mpr g)⟩
        · exact .inl ⟨by omega, g⟩))
    refine ⟨T, Ev.step (fun k => ?_) h1, h2⟩
    have : rdOf false sn (b : Int) = true := hsb
    rw [dom_Dominates.l2, if_pos (by omega), if_pos (by omega), if_pos this, if_neg (by omega)]
  have one : ∀ (a : Nat) (S : Nat → Prop) (X : List (List Bool)) (r : List (List Bool)), (par a).isSome = true → Tb N.length (fun d c => c < b ∧ Dom N d c ∨ c = b ∧ S d) X →
      Tb N.length (fun d c => c < b ∧ Dom N d c ∨ c = b ∧ (S d ∨ d = a)) (X.set a ((X.getD a []).set b true)) ∧
      (Ev (fun k => dom_Dominates.l2 k R sn (X.set a ((X.getD a []).set b true)) (b : Int) (R.getD a 0) (N.length : Int) (b : Int)) r → Ev (fun k => dom_Dominates.l2 k R sn X (b : Int) (a : Int) (N.length : Int) (b : Int)) r) := by
    intro a S X r ha tb
    have han : a < N.length := ((nr.asg a).mp ha).lt
    have hX := tb.len
    have hr := tb.row a han
    have hR := nr.len
    refine ⟨(tb.put han hb).congr (fun d c _ _ => ?_), fun h => Ev.step (fun k => ?_) h⟩
    · constructor
      · rintro ((h | ⟨h, g⟩) | ⟨h, g⟩)
        · exact .inl h
        · exact .inr ⟨h, .inl g⟩
        · exact .inr ⟨g, .inr h⟩
      · rintro (h | ⟨h, g | g⟩)
        · exact .inl (.inl h)
        · exact .inl (.inr ⟨h, g⟩)
        · exact .inr ⟨g, h⟩
    · have e1 : rdOf false sn (b : Int) = true := hsb
      have e2 : rd_L11 X (a : Int) = X.getD a [] := rfl
      have e3 : rd R (a : Int) = R.getD a 0 := rfl
      rw [dom_Dominates.l2, if_pos (by omega), if_pos (by omega), if_pos e1, if_pos (by omega), if_pos (by omega), if_pos (by omega), e2, if_pos (by omega), if_pos (by omega), e3]
      rfl
  intro m
  induction m with
  | zero =>
    intro a S X hm ha hS tb
    obtain ⟨q, hq⟩ := Option.isSome_iff_exists.mp ha
    have a0 : a = 0 := by
      by_cases e : a = 0
      · exact e
      · have := (nr.wf.tree a q hq e).1
        omega
    subst a0
    have hR0 : R.getD 0 0 = -1 := nr.none 0 (by omega) (.inl rfl)
    obtain ⟨T, h1, h2⟩ := fin _ _ (R.getD 0 0) (by omega) (fun d => by
      rw [← hS d]
      exact ⟨fun z => z.elim .inl (fun z => .inr (z ▸ .refl _)), fun z => z.elim .inl (fun z => .inr z.of_zero)⟩) (one 0 S X [] ha tb).1
    exact ⟨T, (one 0 S X T ha tb).2 h1, h2⟩
  | succ m ih =>
    intro a S X hm ha hS tb
    by_cases e : a = 0
    · subst e
      have hR0 : R.getD 0 0 = -1 := nr.none 0 (by omega) (.inl rfl)
      obtain ⟨T, h1, h2⟩ := fin _ _ (R.getD 0 0) (by omega) (fun d => by
        rw [← hS d]
        exact ⟨fun z => z.elim .inl (fun z => .inr (z ▸ .refl _)), fun z => z.elim .inl (fun z => .inr z.of_zero)⟩) (one 0 S X [] ha tb).1
      exact ⟨T, (one 0 S X T ha tb).2 h1, h2⟩
    · obtain ⟨q, hq⟩ := Option.isSome_iff_exists.mp ha
      have hw2 := nr.wf.tree a q hq e
      have hRa : R.getD a 0 = (q : Int) := nr.some a q hq e
      obtain ⟨T, h1, h2⟩ := ih q (fun d => S d ∨ d = a) _ (by omega) hw2.2 (fun d => by
        rw [← hS d, or_assoc]
        constructor
        · rintro (h | rfl | h)
          · exact .inl h
          · exact .inr (.refl _)
          · exact .inr (.step hq e h)
        · rintro (h | h)
          · exact .inl h
          · by_cases ed : d = a
            · exact .inr (.inl ed)
            · obtain ⟨q', hq', _, hA⟩ := h.above ed
              rw [hq] at hq'
              cases hq'
              exact .inr (.inr hA)) (one a S X [] ha tb).1
      exact ⟨T, (one a S X T ha tb).2 (by rw [hRa]; exact h1), h2⟩
theorem dom_l1 (nr : Near N R pl par) (hn : N.length ≤ 70) (sn : List Bool) (hsl : sn.length = N.length) (hs : ∀ u, u < N.length → (sn.getD u false = true ↔ Way N (fun _ => True) u)) :
    ∀ (m i : Nat) (X : List (List Bool)), N.length - i = m → i ≤ N.length → Tb N.length (fun d c => c < i ∧ Dom N d c) X →
      ∃ T, Ev (fun k => dom_Dominates.l1 k R sn X (N.length : Int) (i : Int)) T ∧ Tb N.length (Dom N) T := by
  intro m
  induction m with
  | zero =>
    intro i X hm hi tb
    refine ⟨X, Ev.step (f := fun _ => some X) (fun k => ?_) (Ev.now _), tb.congr (fun d c _ hc => ⟨fun z => z.2, fun z => ⟨by omega, z⟩⟩)⟩
    rw [dom_Dominates.l1, if_neg (by omega)]
  | succ m ih =>
    intro i X hm hi tb
    have hlt : i < N.length := by omega
    by_cases hw : Way N (fun _ => True) i
    · have ha := (nr.asg i).mpr hw
      obtain ⟨T, h1, h2⟩ := dom_l2 nr hn sn hsl i hlt ((hs i hlt).mpr hw) hw (Tb N.length (Dom N)) (fun X hX => by
        rw [w64n (by omega)]
        exact ih (i + 1) X (by omega) (by omega) hX) _ i (fun _ => False) X (Nat.le_refl _) ha (fun d => ⟨fun z => z.elim False.elim id, .inr⟩) (tb.congr (fun d c _ _ => ⟨.inl, fun z => z.elim id (fun z => z.2.elim)⟩))
      refine ⟨T, Ev.step (fun k => ?_) h1, h2⟩
      rw [dom_Dominates.l1, if_pos (by omega)]
    · obtain ⟨T, h1, h2⟩ := ih (i + 1) X (by omega) (by omega) (tb.congr (fun d c _ hc => ⟨fun z => ⟨by omega, z.2⟩, fun z => ⟨by
        have : c ≠ i := fun e => hw (e ▸ z.2.1)
        omega, z.2⟩⟩))
      refine ⟨T, Ev.step (f := fun k => dom_Dominates.l2 k R sn X (i : Int) (i : Int) (N.length : Int) (i : Int)) (fun k => ?_) (Ev.step (fun k => ?_) h1), h2⟩
      · rw [dom_Dominates.l1, if_pos (by omega)]
      · have : ¬ rdOf false sn (i : Int) = true := fun z => hw ((hs i hlt).mp z)
        rw [dom_Dominates.l2, if_pos (by omega), if_pos (by omega), if_neg this, w64n (by omega)]
theorem dom_l0 (n : Nat) (hn : n ≤ 70) (R : List Int) (hR : R.length = n) (sn : List Bool) : ∀ (m i : Nat) (X : List (List Bool)), n - i = m → i ≤ n → X.length = n → (∀ u, u < i → X.getD u [] = List.replicate n false) →
    ∃ Y, Tb n (fun _ _ => False) Y ∧ ∀ T, Ev (fun k => dom_Dominates.l1 k R sn Y (n : Int) ((0 : Nat) : Int)) T → Ev (fun k => dom_Dominates.l0 k R sn X (n : Int) (i : Int)) T := by
  intro m
  induction m with
  | zero =>
    intro i X hm hi hX hv
    refine ⟨X, ⟨hX, fun d hd => by rw [hv d (by omega)]; simp, fun d b hd hb => by rw [hv d (by omega), getD_rep _ _ _ _ hb]; simp⟩, fun T h => Ev.step (fun k => ?_) h⟩
    rw [dom_Dominates.l0, if_neg (by omega), hX]
    rfl
  | succ m ih =>
    intro i X hm hi hX hv
    obtain ⟨Y, h1, h2⟩ := ih (i + 1) (X.set i (List.replicate n false)) (by omega) (by omega) (by simpa using hX) (fun u hu => by
      rw [getD_set _ _ _ _ _ (by omega)]
      by_cases e : i = u
      · rw [if_pos e]
      · rw [if_neg e]; exact hv u (by omega))
    refine ⟨Y, h1, fun T h => Ev.step (fun k => ?_) (h2 T h)⟩
    rw [dom_Dominates.l0, if_pos (by omega), if_pos (by omega), if_pos (by omega), if_pos (by omega), if_pos (by omega), w64n (by omega)]
    have : ((R.length : Int)).toNat = n := by omega
    rw [this]
    rfl
end
theorem reached_ev (B : List S52) (s : Small B) (a b : Int) (l : List Int) :
    ∃ sn, Ev (fun k => graph_Reached.f k a b l B) sn ∧ sn.length = B.length ∧ ∀ u, u < B.length → (sn.getD u false = true ↔ Way (nx B) (fun _ => True) u) := by
  obtain ⟨ord, seen, e1, od, h1, h2, _⟩ := order_ev B s a b l
  exact ⟨seen, Ev.bind (f := fun _ (p : List Int × List Bool) => some p.2) e1 (Ev.now seen), h1, fun u hu => (h2 u hu).trans (od.way u)⟩
theorem no_way (B : List S52) (h : ¬ 0 < B.length) (d b : Nat) : ¬ Dom (nx B) d b := fun z => by
  have := z.1.lt
  rw [nx_len] at this
  omega
theorem dominates_ev (B : List S52) (s : Small B) (a b : Int) (l : List Int) : ∃ T, Ev (fun k => dom_Dominates.f k a b l B) T ∧ Tb B.length (Dom (nx B)) T := by
  have hn := s.n
  have hl := nx_len B
  obtain ⟨r, e1, hr, near⟩ := nearest_ev B s a b l
  obtain ⟨sn, e2, hs1, hs2⟩ := reached_ev B s a b l
  obtain ⟨Y, hY, g⟩ := dom_l0 B.length hn r hr sn _ 0 (List.replicate B.length []) rfl (by omega) (by simp) (fun u hu => absurd hu (by omega))
  have fin : ∀ T, Ev (fun k => dom_Dominates.l1 k r sn Y (B.length : Int) ((0 : Nat) : Int)) T → Ev (fun k => dom_Dominates.f k a b l B) T := by
    intro T h
    refine e1.bind (f := fun k t184 => ((graph_Reached.f k a b l B).bind fun t187 => (if 0 ≤ (t184.length : Int) then (if ((t184.length : Int) : Int).toNat ≤ 11728124029610 then ((some (List.replicate ((t184.length : Int) : Int).toNat [] : List (List Bool))).bind fun y190 => (dom_Dominates.l0 k t184 t187 y190 (y190.length : Int) 0)) else (none)) else (none)))) ?_
    refine e2.bind ?_
    refine Ev.congr (fun k => ?_) (g T h)
    rw [if_pos (by omega), if_pos (by omega), Option.bind_some, List.length_replicate]
    have : ((r.length : Int)).toNat = B.length := by omega
    rw [this]
    rfl
  by_cases h0 : 0 < B.length
  · obtain ⟨pl, par, nr⟩ := near h0
    obtain ⟨T, h1, h2⟩ := dom_l1 nr (by omega) sn (by omega) (fun u hu => hs2 u (by omega)) _ 0 Y rfl (by omega) (by rw [hl]; exact hY.congr (fun d c _ _ => ⟨False.elim, fun z => by omega⟩))
    rw [hl] at h1 h2
    exact ⟨T, fin T h1, h2⟩
  · refine ⟨Y, fin Y (Ev.step (f := fun _ => some Y) (fun k => by rw [dom_Dominates.l1, if_neg (by omega)]) (Ev.now _)), hY.congr (fun d c _ hc => by omega)⟩
theorem ints_ev (x y : List Int) (hx : x.length ≤ 1000) (e : x = y) : Ev (fun k => fettlelaw05_Ints.f k x y) true := by
  subst e
  have : ∀ (m i : Nat), x.length - i = m → i ≤ x.length → Ev (fun k => fettlelaw05_Ints.l0 k x x (i : Int)) true := by
    intro m
    induction m with
    | zero => intro i hm hi; exact Ev.step (f := fun _ => some true) (fun k => by rw [fettlelaw05_Ints.l0, if_neg (by omega)]) (Ev.now _)
    | succ m ih =>
      intro i hm hi
      refine Ev.step (fun k => ?_) (ih (i + 1) (by omega) (by omega))
      rw [fettlelaw05_Ints.l0, if_pos (by omega), if_pos (by omega), if_pos (by omega), if_pos rfl, w64n (by omega)]
  exact Ev.congr (fun k => by rw [fettlelaw05_Ints.f, if_pos rfl]; rfl) (this _ 0 rfl (by omega))
/-! ### Loops -/
theorem dom_pred (N : List (List Int)) (d b p : Nat) (hd : Dom N d b) (hne : d ≠ b) (he : Ed N p b) (hp : Way N (fun _ => True) p) : Dom N d p := by
  refine ⟨hp, ?_⟩
  by_cases e : d = p
  · exact .inl e
  · right
    intro h
    rcases hd.2 with z | z
    · exact hne z
    · exact z (.step h hd.1.lt he (fun y => hne y.symm))
theorem dom_way_ (N : List (List Int)) (d b : Nat) (h : Dom N d b) : Way N (fun _ => True) d := by
  by_cases hd : Way N (fun _ => True) d
  · exact hd
  · exfalso
    have key : ∀ u, Way N (fun _ => True) u → Way N (· ≠ d) u := by
      intro u hu
      induction hu with
      | root h0 _ => exact .root h0 (fun e => hd (by rw [← e]; exact .root h0 trivial))
      | step w hv he _ ih => exact .step ih hv he (fun e => hd (by rw [← e]; exact .step w hv he trivial))
    rcases h.2 with e | e
    · exact hd (e ▸ h.1)
    · exact e (key b h.1)
/-- What a loop is. -/
structure LoopOk (N : List (List Int)) (h : Nat) (g : S44) : Prop where
  head : g.f0 = (h : Int)
  lt : h < N.length
  own : (h : Int) ∈ g.f1
  dom : ∀ x ∈ g.f1, ∃ u : Nat, x = (u : Int) ∧ u < N.length ∧ Dom N h u
  clos : ∀ u v : Nat, v < N.length → (v : Int) ∈ g.f1 → v ≠ h → Way N (fun _ => True) u → Ed N u v → (u : Int) ∈ g.f1
  cnt : g.f1.length ≤ 70
structure Wl (N : List (List Int)) (h : Nat) (x : List Bool) (W : List Int) : Prop where
  len : x.length = N.length
  head : x.getD h false = true
  dom : ∀ u, u < N.length → x.getD u false = true → Dom N h u
  work : ∀ w ∈ W, ∃ u : Nat, w = (u : Int) ∧ u < N.length ∧ (Way N (fun _ => True) u → Dom N h u)
  clos : ∀ u v, v < N.length → x.getD v false = true → v ≠ h → Way N (fun _ => True) u → Ed N u v → x.getD u false = true ∨ (u : Int) ∈ W
theorem take_last (W : List Int) (h : 0 < W.length) : W.take (W.length - 1) ++ [W.getD (W.length - 1) 0] = W := by
  rw [getD_at _ _ _ (by omega), ← List.take_succ_eq_append_getElem (by omega)]
  rw [show W.length - 1 + 1 = W.length by omega, List.take_length]
theorem mem_last (W : List Int) (h : 0 < W.length) (a : Int) : a ∈ W → a ∈ W.take (W.length - 1) ∨ a = W.getD (W.length - 1) 0 := by
  intro ha
  rw [← take_last W h, List.mem_append, List.mem_singleton] at ha
  exact ha
def inn (x : List Bool) (i : Nat) : List Int := ints ((List.range i).filter (fun u => x.getD u false))
theorem inn_len (x : List Bool) (i : Nat) : (inn x i).length ≤ i := by
  rw [inn, ints_len]
  have := List.length_filter_le (fun u => x.getD u false) (List.range i)
  simpa using this
theorem inn_succ (x : List Bool) (i : Nat) : inn x (i + 1) = if x.getD i false = true then inn x i ++ [(i : Int)] else inn x i := by
  unfold inn
  rw [List.range_succ, List.filter_append]
  by_cases h : x.getD i false = true
  · rw [if_pos h, List.filter_cons_of_pos (p := fun u => x.getD u false) h, List.filter_nil, ints_app]; rfl
  · rw [if_neg h, List.filter_cons_of_neg (p := fun u => x.getD u false) h, List.filter_nil, List.append_nil]
theorem inn_mem (x : List Bool) (n : Nat) (a : Int) : a ∈ inn x n ↔ ∃ u : Nat, a = (u : Int) ∧ u < n ∧ x.getD u false = true := by
  unfold inn ints
  constructor
  · intro h
    obtain ⟨u, hu, e⟩ := List.mem_map.mp h
    have := List.mem_filter.mp hu
    exact ⟨u, e.symm, List.mem_range.mp this.1, this.2⟩
  · rintro ⟨u, e, h1, h2⟩
    exact List.mem_map.mpr ⟨u, List.mem_filter.mpr ⟨List.mem_range.mpr h1, h2⟩, e.symm⟩
section
variable (N : List (List Int)) (o : Ok N) (Y : List (List Int)) (bk : Back N Y) (T : List (List Bool)) (tb : Tb N.length (Dom N) T) (sn : List Bool) (hsn : sn.length = N.length)
  (hs : ∀ u, u < N.length → (sn.getD u false = true ↔ Way N (fun _ => True) u)) (h : Nat) (hh : h < N.length)
include o bk hsn hh in
theorem loop_l3 (x : List Bool) (hx : x.length = N.length) (q : Int) (B : List Int) : ∀ (m i : Nat) (E : List Int), (Y.getD h []).length - i = m → i ≤ (Y.getD h []).length → E.length ≤ i →
    ∃ E', Ev (fun k => loops_looker_loop.l3 k x (Y.getD h []) ((Y.getD h []).length : Int) (i : Int) N Y T sn q B E) (q, B, E', true) := by
  have hn := o.n
  have hc := bk.cnt h hh
  intro m
  induction m with
  | zero =>
    intro i E hm hi hE
    exact ⟨E, Ev.step (f := fun _ => some (q, B, E, true)) (fun k => by rw [loops_looker_loop.l3, if_neg (by omega)]) (Ev.now _)⟩
  | succ m ih =>
    intro i E hm hi hE
    have hlt : i < (Y.getD h []).length := by omega
    obtain ⟨u, eu, hu, _⟩ := (bk.mem h hh _).mp (getD_mem (Y.getD h []) i 0 hlt)
    have er : rd (Y.getD h []) (i : Int) = (u : Int) := eu
    have e1 : rdOf false x (u : Int) = x.getD u false := rfl
    have e2 : rdOf false sn (u : Int) = sn.getD u false := rfl
    by_cases g : x.getD u false = true
    · obtain ⟨E', h1⟩ := ih (i + 1) E (by omega) (by omega) (by omega)
      refine ⟨E', Ev.step (fun k => ?_) h1⟩
      rw [loops_looker_loop.l3, if_pos (by omega), if_pos (by omega), if_pos (by omega), er, if_pos (by omega), if_pos (by omega), e1, if_pos g, w64n (by omega)]
    · by_cases g2 : sn.getD u false = true
      · obtain ⟨E', h1⟩ := ih (i + 1) (E ++ [(u : Int)]) (by omega) (by omega) (by simp; omega)
        refine ⟨E', Ev.step (fun k => ?_) h1⟩
        rw [loops_looker_loop.l3, if_pos (by omega), if_pos (by omega), if_pos (by omega), er, if_pos (by omega), if_pos (by omega), e1, if_neg g, if_pos (by omega), e2, if_pos g2, if_pos (by omega), w64n (by omega)]
      · obtain ⟨E', h1⟩ := ih (i + 1) E (by omega) (by omega) (by omega)
        refine ⟨E', Ev.step (fun k => ?_) h1⟩
        rw [loops_looker_loop.l3, if_pos (by omega), if_pos (by omega), if_pos (by omega), er, if_pos (by omega), if_pos (by omega), e1, if_neg g, if_pos (by omega), e2, if_neg g2, w64n (by omega)]
include o bk hsn hh in
theorem loop_l2 (x : List Bool) (hx : x.length = N.length) : ∀ (m i : Nat), N.length - i = m → i ≤ N.length →
    ∃ E', Ev (fun k => loops_looker_loop.l2 k (h : Int) x x (N.length : Int) (i : Int) N Y T sn (h : Int) (inn x i)) ((h : Int), inn x N.length, E', true) := by
  have hn := o.n
  have hbl := bk.len
  intro m
  induction m with
  | zero =>
    intro i hm hi
    obtain rfl : i = N.length := by omega
    obtain ⟨E', h1⟩ := loop_l3 N o Y bk T sn hsn h hh x hx (h : Int) (inn x N.length) _ 0 [] rfl (by omega) (by simp)
    refine ⟨E', Ev.step (fun k => ?_) h1⟩
    rw [loops_looker_loop.l2, if_neg (by omega), if_pos (by omega), if_pos (by omega)]
    rfl
  | succ m ih =>
    intro i hm hi
    have hlt : i < N.length := by omega
    have hil := inn_len x i
    have hsc := inn_succ x i
    have e1 : rdOf false x (i : Int) = x.getD i false := rfl
    obtain ⟨E', h1⟩ := ih (i + 1) (by omega) (by omega)
    refine ⟨E', Ev.step (fun k => ?_) h1⟩
    by_cases g : x.getD i false = true
    · rw [if_pos g] at hsc
      rw [hsc, loops_looker_loop.l2, if_pos (by omega), if_pos (by omega), if_pos (by omega), e1, if_pos g, if_pos (by omega), w64n (by omega)]
    · rw [if_neg g] at hsc
      rw [hsc, loops_looker_loop.l2, if_pos (by omega), if_pos (by omega), if_pos (by omega), e1, if_neg g, w64n (by omega)]
include o bk hsn hh in
theorem loop_end (x : List Bool) (hw : Wl N h x []) :
    ∃ r : Int × List Int × List Int × Bool, Ev (fun k => loops_looker_loop.l1 k (h : Int) x [] N Y T sn) r ∧ (r.2.2.2 = true → LoopOk N h ⟨r.1, r.2.1, r.2.2.1⟩) := by
  have hn := o.n
  have hx := hw.len
  obtain ⟨E', h1⟩ := loop_l2 N o Y bk T sn hsn h hh x hx _ 0 rfl (by omega)
  refine ⟨_, Ev.step (fun k => ?_) h1, fun _ => ⟨rfl, hh, (inn_mem x N.length _).mpr ⟨h, rfl, hh, hw.head⟩, fun a ha => ?_, fun u v hv hm' hne hu he => ?_, ?_⟩⟩
  · rw [loops_looker_loop.l1, if_neg (by simp), hx]
    rfl
  · obtain ⟨u, e, h1, h2⟩ := (inn_mem x N.length a).mp ha
    exact ⟨u, e, h1, hw.dom u h1 h2⟩
  · obtain ⟨v', e, _, h2⟩ := (inn_mem x N.length _).mp hm'
    obtain rfl : v = v' := by omega
    rcases hw.clos u v hv h2 hne hu he with z | z
    · exact (inn_mem x N.length _).mpr ⟨u, rfl, hu.lt, z⟩
    · cases z
  · have := inn_len x N.length
    show (inn x N.length).length ≤ 70
    omega
include o bk hsn hs hh in
theorem loop_l1 : ∀ (m : Nat) (x : List Bool) (W : List Int), W.length + 5001 * unseen x ≤ m → W.length + 5001 * unseen x ≤ 400000 → Wl N h x W →
    ∃ r : Int × List Int × List Int × Bool, Ev (fun k => loops_looker_loop.l1 k (h : Int) x W N Y T sn) r ∧ (r.2.2.2 = true → LoopOk N h ⟨r.1, r.2.1, r.2.2.1⟩) := by
  have hn := o.n
  have hbl := bk.len
  intro m
  induction m with
  | zero =>
    intro x W hm hb hw
    have h0 : W = [] := List.length_eq_zero_iff.mp (by omega)
    subst h0
    exact loop_end N o Y bk T sn hsn h hh x hw
  | succ m ih =>
    intro x W hm hb hw
    by_cases h0 : W.length = 0
    · have h0 : W = [] := List.length_eq_zero_iff.mp h0
      subst h0
      exact loop_end N o Y bk T sn hsn h hh x hw
    · have hp : 0 < W.length := by omega
      have hx := hw.len
      have hml := mem_last W hp
      obtain ⟨u, eu, hu, hd⟩ := hw.work _ (getD_mem W (W.length - 1) 0 (by omega))
      have ew : wrap64 ((W.length : Int) - 1) = ((W.length - 1 : Nat) : Int) := by rw [wrap64]; omega
      have er : rd W ((W.length - 1 : Nat) : Int) = (u : Int) := eu
      have e1 : rdOf false x (u : Int) = x.getD u false := rfl
      have e2 : rdOf false sn (u : Int) = sn.getD u false := rfl
      have e3 : rd_L1 Y (u : Int) = Y.getD u [] := rfl
      have etl : (W.take (W.length - 1)).length = W.length - 1 := by rw [List.length_take]; omega
      generalize hW' : W.take (W.length - 1) = W' at hml etl
      rw [eu] at hml
      have wk' : ∀ w ∈ W', ∃ u : Nat, w = (u : Int) ∧ u < N.length ∧ (Way N (fun _ => True) u → Dom N h u) := fun w z => hw.work w (by rw [← hW'] at z; exact List.mem_of_mem_take z)
      by_cases g : x.getD u false = true
      · obtain ⟨r, h1, h2⟩ := ih x W' (by omega) (by omega) ⟨hx, hw.head, hw.dom, wk', fun a v hv hi hne ha he => by
          rcases hw.clos a v hv hi hne ha he with z | z
          · exact .inl z
          · rcases hml _ z with z | z
            · exact .inr z
            · obtain rfl : a = u := by omega
              exact .inl g⟩
        refine ⟨r, Ev.step (fun k => ?_) h1, h2⟩
        rw [loops_looker_loop.l1, if_pos (by omega), ew, if_pos (by omega), if_pos (by omega), if_pos (by omega), Option.bind_some, er, if_pos (by omega), if_pos (by omega), e1, if_pos g, Int.toNat_natCast, hW']
      · by_cases g2 : sn.getD u false = true
        · have hW := (hs u hu).mp g2
          have hdu := hd hW
          have hhu : h ≠ u := fun z => g (by rw [← z]; exact hw.head)
          have hun := unseen_set x u (by omega) (by simpa using g)
          have hcn := bk.cnt u hu
          have hst : ∀ a, (x.set u true).getD a false = if u = a then true else x.getD a false := fun a => getD_set _ _ _ _ _ (by omega)
          obtain ⟨r, h1, h2⟩ := ih (x.set u true) (W' ++ Y.getD u []) (by rw [List.length_append]; omega) (by rw [List.length_append]; omega) ⟨by simpa using hx, by rw [hst]; split <;> first | rfl | exact hw.head, fun a ha hi => by
              rw [hst] at hi
              by_cases e : u = a
              · rw [← e]; exact hdu
              · rw [if_neg e] at hi; exact hw.dom a ha hi, fun w z => by
              rcases List.mem_append.mp z with z | z
              · exact wk' w z
              · obtain ⟨a, ea, ha, he⟩ := (bk.mem u hu w).mp z
                exact ⟨a, ea, ha, fun hwa => dom_pred N h u a hdu hhu he hwa⟩, fun a v hv hi hne ha he => by
              by_cases e : u = v
              · rw [← e] at he
                exact .inr (List.mem_append_right _ ((bk.mem u hu _).mpr ⟨a, rfl, ha.lt, he⟩))
              · rw [hst, if_neg e] at hi
                rcases hw.clos a v hv hi hne ha he with z | z
                · left
                  rw [hst]
                  split
                  · rfl
                  · exact z
                · rcases hml _ z with z | z
                  · exact .inr (List.mem_append_left _ z)
                  · obtain rfl : a = u := by omega
                    exact .inl (by rw [hst, if_pos rfl])⟩
          refine ⟨r, Ev.step (fun k => ?_) h1, h2⟩
          rw [loops_looker_loop.l1, if_pos (by omega), ew, if_pos (by omega), if_pos (by omega), if_pos (by omega), Option.bind_some, er, if_pos (by omega), if_pos (by omega), e1, if_neg g, if_pos (by omega), e2, if_pos g2, if_pos (by omega), e3, Int.toNat_natCast, hW', if_pos (by omega)]
          rfl
        · obtain ⟨r, h1, h2⟩ := ih x W' (by omega) (by omega) ⟨hx, hw.head, hw.dom, wk', fun a v hv hi hne ha he => by
            rcases hw.clos a v hv hi hne ha he with z | z
            · exact .inl z
            · rcases hml _ z with z | z
              · exact .inr z
              · obtain rfl : a = u := by omega
                exact absurd ((hs a hu).mpr ha) g2⟩
          refine ⟨r, Ev.step (fun k => ?_) h1, h2⟩
          rw [loops_looker_loop.l1, if_pos (by omega), ew, if_pos (by omega), if_pos (by omega), if_pos (by omega), Option.bind_some, er, if_pos (by omega), if_pos (by omega), e1, if_neg g, if_pos (by omega), e2, if_neg g2, Int.toNat_natCast, hW']
include o bk tb hsn hs hh in
theorem loop_l0 (x : List Bool) (hx : x = (List.replicate N.length false).set h true) : ∀ (m i : Nat) (W : List Int), (Y.getD h []).length - i = m → i ≤ (Y.getD h []).length → W.length ≤ i →
    (∀ w ∈ W, ∃ u : Nat, w = (u : Int) ∧ u < N.length ∧ Dom N h u) →
    ∃ r : Int × List Int × List Int × Bool, Ev (fun k => loops_looker_loop.l0 k (h : Int) x W (Y.getD h []) ((Y.getD h []).length : Int) (i : Int) N Y T sn) r ∧ (r.2.2.2 = true → LoopOk N h ⟨r.1, r.2.1, r.2.2.1⟩) := by
  have hn := o.n
  have hc := bk.cnt h hh
  have h1 := tb.len
  have h2 := tb.row h hh
  have hst : ∀ a, a < N.length → x.getD a false = if h = a then true else false := fun a ha => by
    rw [hx, getD_set _ _ _ _ _ (by simpa using hh)]
    by_cases e : h = a
    · rw [if_pos e, if_pos e]
    · rw [if_neg e, if_neg e, getD_rep _ _ _ _ ha]
  intro m
  induction m with
  | zero =>
    intro i W hm hi hl hW
    by_cases h0 : W.length = 0
    · exact ⟨_, Ev.step (f := fun _ => some (0, ([] : List Int), ([] : List Int), false)) (fun k => by rw [loops_looker_loop.l0, if_neg (by omega), if_pos (by omega)]) (Ev.now _), fun z => by cases z⟩
    · obtain ⟨u0, e0, hu0, hd0⟩ := hW _ (getD_mem W 0 0 (by omega))
      have hwh := dom_way_ N h u0 hd0
      have hun : unseen x ≤ 70 := by
        have : unseen x ≤ x.length := List.countP_le_length
        rw [hx] at this ⊢
        simp at this ⊢
        omega
      have hwl : Wl N h x W := by
        refine ⟨by rw [hx]; simp, by rw [hst h hh, if_pos rfl], fun u hu hi => ?_, fun w hw => ?_, fun a v hv hi hne _ _ => ?_⟩
        · rw [hst u hu] at hi
          by_cases e : h = u
          · rw [← e]; exact ⟨hwh, .inl rfl⟩
          · rw [if_neg e] at hi; cases hi
        · obtain ⟨u, z⟩ := hW w hw
          exact ⟨u, z.1, z.2.1, fun _ => z.2.2⟩
        · rw [hst v hv, if_neg (fun z => hne z.symm)] at hi; cases hi
      obtain ⟨r, g1, g2⟩ := loop_l1 N o Y bk T sn hsn hs h hh _ x W (Nat.le_refl _) (by omega) hwl
      refine ⟨r, Ev.step (fun k => ?_) g1, g2⟩
      rw [loops_looker_loop.l0, if_neg (by omega), if_neg (by omega)]
  | succ m ih =>
    intro i W hm hi hl hW
    have hlt : i < (Y.getD h []).length := by omega
    obtain ⟨u, eu, hu, _⟩ := (bk.mem h hh _).mp (getD_mem (Y.getD h []) i 0 hlt)
    have er : rd (Y.getD h []) (i : Int) = (u : Int) := eu
    have e1 : rd_L11 T (h : Int) = T.getD h [] := rfl
    have e2 : rdOf false (T.getD h []) (u : Int) = (T.getD h []).getD u false := rfl
    by_cases g : (T.getD h []).getD u false = true
    · obtain ⟨r, g1, g2⟩ := ih (i + 1) (W ++ [(u : Int)]) (by omega) (by omega) (by simp; omega) (fun w hw => by
        rcases List.mem_append.mp hw with z | z
        · exact hW w z
        · rw [List.mem_singleton] at z
          exact ⟨u, z, hu, (tb.val h u hh hu).mp g⟩)
      refine ⟨r, Ev.step (fun k => ?_) g1, g2⟩
      rw [loops_looker_loop.l0, if_pos (by omega), if_pos (by omega), if_pos (by omega), if_pos (by omega), if_pos (by omega), er, if_pos (by omega), e1, if_pos (by omega), e2, if_pos g, if_pos (by omega), w64n (by omega)]
    · obtain ⟨r, g1, g2⟩ := ih (i + 1) W (by omega) (by omega) (by omega) hW
      refine ⟨r, Ev.step (fun k => ?_) g1, g2⟩
      rw [loops_looker_loop.l0, if_pos (by omega), if_pos (by omega), if_pos (by omega), if_pos (by omega), if_pos (by omega), er, if_pos (by omega), e1, if_pos (by omega), e2, if_neg g, w64n (by omega)]
include o bk tb hsn hs hh in
theorem loop_ev : ∃ r : Int × List Int × List Int × Bool, Ev (fun k => loops_looker_loop.f k N Y T sn (h : Int)) r ∧ (r.2.2.2 = true → LoopOk N h ⟨r.1, r.2.1, r.2.2.1⟩) := by
  have hn := o.n
  have hbl := bk.len
  obtain ⟨r, g1, g2⟩ := loop_l0 N o Y bk T tb sn hsn hs h hh _ rfl _ 0 [] rfl (by omega) (by simp) (fun w hw => absurd hw List.not_mem_nil)
  refine ⟨r, Ev.congr (fun k => ?_) g1, g2⟩
  have e1 : rd_L1 Y (h : Int) = Y.getD h [] := rfl
  rw [loops_looker_loop.f, if_pos (by omega), if_pos (by omega), Option.bind_some, if_pos (by omega), List.length_replicate, if_pos (by omega), if_pos (by omega), e1, Int.toNat_natCast, Int.toNat_natCast]
  rfl
end
/-- All loops: of heads that go up. -/
structure All (N : List (List Int)) (i : Nat) (G : List S44) : Prop where
  ok : ∀ q, q < G.length → ∃ h, LoopOk N h (G.getD q z44) ∧ h < i
  up : ∀ p q, p < q → q < G.length → (G.getD p z44).f0 < (G.getD q z44).f0
  cnt : G.length ≤ i
theorem All.add {N : List (List Int)} {i : Nat} {G : List S44} (a : All N i G) {g : S44} (h : LoopOk N i g) : All N (i + 1) (G ++ [g]) := by
  have hat : ∀ q, q < G.length + 1 → (G ++ [g]).getD q z44 = if q = G.length then g else G.getD q z44 := by
    intro q hq
    rw [List.getD_eq_getElem?_getD, List.getElem?_append]
    by_cases e : q = G.length
    · subst e; simp
    · rw [if_neg e, if_pos (by omega), ← List.getD_eq_getElem?_getD]
  refine ⟨fun q hq => ?_, fun p q hpq hq => ?_, by have := a.cnt; simp; omega⟩
  · rw [List.length_append, List.length_singleton] at hq
    rw [hat q hq]
    by_cases e : q = G.length
    · rw [if_pos e]; exact ⟨i, h, by omega⟩
    · rw [if_neg e]
      obtain ⟨h', z1, z2⟩ := a.ok q (by omega)
      exact ⟨h', z1, by omega⟩
  · rw [List.length_append, List.length_singleton] at hq
    rw [hat q hq, hat p (by omega), if_neg (show ¬ p = G.length by omega)]
    by_cases e : q = G.length
    · rw [if_pos e, h.head]
      obtain ⟨h', z1, z2⟩ := a.ok p (by omega)
      rw [z1.head]; omega
    · rw [if_neg e]; exact a.up p q hpq (by omega)
theorem All.more {N : List (List Int)} {i : Nat} {G : List S44} (a : All N i G) : All N (i + 1) G :=
  ⟨fun q hq => by obtain ⟨h', z1, z2⟩ := a.ok q hq; exact ⟨h', z1, by omega⟩, a.up, by have := a.cnt; omega⟩
theorem loops_ev (B : List S52) (s : Small B) (a b : Int) (l : List Int) : ∃ G, Ev (fun k => loops_Loops.f k a b l B) G ∧ All (nx B) B.length G := by
  have hn := s.n
  have hl := nx_len B
  have o := nx_ok B s
  obtain ⟨Y, e2, bk⟩ := ahead_ev (nx B) o
  obtain ⟨T, e3, tb⟩ := dominates_ev B s a b l
  obtain ⟨sn, e4, hs1, hs2⟩ := reached_ev B s a b l
  have e1 := next_ev B s a b l
  have lk : Ev (fun k => loops_look.f k a b l B) (nx B, Y, T, sn) :=
    e1.bind (f := fun k n => (dom_Dominates.f k a b l B).bind fun o => (graph_Reached.f k a b l B).bind fun s => (dom_ahead.f k n).bind fun y => some (n, y, o, s)) (e3.bind (f := fun k o => (graph_Reached.f k a b l B).bind fun s => (dom_ahead.f k (nx B)).bind fun y => some (nx B, y, o, s)) (e4.bind (f := fun k s => (dom_ahead.f k (nx B)).bind fun y => some (nx B, y, T, s)) (e2.bind (f := fun _ y => some (nx B, y, T, sn)) (Ev.now _))))
  have go : ∀ (m i : Nat) (G : List S44), B.length - i = m → i ≤ B.length → All (nx B) i G → ∃ G', Ev (fun k => loops_Loops.l0 k G (B.length : Int) (i : Int) (nx B) Y T sn) G' ∧ All (nx B) B.length G' := by
    intro m
    induction m with
    | zero =>
      intro i G hm hi hG
      obtain rfl : i = B.length := by omega
      exact ⟨G, Ev.step (f := fun _ => some G) (fun k => by rw [loops_Loops.l0, if_neg (by omega)]) (Ev.now _), hG⟩
    | succ m ih =>
      intro i G hm hi hG
      have hlt : i < B.length := by omega
      have hGc := hG.cnt
      obtain ⟨r, g1, g2⟩ := loop_ev (nx B) o Y bk T (by rw [hl]; exact tb) sn (by omega) (fun u hu => hs2 u (by omega)) i (by omega)
      by_cases g : r.2.2.2 = true
      · obtain ⟨G', z1, z2⟩ := ih (i + 1) _ (by omega) (by omega) (hG.add (g2 g))
        refine ⟨G', Ev.step (f := fun k => (loops_looker_loop.f k (nx B) Y T sn (i : Int)).bind fun bt264 => (if bt264.2.2.2 = true then (if G.length < 2513169434916 then (loops_Loops.l0 k (G ++ [(⟨bt264.1, bt264.2.1, bt264.2.2.1⟩ : S44)]) (B.length : Int) ((i + 1 : Nat) : Int) (nx B) Y T sn) else (none)) else (loops_Loops.l0 k G (B.length : Int) ((i + 1 : Nat) : Int) (nx B) Y T sn))) (fun k => ?_) (g1.bind (Ev.congr (fun k => by rw [if_pos g, if_pos (by omega)]) z1)), z2⟩
        rw [loops_Loops.l0, if_pos (by omega), w64n (by omega)]
      · obtain ⟨G', z1, z2⟩ := ih (i + 1) G (by omega) (by omega) hG.more
        refine ⟨G', Ev.step (f := fun k => (loops_looker_loop.f k (nx B) Y T sn (i : Int)).bind fun bt264 => (if bt264.2.2.2 = true then (if G.length < 2513169434916 then (loops_Loops.l0 k (G ++ [(⟨bt264.1, bt264.2.1, bt264.2.2.1⟩ : S44)]) (B.length : Int) ((i + 1 : Nat) : Int) (nx B) Y T sn) else (none)) else (loops_Loops.l0 k G (B.length : Int) ((i + 1 : Nat) : Int) (nx B) Y T sn))) (fun k => ?_) (g1.bind (Ev.congr (fun k => by rw [if_neg g]) z1)), z2⟩
        rw [loops_Loops.l0, if_pos (by omega), w64n (by omega)]
  obtain ⟨G, z1, z2⟩ := go _ 0 [] rfl (by omega) ⟨fun q hq => absurd hq (by simp), fun p q _ hq => absurd hq (by simp), by simp⟩
  refine ⟨G, ?_, z2⟩
  exact Ev.bind (f := fun k (bt251 : List (List Int) × List (List Int) × List (List Bool) × List Bool) => loops_Loops.l0 k ([] : List (S44)) (B.length : Int) 0 bt251.1 bt251.2.1 bt251.2.2.1 bt251.2.2.2) lk z1
theorem up7_ev : Ev (fun k => fettlelaw07_up.f k) true := Ev.of (fun k => fettlelaw07_up.mono k) (k := 200) (by decide +kernel)
end Go.Proofs.Ytpionncanaamgaa.Pure
