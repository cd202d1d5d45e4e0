/- What came in as data reads as the print's kinds say: numbers, slices, structs of these. Conditions: none; used by the rows of laws whose parameters are structs. -/
import Derived.Deep.Slices
import Derived.DataElems
import Derived.WideShapes
import Derived.Test.YtckebppacealeaaDoorV0
namespace Go.Proofs.YtckebppacealeaaDoor.Opens
open Go.Proofs.YtckebppacealeaaDoorW.PrintWords
section
theorem list_of {β : Type} {q : Nat → β → Prop} : ∀ (n : Nat), (∀ i, i < n → ∃ x, q i x) → ∃ l : List β, l.length = n ∧ ∀ i p, l[i]? = some p → q i p
  | 0, _ => ⟨[], rfl, fun i p h => by simp at h⟩
  | n + 1, h => by
    obtain ⟨l, hl, hq⟩ := list_of n (fun i hi => h i (by omega))
    obtain ⟨x, hx⟩ := h n (by omega)
    refine ⟨l ++ [x], by simp [hl], fun i p hp => ?_⟩
    rcases Nat.lt_or_ge i l.length with hi | hi
    · rw [List.getElem?_append_left hi] at hp
      exact hq i p hp
    · rw [List.getElem?_append_right hi] at hp
      have h0 := (List.getElem?_eq_some_iff.1 hp).1
      simp only [List.length_singleton] at h0
      have e : i = n := by omega
      subst e
      rw [hl, Nat.sub_self] at hp
      have : x = p := by simpa using hp
      exact this ▸ hx
theorem mapM_mem {α β : Type} {F : α → Option β} : ∀ {l : List α} {ys : List β}, l.mapM F = some ys → ∀ a ∈ l, ∃ y, F a = some y
  | [], _, _, a, ha => by cases ha
  | b :: l, ys, h, a, ha => by
    rw [List.mapM_cons] at h
    cases hb : F b with
    | none => rw [hb] at h; cases h
    | some y =>
      rw [hb] at h
      cases hl : l.mapM F with
      | none => simp [hl] at h
      | some zs =>
        rcases List.mem_cons.1 ha with rfl | ha
        · exact ⟨y, hb⟩
        · exact mapM_mem hl a ha
/-- A value of type t, read as data, is one of this kind. -/
def Opens {α : Type} (P : Program) (t : TypeId) (d : Kd α) : Prop :=
  ∀ (H : Type) (enc : TypeId × Value → H) (W : World) (spare : Nat → Bool) (held : Bool) (fuel : Nat) (cs : List Value) (x : DataW H × List MemPlace),
    DataW.trod enc P W 0 spare held fuel t cs = some x → ∃ a : α, d.K W a cs
theorem opens_int {P : Program} {t : TypeId} {k : IntKind} (ht : P.underlying t = some (.int k)) : Opens P t (Kd.int k) := by
  intro H enc W spare held fuel cs x h
  cases fuel with
  | zero => simp [DataW.trod] at h
  | succ fuel =>
    unfold DataW.trod at h
    simp only [ht] at h
    split at h <;> simp_all
    exact ⟨_, rfl⟩
theorem opens_slice {α : Type} {P : Program} {t e : TypeId} {d : Kd α} (ht : P.underlying t = some (.slice e)) (hs : P.cellsOf e = d.sz) (he : Opens P e d) : Opens P t (Kd.slice e d) := by
  intro H enc W spare held fuel cs x h
  rcases Go.Deep.open_slice ht h with ⟨rfl, _⟩ | ⟨a, len, cap, m, n, D, Pl, rfl, hb, hl, hm, hmm, rfl, hx⟩
  · exact ⟨[], none, 0, rfl, Nat.le_refl _, Kd.C_nil d W⟩
  · have hlm : len ≤ m := by rw [hmm]; split <;> omega
    have each : ∀ i, i < len → ∃ (p : α × List Value), W.cells? 0 (a.add (i * P.cellsOf e)) (P.cellsOf e) = some p.2 ∧ d.K W p.1 p.2 := by
      intro i hi
      obtain ⟨cs', h1, h2⟩ := hx i (by omega)
      obtain ⟨b, hb⟩ := he H enc W spare held n cs' _ h2
      exact ⟨(b, cs'), h1, hb⟩
    obtain ⟨l, hl1, hf⟩ := list_of len each
    refine ⟨l.map (·.1), some a, cap, by simp [hl1], by simpa [hl1] using hl, by simp, by simp only [maxLen] at hm; simp [hl1]; omega, fun _ => ⟨a, rfl, fun j p hj => ?_⟩⟩
    rw [List.getElem?_map] at hj
    obtain ⟨y, hy, rfl⟩ := Option.map_eq_some_iff.1 hj
    obtain ⟨h1, h2⟩ := hf j y hy
    obtain ⟨_, hlen, hcell⟩ := World.cells?_some h1
    refine ⟨y.2, by rw [hlen, hs], h2, fun i u hu => ?_⟩
    have hi : i < P.cellsOf e := by
      have := (List.getElem?_eq_some_iff.1 hu).1
      omega
    rw [← hs, ← Addr.add_add, hcell i hi]
    exact hu
/-- The fields from place o on. -/
def OpensAt {α : Type} (P : Program) (fs : List Field) (o : Nat) (d : Kd α) : Prop :=
  ∀ (H : Type) (enc : TypeId × Value → H) (W : World) (spare : Nat → Bool) (held : Bool) (fuel : Nat) (cs : List Value),
    (∀ f ∈ fs, ∃ x, DataW.trod enc P W 0 spare held fuel f.type ((cs.drop f.offset).take (P.cellsOf f.type)) = some x) → cs.length = o + d.sz → ∃ a : α, d.K W a (cs.drop o)
theorem opens_last {α : Type} {P : Program} {f : Field} {o : Nat} {d : Kd α} (ho : f.offset = o) (hs : P.cellsOf f.type = d.sz) (h : Opens P f.type d) : OpensAt P [f] o d := by
  intro H enc W spare held fuel cs hf hl
  obtain ⟨x, hx⟩ := hf f (by simp)
  rw [ho, hs, List.take_of_length_le (by rw [List.length_drop]; omega)] at hx
  exact h H enc W spare held fuel _ x hx
theorem opens_pair {α β : Type} {P : Program} {f : Field} {fs : List Field} {o : Nat} {d : Kd α} {q : Kd β} (ho : f.offset = o) (hs : P.cellsOf f.type = d.sz) (h : Opens P f.type d) (hr : OpensAt P fs (o + d.sz) q) : OpensAt P (f :: fs) o (Kd.pair d q) := by
  intro H enc W spare held fuel cs hf hl
  obtain ⟨x, hx⟩ := hf f (by simp)
  rw [ho, hs] at hx
  obtain ⟨a, ha⟩ := h H enc W spare held fuel _ x hx
  obtain ⟨b, hb⟩ := hr H enc W spare held fuel cs (fun g hg => hf g (by simp [hg])) (by rw [hl]; exact (Nat.add_assoc _ _ _).symm)
  exact ⟨(a, b), _, _, by rw [← List.drop_drop, List.take_append_drop], ha, hb⟩
theorem opens_struct {α β : Type} {P : Program} {t : TypeId} {fs : Array Field} {d : Kd α} {f : β → α} {g : α → β} (ht : P.underlying t = some (.struct fs)) (hs : P.cellsOf t = d.sz) (hfg : ∀ a, f (g a) = a) (h : OpensAt P fs.toList 0 d) : Opens P t (Kd.iso d f) := by
  intro H enc W spare held fuel cs x hx
  cases fuel with
  | zero => simp [DataW.trod] at hx
  | succ fuel =>
    rw [DataW.trod_step] at hx
    unfold DataW.trodStep at hx
    simp only [ht] at hx
    by_cases hc : cs.length = P.cellsOf t
    · rw [if_pos hc] at hx
      obtain ⟨ys, hy, _⟩ := Option.map_eq_some_iff.1 hx
      obtain ⟨a, ha⟩ := h H enc W spare held fuel cs (fun q hq => mapM_mem hy q hq) (by omega)
      exact ⟨g a, by show d.K W (f (g a)) cs; rw [hfg]; exact ha⟩
    · rw [if_neg hc] at hx
      cases hx
end
end Go.Proofs.YtckebppacealeaaDoor.Opens
