/- Nearest dominators by meets in a tree (Cooper, Harvey, Kennedy), as plain mathematics: a step keeps the invariants, a change goes to an ancestor, and at the end ancestors are what dominates. No program, no conditions beyond the ones told. -/
namespace Go.Proofs.Ytpionncanaamgaa.Tree

/-- An ancestor, or itself. -/
inductive Anc (par : Nat → Option Nat) : Nat → Nat → Prop where
  | refl (b : Nat) : Anc par b b
  | step {a b q : Nat} : par b = some q → b ≠ 0 → Anc par a q → Anc par a b

structure Wf (pl : Nat → Nat) (par : Nat → Option Nat) : Prop where
  root : par 0 = some 0
  tree : ∀ b q, par b = some q → b ≠ 0 → pl q < pl b ∧ (par q).isSome = true

section
variable {pl : Nat → Nat} {par : Nat → Option Nat} {a b c : Nat}
theorem Anc.trans (h : Anc par a b) (g : Anc par b c) : Anc par a c := by
  induction g with
  | refl => exact h
  | step e n _ ih => exact .step e n ih
theorem Anc.place (w : Wf pl par) (h : Anc par a b) : a = b ∨ pl a < pl b := by
  induction h with
  | refl => exact .inl rfl
  | step e n _ ih =>
    have := (w.tree _ _ e n).1
    rcases ih with rfl | h
    · exact .inr this
    · exact .inr (by omega)
theorem Anc.le (w : Wf pl par) (h : Anc par a b) : pl a ≤ pl b := by
  rcases h.place w with rfl | h <;> omega
theorem Anc.chain (h : Anc par a c) (g : Anc par b c) : Anc par a b ∨ Anc par b a := by
  induction h with
  | refl => exact .inr g
  | @step d q e n h ih =>
    cases g with
    | refl => exact .inl (.step e n h)
    | step e2 n2 g2 =>
      rw [e] at e2
      cases e2
      exact ih g2
theorem Anc.antisymm (w : Wf pl par) (h : Anc par a b) (g : Anc par b a) : a = b := by
  rcases h.place w with h | h
  · exact h
  · have := g.le w
    omega
theorem Anc.above (h : Anc par a b) (hne : a ≠ b) : ∃ q, par b = some q ∧ b ≠ 0 ∧ Anc par a q := by
  cases h with
  | refl => exact absurd rfl hne
  | step e n h => exact ⟨_, e, n, h⟩
theorem Anc.of_zero (h : Anc par a 0) : a = 0 := by
  cases h with
  | refl => rfl
  | step _ n _ => exact absurd rfl n
theorem anc_root (w : Wf pl par) : ∀ (k b : Nat), pl b < k → (par b).isSome = true → Anc par 0 b
  | 0, _, h, _ => absurd h (by omega)
  | k + 1, b, h, hb => by
    by_cases h0 : b = 0
    · subst h0; exact .refl _
    · obtain ⟨q, hq⟩ := Option.isSome_iff_exists.mp hb
      have := w.tree b q hq h0
      exact .step hq h0 (anc_root w k q (by omega) this.2)
theorem Anc.assigned (w : Wf pl par) (h : Anc par a b) (hb : (par b).isSome = true) : (par a).isSome = true := by
  induction h with
  | refl => exact hb
  | step e n _ ih => exact ih (w.tree _ _ e n).2
end

/-- One parent is told anew. -/
def upd (par : Nat → Option Nat) (y m : Nat) : Nat → Option Nat := fun b => if b = y then some m else par b

section
variable {pl : Nat → Nat} {par : Nat → Option Nat} {y m a b : Nat}
theorem upd_off (h : ¬ Anc par y b) : Anc (upd par y m) a b ↔ Anc par a b := by
  constructor
  · intro g
    induction g with
    | refl => exact .refl _
    | @step b q e n g ih =>
      have hb : b ≠ y := fun e => h (e ▸ .refl _)
      rw [upd, if_neg hb] at e
      exact .step e n (ih (fun z => h (.step e n z)))
  · intro g
    induction g with
    | refl => exact .refl _
    | @step b q e n g ih =>
      have hb : b ≠ y := fun e => h (e ▸ .refl _)
      exact .step (by rw [upd, if_neg hb]; exact e) n (ih (fun z => h (.step e n z)))
theorem upd_on (w : Wf pl par) (hy : y ≠ 0) (hm : ¬ Anc par y m) (h : Anc par y b) : Anc (upd par y m) a b ↔ (Anc par y a ∧ Anc par a b) ∨ Anc par a m := by
  induction h with
  | refl =>
    constructor
    · intro g
      cases g with
      | refl => exact .inl ⟨.refl _, .refl _⟩
      | step e n g =>
        rw [upd, if_pos rfl] at e
        cases e
        exact .inr ((upd_off hm).mp g)
    · rintro (⟨g1, g2⟩ | g)
      · obtain rfl := g1.antisymm w g2
        exact .refl _
      · exact .step (by rw [upd, if_pos rfl]) hy ((upd_off hm).mpr g)
  | @step b q e n h ih =>
    have hne : b ≠ y := by
      rintro rfl
      have h1 := (w.tree _ _ e n).1
      have h2 := h.le w
      omega
    have e' : upd par y m b = some q := by rw [upd, if_neg hne]; exact e
    constructor
    · intro g
      cases g with
      | refl => exact .inl ⟨.step e n h, .refl _⟩
      | step e2 _ g =>
        rw [e'] at e2
        cases e2
        rcases ih.mp g with ⟨g1, g2⟩ | g
        · exact .inl ⟨g1, .step e n g2⟩
        · exact .inr g
    · rintro (⟨g1, g2⟩ | g)
      · cases g2 with
        | refl => exact .refl _
        | step e2 _ g2 =>
          rw [e] at e2
          cases e2
          exact .step e' n (ih.mpr (.inl ⟨g1, g2⟩))
      · exact .step e' n (ih.mpr (.inr g))
end

/-- What the graph is: edges, places in the order, a way ahead of each but the first; who dominates. -/
structure Gr (ed : Nat → Nat → Prop) (pl : Nat → Nat) (inn : Nat → Prop) (fw : Nat → Nat) (dom : Nat → Nat → Prop) : Prop where
  zero : inn 0
  pl0 : pl 0 = 0
  inj : ∀ a b, inn a → inn b → pl a = pl b → a = b
  fwd : ∀ b, inn b → b ≠ 0 → inn (fw b) ∧ ed (fw b) b ∧ pl (fw b) < pl b
  dom0 : ∀ d, dom d 0 → d = 0
  pred : ∀ d b p, dom d b → d ≠ b → ed p b → inn p → dom d p

/-- The state at place i of a pass: those assigned are of places below j. -/
structure Inv (ed : Nat → Nat → Prop) (pl : Nat → Nat) (inn : Nat → Prop) (fw : Nat → Nat) (dom : Nat → Nat → Prop) (i j : Nat) (par : Nat → Option Nat) : Prop where
  wf : Wf pl par
  asg : ∀ b, (par b).isSome = true ↔ inn b ∧ pl b < j
  D : ∀ b q, par b = some q → b ≠ 0 → ∀ x, (∀ p, ed p b → (par p).isSome = true → Anc par x p) → Anc par x q
  F : ∀ b q, par b = some q → b ≠ 0 → ∀ z, Anc par z q → i ≤ pl z → Anc par z (fw b)
  G : ∀ b q, par b = some q → b ≠ 0 → pl b < i → Anc par q (fw b)
  B : ∀ b d, (par b).isSome = true → dom d b → Anc par d b

section
variable {ed : Nat → Nat → Prop} {pl : Nat → Nat} {inn : Nat → Prop} {fw : Nat → Nat} {dom : Nat → Nat → Prop} {i j : Nat} {par : Nat → Option Nat}
/-- What dominates one below y, and lies above y, dominates y: by the ways ahead. -/
theorem Inv.climb (g : Gr ed pl inn fw dom) (h : Inv ed pl inn fw dom i j par) {y d : Nat} (hi : i ≤ pl y) (hd : pl d < pl y) :
    ∀ (k b : Nat), pl b < k → (par b).isSome = true → Anc par y b → dom d b → dom d y
  | 0, _, hk, _, _, _ => absurd hk (by omega)
  | k + 1, b, hk, hb, hA, hD => by
    by_cases e : y = b
    · exact e ▸ hD
    · obtain ⟨q, hq, h0, hA'⟩ := hA.above e
      have hin := (h.asg b).mp hb
      obtain ⟨f1, f2, f3⟩ := g.fwd b hin.1 h0
      have hF := h.F b q hq h0 y hA' hi
      have hle := hA.le h.wf
      exact h.climb g hi hd k (fw b) (by omega) ((h.asg _).mpr ⟨f1, by omega⟩) hF (g.pred d b (fw b) hD (by rintro rfl; omega) f2 f1)
/-- One more is processed. -/
theorem Inv.step (g : Gr ed pl inn fw dom) (h : Inv ed pl inn fw dom i j par) {y m : Nat} (hy : inn y) (hpl : pl y = i) (hi : 0 < i) (hij : i ≤ j)
    (h1 : ∀ p, ed p y → (par p).isSome = true → Anc par m p) (h2 : ∀ x, (∀ p, ed p y → (par p).isSome = true → Anc par x p) → Anc par x m) :
    Inv ed pl inn fw dom (i + 1) (max j (i + 1)) (upd par y m) ∧ (∀ q, par y = some q → Anc par m q) := by
  have y0 : y ≠ 0 := by
    rintro rfl
    have := g.pl0
    omega
  obtain ⟨f1, f2, f3⟩ := g.fwd y hy y0
  have af : (par (fw y)).isSome = true := (h.asg _).mpr ⟨f1, by omega⟩
  have hmf := h1 _ f2 af
  have hmp : pl m < pl y := by have := hmf.le h.wf; omega
  have hma : (par m).isSome = true := hmf.assigned h.wf af
  have hm : ¬ Anc par y m := fun z => by have := z.le h.wf; omega
  have hup : ∀ q, par y = some q → Anc par m q := fun q hq => h.D y q hq y0 m h1
  -- who has y above was assigned, and so was y, if it isn't y itself
  have old : ∀ b, Anc par y b → b ≠ y → (par b).isSome = true → ∃ q, par y = some q := by
    intro b hA hne hb
    exact Option.isSome_iff_exists.mp (hA.assigned h.wf hb)
  -- what is above behind the step was above ahead of it
  have back : ∀ x p, (par p).isSome = true → Anc (upd par y m) x p → Anc par x p := by
    intro x p hp hx
    by_cases hA : Anc par y p
    · rcases (upd_on h.wf y0 hm hA).mp hx with ⟨_, z⟩ | z
      · exact z
      · obtain ⟨q, hq⟩ := Option.isSome_iff_exists.mp (hA.assigned h.wf hp)
        exact (z.trans ((hup q hq).trans (.step hq y0 (.refl _)))).trans hA
    · exact (upd_off hA).mp hx
  have asg' : ∀ b, ((upd par y m) b).isSome = true ↔ inn b ∧ pl b < max j (i + 1) := by
    intro b
    by_cases e : b = y
    · subst e
      rw [upd, if_pos rfl]
      exact ⟨fun _ => ⟨hy, by omega⟩, fun _ => rfl⟩
    · rw [upd, if_neg e, h.asg]
      constructor
      · rintro ⟨a, b⟩
        exact ⟨a, by omega⟩
      · rintro ⟨a, c⟩
        refine ⟨a, ?_⟩
        have : pl b ≠ i := fun z => e (g.inj b y a hy (by omega))
        omega
  have wf' : Wf pl (upd par y m) := by
    refine ⟨by rw [upd, if_neg (fun z => y0 z.symm)]; exact h.wf.root, fun b q hq h0 => ?_⟩
    have mono : ∀ c, (par c).isSome = true → ((upd par y m) c).isSome = true := by
      intro c hc
      by_cases e : c = y
      · rw [upd, if_pos e]; rfl
      · rw [upd, if_neg e]; exact hc
    by_cases e : b = y
    · rw [upd, if_pos e] at hq
      cases hq
      exact ⟨e ▸ hmp, mono _ hma⟩
    · rw [upd, if_neg e] at hq
      have := h.wf.tree b q hq h0
      exact ⟨this.1, mono _ this.2⟩
  refine ⟨⟨wf', asg', ?_, ?_, ?_, ?_⟩, hup⟩
  · -- D
    intro b q hq h0 x hx
    by_cases e : b = y
    · subst e
      rw [upd, if_pos rfl] at hq
      cases hq
      refine (upd_off hm).mpr (h2 x (fun p hp ha => back x p ha (hx p hp ?_)))
      by_cases e2 : p = b
      · rw [upd, if_pos e2]; rfl
      · rw [upd, if_neg e2]; exact ha
    · rw [upd, if_neg e] at hq
      have hold : ∀ p, ed p b → (par p).isSome = true → Anc par x p := by
        intro p hp ha
        refine back x p ha (hx p hp ?_)
        by_cases e2 : p = y
        · rw [upd, if_pos e2]; rfl
        · rw [upd, if_neg e2]; exact ha
      have hxq := h.D b q hq h0 x hold
      by_cases hA : Anc par y q
      · have hin := (h.asg b).mp (by rw [hq]; rfl)
        obtain ⟨b1, b2, b3⟩ := g.fwd b hin.1 h0
        have hAf := h.F b q hq h0 y hA (by omega)
        have ha : (par (fw b)).isSome = true := (h.asg _).mpr ⟨b1, by omega⟩
        have hx2 := hx (fw b) b2 (by
          by_cases e2 : fw b = y
          · rw [upd, if_pos e2]; rfl
          · rw [upd, if_neg e2]; exact ha)
        rcases (upd_on h.wf y0 hm hAf).mp hx2 with ⟨z, _⟩ | z
        · exact (upd_on h.wf y0 hm hA).mpr (.inl ⟨z, hxq⟩)
        · exact (upd_on h.wf y0 hm hA).mpr (.inr z)
      · exact (upd_off hA).mpr hxq
  · -- F
    intro b q hq h0 z hz hp
    by_cases e : b = y
    · subst e
      rw [upd, if_pos rfl] at hq
      cases hq
      have := hz.le wf'
      omega
    · rw [upd, if_neg e] at hq
      have hqa := (h.wf.tree b q hq h0).2
      have hzo := back z q hqa hz
      have hzf := h.F b q hq h0 z hzo (by omega)
      by_cases hA : Anc par y (fw b)
      · refine (upd_on h.wf y0 hm hA).mpr (.inl ⟨?_, hzf⟩)
        rcases hzf.chain hA with c | c
        · have := c.le h.wf
          omega
        · exact c
      · exact (upd_off hA).mpr hzf
  · -- G
    intro b q hq h0 hp
    by_cases e : b = y
    · subst e
      rw [upd, if_pos rfl] at hq
      cases hq
      refine (upd_off (fun z => ?_)).mpr hmf
      have := z.le h.wf
      omega
    · rw [upd, if_neg e] at hq
      have hin := (h.asg b).mp (by rw [hq]; rfl)
      have hpb : pl b < i := by
        have : pl b ≠ i := fun z => e (g.inj b y hin.1 hy (by omega))
        omega
      obtain ⟨b1, b2, b3⟩ := g.fwd b hin.1 h0
      refine (upd_off (fun z => ?_)).mpr (h.G b q hq h0 hpb)
      have := z.le h.wf
      omega
  · -- B
    intro b d hb hD
    by_cases hA : Anc par y b
    · by_cases e : b = y
      · subst e
        by_cases e2 : d = b
        · subst e2; exact .refl _
        · exact .step (by rw [upd, if_pos rfl]) y0 ((upd_off hm).mpr (h2 d (fun p hp ha => h.B p d ha (g.pred d b p hD e2 hp ((h.asg p).mp ha).1))))
      · have hbo : (par b).isSome = true := by
          rw [upd, if_neg e] at hb; exact hb
        have hdo := h.B b d hbo hD
        refine (upd_on h.wf y0 hm hA).mpr ?_
        rcases hdo.chain hA with c | c
        · by_cases e2 : d = y
          · subst e2; exact .inl ⟨.refl _, hdo⟩
          · have hdp : pl d < pl y := by
              rcases c.place h.wf with z | z
              · exact absurd z e2
              · exact z
            have hDy := h.climb g (by omega) hdp (pl b + 1) b (by omega) hbo hA hD
            exact .inr (h2 d (fun p hp ha => h.B p d ha (g.pred d y p hDy e2 hp ((h.asg p).mp ha).1)))
        · exact .inl ⟨c, hdo⟩
    · have e : b ≠ y := by rintro rfl; exact hA (.refl _)
      rw [upd, if_neg e] at hb
      exact (upd_off hA).mpr (h.B b d hb hD)
/-- The first state. -/
theorem Inv.first (g : Gr ed pl inn fw dom) (h0 : par 0 = some 0) (hn : ∀ b, b ≠ 0 → par b = none) : Inv ed pl inn fw dom 1 1 par := by
  have no : ∀ {b q : Nat} {P : Prop}, par b = some q → b ≠ 0 → P := fun hq hb => by rw [hn _ hb] at hq; cases hq
  refine ⟨⟨h0, fun b q hq hb => no hq hb⟩, fun b => ?_, fun b q hq hb => no hq hb, fun b q hq hb => no hq hb, fun b q hq hb => no hq hb, fun b d hb hD => ?_⟩
  · by_cases e : b = 0
    · subst e
      rw [h0]
      exact ⟨fun _ => ⟨g.zero, by rw [g.pl0]; omega⟩, fun _ => rfl⟩
    · rw [hn b e]
      refine ⟨fun z => (by cases z), fun z => absurd (g.inj b 0 z.1 g.zero (by rw [g.pl0]; omega)) e⟩
  · by_cases e : b = 0
    · subst e
      rw [g.dom0 d hD]; exact .refl _
    · rw [hn b e] at hb; cases hb
/-- The next pass begins. -/
theorem Inv.again (g : Gr ed pl inn fw dom) (h : Inv ed pl inn fw dom i j par) (hj : ∀ b, inn b → pl b < i) : Inv ed pl inn fw dom 1 j par := by
  refine ⟨h.wf, h.asg, h.D, fun b q hq hb z hz _ => hz.trans (h.G b q hq hb (hj b ((h.asg b).mp (by rw [hq]; rfl)).1)), fun b q hq hb hp => ?_, h.B⟩
  have hin := ((h.asg b).mp (by rw [hq]; rfl)).1
  exact absurd (g.inj b 0 hin g.zero (by rw [g.pl0]; omega)) hb
/-- At the end, ancestors dominate: whoever is reached around a has a not above it. -/
theorem Inv.last (h : Inv ed pl inn fw dom i j par) (hj : ∀ b, inn b → pl b < j)
    (fix : ∀ b q, par b = some q → b ≠ 0 → ∀ p, ed p b → (par p).isSome = true → Anc par q p)
    (a : Nat) (ra : Nat → Prop) (hin : ∀ b, ra b → inn b) (hna : ¬ ra a)
    (wfr : ∀ P : Nat → Prop, (ra 0 → P 0) → (∀ u v, ra u → P u → ed u v → ra v → P v) → ∀ b, ra b → P b) : ∀ b, ra b → ¬ Anc par a b := by
  refine wfr _ (fun h0 z => ?_) (fun u v hu hP he hv z => ?_)
  · obtain rfl := z.of_zero
    exact hna h0
  · by_cases e : a = v
    · exact hna (e ▸ hv)
    · obtain ⟨q, hq, v0, hA⟩ := z.above e
      exact hP (hA.trans (fix v q hq v0 u he ((h.asg u).mpr ⟨hin u hu, hj u (hin u hu)⟩)))
end
end Go.Proofs.Ytpionncanaamgaa.Tree
