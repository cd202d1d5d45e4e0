/- Rows of rows that are written over: what else lay stays. Conditions: none. -/
import Derived.Test.YtpionncanaamgaaLz
set_option linter.unusedVariables false
set_option linter.unusedSimpArgs false
namespace Go.Proofs.Ytpionncanaamgaa.Lk
open Go.RowKit Go.Proofs.YtpionncanaamgaaW.PrintWords Go.Proofs.YtpionncanaamgaaW.PrintLast Go.Proofs.YtpionncanaamgaaW.PrintMore Go.Proofs.YtpionncanaamgaaW.PrintWords.Kd Go.Proofs.Ytpionncanaamgaa.PDomStays Go.Proofs.Ytpionncanaamgaa.Lp
variable {w w1 : World}
theorem add_block (a : Addr) (k : Nat) : (a.add k).block = a.block := by
  unfold Addr.add
  split <;> rfl
theorem add_zero_at (g k : Nat) : (⟨g, 0, none⟩ : Addr).add k = ⟨g, k, none⟩ := by cases k <;> simp [Addr.add]
/-- One row at a: n cells, each a Q, in a block of lo to hi. -/
def RowP (Q : Value → Prop) (w : World) (lo hi : Nat) (a : Addr) (n : Nat) : Prop :=
  ∀ k, k < n → lo ≤ a.block ∧ a.block < hi ∧ (∃ z, w.cell? (a.add k) = some z ∧ Q z) ∧ w.frozen? (a.add k) = false
theorem RowP.set {Q : Value → Prop} {lo hi n : Nat} {a : Addr} (h : RowP Q w lo hi a n) (p : Addr) {v : Value} (hv : Q v) : RowP Q (w.setCell p v) lo hi a n := by
  intro k hk
  obtain ⟨h1, h2, ⟨z0, h3, h4⟩, h5⟩ := h k hk
  refine ⟨h1, h2, ?_, (World.frozen?_setCell _ _ _ _).trans h5⟩
  by_cases e : p = a.add k
  · rw [e]
    exact ⟨v, World.cell?_setCell_same _ _ _ h3, hv⟩
  · exact ⟨z0, (World.cell?_setCell_other _ _ _ _ e).trans h3, h4⟩
theorem RowP.below {Q : Value → Prop} {lo hi n : Nat} {a : Addr} (h : RowP Q w lo hi a n) (hb : Below w.heap.size w w1) : RowP Q w1 lo hi a n := by
  intro k hk
  obtain ⟨h1, h2, ⟨z0, h3, h4⟩, h5⟩ := h k hk
  have hl := World.block_lt_of_cell? w _ h3
  refine ⟨h1, h2, ⟨z0, (hb.cell hl).trans h3, h4⟩, ?_⟩
  have := hb.block _ hl
  unfold World.frozen? at h5 ⊢
  rw [this]
  exact h5
/-- Rows in a row at ag: all may be written. -/
def RowsP (Q : Value → Prop) (w : World) (lo hi : Nat) (ag : Addr) (L : List Nat) : Prop :=
  ∀ i, i < L.length → ∃ Ai ci, w.cell? (ag.add i) = some (.slice Ai (L.getD i 0) ci) ∧ ∀ k, k < L.getD i 0 → ∃ ai, Ai = some ai ∧ lo ≤ ai.block ∧ ai.block < hi ∧ ai.block ≠ ag.block ∧ (∃ z, w.cell? (ai.add k) = some z ∧ Q z) ∧ w.frozen? (ai.add k) = false
theorem RowsP.set {Q : Value → Prop} {lo hi : Nat} {ag : Addr} {L : List Nat} (h : RowsP Q w lo hi ag L) {p : Addr} (hj : p.block ≠ ag.block) {v : Value} (hv : Q v) : RowsP Q (w.setCell p v) lo hi ag L := by
  intro i hi
  obtain ⟨Ai, ci, h1, h2⟩ := h i hi
  refine ⟨Ai, ci, (World.cell?_setCell_other _ _ _ _ (fun e => hj (by rw [e, add_block]))).trans h1, fun k hk => ?_⟩
  obtain ⟨ai, e1, e2, e2', e3, ⟨z0, e4, e4'⟩, e5⟩ := h2 k hk
  refine ⟨ai, e1, e2, e2', e3, ?_, (World.frozen?_setCell _ _ _ _).trans e5⟩
  by_cases e : p = ai.add k
  · rw [e]
    exact ⟨v, World.cell?_setCell_same _ _ _ e4, hv⟩
  · exact ⟨z0, (World.cell?_setCell_other _ _ _ _ e).trans e4, e4'⟩
theorem RowsP.below {Q : Value → Prop} {lo hi : Nat} {ag : Addr} {L : List Nat} (h : RowsP Q w lo hi ag L) (hb : Below w.heap.size w w1) : RowsP Q w1 lo hi ag L := by
  intro i hi
  obtain ⟨Ai, ci, h1, h2⟩ := h i hi
  refine ⟨Ai, ci, (hb.cell (World.block_lt_of_cell? w _ h1)).trans h1, fun k hk => ?_⟩
  obtain ⟨ai, e1, e2, e2', e3, ⟨z0, e4, e4'⟩, e5⟩ := h2 k hk
  have hl := World.block_lt_of_cell? w _ e4
  refine ⟨ai, e1, e2, e2', e3, ⟨z0, (hb.cell hl).trans e4, e4'⟩, ?_⟩
  have := hb.block _ hl
  unfold World.frozen? at e5 ⊢
  rw [this]
  exact e5
/-- A store elsewhere: into a block that is neither the row's nor any of its rows'. -/
theorem RowsP.far {Q : Value → Prop} {lo hi : Nat} {ag : Addr} {L : List Nat} (h : RowsP Q w lo hi ag L) {p : Addr} (hj : 0 < L.length → p.block ≠ ag.block) (hp : p.block < lo ∨ hi ≤ p.block) (v : Value) : RowsP Q (w.setCell p v) lo hi ag L := by
  intro i hi
  obtain ⟨Ai, ci, h1, h2⟩ := h i hi
  refine ⟨Ai, ci, (World.cell?_setCell_other _ _ _ _ (fun e => hj (by omega) (by rw [e, add_block]))).trans h1, fun k hk => ?_⟩
  obtain ⟨ai, e1, e2, e2', e3, ⟨z0, e4, e4'⟩, e5⟩ := h2 k hk
  exact ⟨ai, e1, e2, e2', e3, ⟨z0, (World.cell?_setCell_other _ _ _ _ (fun e => by rw [e, add_block] at hp; omega)).trans e4, e4'⟩, (World.frozen?_setCell _ _ _ _).trans e5⟩
theorem rowP_of {α : Type} {enc : α → Value} {h1 : ∀ x, (enc x).oneCell' = true} (d : α) {Q : Value → Prop} (hQ : ∀ x, Q (enc x)) {e base g cap n : Nat} {ok : Nat → Prop} {xs : List α} (h : Kd.R (Kd.scalar enc h1) e w base ok (.slice (some ⟨g, 0, none⟩) n cap) xs) : RowP Q w base w.heap.size ⟨g, 0, none⟩ xs.length := by
  obtain ⟨hn, _, _⟩ := Kd.R_reads' h
  subst hn
  intro k hk
  have ho := Kd.own_of_R h
  have hc := own_at_of (d := d) ho (k : Int) (by omega) (by omega)
  rw [Int.toNat_natCast] at hc
  exact ⟨Kd.R_base h g (by simp [Value.ownBlock]), Kd.R_lt h g (by simp [Value.ownBlock]), ⟨_, by rw [add_zero_at]; exact hc.1, hQ _⟩, by rw [add_zero_at]; exact hc.2⟩
theorem rowsP_of {α : Type} {enc : α → Value} {h1 : ∀ x, (enc x).oneCell' = true} (d : α) {Q : Value → Prop} (hQ : ∀ x, Q (enc x)) {e e2 base g cap n : Nat} {R : List (List α)} (h : Kd.R (Kd.slice e (Kd.scalar enc h1)) e2 w base (fun _ => True) (.slice (some ⟨g, 0, none⟩) n cap) R) : RowsP Q w base w.heap.size ⟨g, 0, none⟩ (R.map List.length) := by
  obtain ⟨hn, _, _⟩ := Kd.R_reads' h
  intro i hi
  rw [List.length_map] at hi
  obtain ⟨c, _, hM, hcc, _⟩ := Kd.R_elem h ([] : List α) (i : Int) (by omega) (by omega)
  rw [Int.toNat_natCast] at hM hcc
  obtain ⟨v, rfl, hR⟩ := hM
  obtain ⟨Ai, ci, rfl⟩ := Kd.R_slice hR
  have hl : (R.map List.length).getD i 0 = (R.getD i []).length := by
    rw [List.getD_eq_getElem?_getD, List.getD_eq_getElem?_getD, List.getElem?_map, List.getElem?_eq_getElem hi]
    rfl
  rw [hl]
  have hcc2 : ∀ j u, [Value.slice Ai (R.getD i []).length ci][j]? = some u → w.cell? ⟨g, i * 1 + j, none⟩ = some u := hcc
  refine ⟨Ai, ci, by have := hcc2 0 _ rfl; rw [Nat.mul_one, Nat.add_zero] at this; rw [add_zero_at]; exact this, fun k hk => ?_⟩
  obtain ⟨gi, cap2, he, h1', h2, cells, h3⟩ := Kd.R_form hR (by omega)
  injection he with he1 he2 he3
  subst he1
  obtain ⟨r1, r2, r3, r4⟩ := rowP_of d hQ hR k hk
  exact ⟨⟨gi, 0, none⟩, rfl, r1, r2, fun e => (hR.1 gi (by simp [Value.ownBlock])).2 e, r3, r4⟩
/-- The same, of a row in the form S, whatever its length. -/
theorem rowsS_of {α : Type} {enc : α → Value} {h1 : ∀ x, (enc x).oneCell' = true} (d : α) {Q : Value → Prop} (hQ : ∀ x, Q (enc x)) {e e2 base n cap : Nat} {A : Option Addr} {R : List (List α)} (h : Kd.S (Kd.slice e (Kd.scalar enc h1)) e2 w base (fun _ => True) (.slice A n cap) R) :
    ∃ g : Addr, (0 < R.length → A = some g ∧ base ≤ g.block ∧ g.block < w.heap.size) ∧ RowsP Q w base w.heap.size g (R.map List.length) := by
  by_cases h0 : 0 < R.length
  · obtain ⟨g, cap2, he, h1, h2, _⟩ := Kd.R_form (Kd.S_R h) h0
    injection he with he1 he2 he3
    subst he1
    exact ⟨⟨g, 0, none⟩, fun _ => ⟨rfl, h1, h2⟩, rowsP_of d hQ (Kd.S_R h)⟩
  · exact ⟨⟨0, 0, none⟩, fun h => absurd h h0, fun i hi => by rw [List.length_map] at hi; omega⟩
theorem rowR_of {α : Type} {enc : α → Value} {h1 : ∀ x, (enc x).oneCell' = true} (d : α) {Q : Value → Prop} (hQ : ∀ x, Q (enc x)) {e base n cap : Nat} {ok : Nat → Prop} {A : Option Addr} {xs : List α} (h : Kd.R (Kd.scalar enc h1) e w base ok (.slice A n cap) xs) :
    ∃ g : Addr, (0 < xs.length → A = some g) ∧ RowP Q w base w.heap.size g xs.length := by
  by_cases h0 : 0 < xs.length
  · obtain ⟨g, cap2, he, h1, h2, _⟩ := Kd.R_form h h0
    injection he with he1 he2 he3
    subst he1
    exact ⟨⟨g, 0, none⟩, fun _ => rfl, rowP_of d hQ h⟩
  · exact ⟨⟨0, 0, none⟩, fun h => absurd h h0, fun i hi => by omega⟩
end Go.Proofs.Ytpionncanaamgaa.Lk
