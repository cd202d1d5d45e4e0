/- Rows of rows that are written over: what else lay stays. Conditions: none. -/
import Derived.Test.YtpionncanaamgaaLz
set_option linter.unusedVariables false
set_option linter.unusedSimpArgs false
namespace Go.Proofs.Ytpionncanaamgaa.Lk
open Go.RowKit Go.Proofs.YtpionncanaamgaaW.PrintWords Go.Proofs.YtpionncanaamgaaW.PrintLast Go.Proofs.YtpionncanaamgaaW.PrintMore Go.Proofs.YtpionncanaamgaaW.PrintWords.Kd Go.Proofs.Ytpionncanaamgaa.PLoopsStays Go.Proofs.Ytpionncanaamgaa.Lp
variable {w w1 : World}
theorem add_block (a : Addr) (k : Nat) : (a.add k).block = a.block := by
  unfold Addr.add
  split <;> rfl
theorem add_zero_at (g k : Nat) : (⟨g, 0, none⟩ : Addr).add k = ⟨g, k, none⟩ := by cases k <;> simp [Addr.add]
/-- One row at a: n cells, each a Q, in a block of lo to hi. -/
def RowP (Q : Value → Prop) (w : World) (lo hi : Nat) (a : Addr) (n : Nat) : Prop :=
  ∀ k, k < n → lo ≤ a.block ∧ a.block < hi ∧ (∃ z, w.cell? (a.add k) = some z ∧ Q z) ∧ w.frozen? (a.add k) = false
theorem rowP_of {α : Type} {enc : α → Value} {h1 : ∀ x, (enc x).oneCell' = true} (d : α) {Q : Value → Prop} (hQ : ∀ x, Q (enc x)) {e base g cap n : Nat} {ok : Nat → Prop} {xs : List α} (h : Kd.R (Kd.scalar enc h1) e w base ok (.slice (some ⟨g, 0, none⟩) n cap) xs) : RowP Q w base w.heap.size ⟨g, 0, none⟩ xs.length := by
  obtain ⟨hn, _, _⟩ := Kd.R_reads' h
  subst hn
  intro k hk
  have ho := Kd.own_of_R h
  have hc := own_at_of (d := d) ho (k : Int) (by omega) (by omega)
  rw [Int.toNat_natCast] at hc
  exact ⟨Kd.R_base h g (by simp [Value.ownBlock]), Kd.R_lt h g (by simp [Value.ownBlock]), ⟨_, by rw [add_zero_at]; exact hc.1, hQ _⟩, by rw [add_zero_at]; exact hc.2⟩
end Go.Proofs.Ytpionncanaamgaa.Lk
