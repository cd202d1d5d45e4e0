/- Plain facts on what stands in a table behind i puts. Conditions: none. -/
import Derived.Test.YtaedbjjjdafabaaTf
namespace Go.Proofs.Ytaedbjjjdafabaa.Tb
open Go.RowKit Go.Proofs.YtaedbjjjdafabaaW.PrintWords Go.Proofs.YtaedbjjjdafabaaW.PrintLast Go.Proofs.YtaedbjjjdafabaaW.PrintMore Go.Proofs.YtaedbjjjdafabaaW.PrintWords.Kd Go.Maps Go.Proofs.Ytaedbjjjdafabaa.PInternFull
attribute [local go_sem] max2_int min2_int max_two min_two max_three min_three max_four min_four
set_option linter.unusedVariables false
set_option linter.unusedSimpArgs false
variable {w w1 : World} {b gt : Nat} {A : Option Addr} {n c bm m : Nat} {X : List (List (Int × Int))} {D : DataW Unit}
theorem neq_code (w : World) (a b : Int) : (Go.binOp .neq 26 (.iface 31 (.int .i64 a)) (.iface 31 (.int .i64 b))).run Try.prog w = .ok (.bool (a != b)) w := Go.Lib.run_neq_iface_int w a b Try.underlying26 (by kernel_rfl) Try.underlying31
/-- Behind i of the puts of 0, 1, .. -/
structure Fill (i : Nat) (X : List (List (Int × Int))) (D : DataW Unit) : Prop where
  size : Maps.size D = min i 4096
  has : ∀ j : Nat, j < min i 4096 → Maps.has D (KL 1 j) = true
  no : ∀ j : Nat, min i 4096 ≤ j → j < 10000 → Maps.has D (KL 1 j) = false
  len : ∀ k, (X.getD k []).length ≤ i
theorem wfn (j : Nat) (h : j < 10000) : (Lit.int .i64 (j : Int)).wf = true := i64_wf (by omega) (by omega)
theorem fill_zero (s : Nat) : Fill 0 (List.replicate s []) (.map []) :=
  ⟨rfl, fun j h => by omega, fun j _ _ => rfl, fun k => by
    rw [List.getD_eq_getElem?_getD, List.getElem?_replicate]
    split <;> simp⟩
theorem put_len (X : List (List (Int × Int))) (x y : Int) (n k i : Nat) (h : ∀ k, (X.getD k []).length ≤ i) : ((put X x y n).getD k []).length ≤ i + 1 := by
  unfold put
  rw [List.getD_eq_getElem?_getD, List.getElem?_set]
  split
  · split
    · simp
      have := h (drw x y n).toNat
      rw [List.getD_eq_getElem?_getD] at this
      omega
    · simp
  · have := h k
    rw [List.getD_eq_getElem?_getD] at this
    omega
theorem fill_step (i : Nat) (hi : i < 4096) (h : Fill i X D) (ht : Tidy D) (s : Nat) (d : DataW Unit) : Fill (i + 1) (put X 1 i s) (D.put (KL 1 i) d) := by
  have hno : Maps.has D (KL 1 i) = false := h.no i (by omega) (by omega)
  have ne : ∀ j : Nat, j < 10000 → j ≠ i → KL 1 j ≠ KL 1 i := fun j hj hne => KL_ne wf1 (wfn j hj) wf1 (wfn i (by omega)) (.inr (by omega))
  refine ⟨?_, fun j hj => ?_, fun j hj hj2 => ?_, fun k => put_len X 1 i s k i h.len⟩
  · rw [size_put ht, hno, h.size]
    simp
    omega
  · by_cases e : j = i
    · subst e
      exact has_put_same ht.isMap (key_lit _ _) d
    · rw [has_put_other (ne j (by omega) e)]
      exact h.has j (by omega)
  · rw [has_put_other (ne j hj2 (by omega))]
    exact h.no j (by omega) hj2
theorem fill_more (i : Nat) (hi : 4096 ≤ i) (h : Fill i X D) : Fill (i + 1) X D :=
  ⟨by rw [h.size]; omega, fun j hj => h.has j (by omega), fun j hj hj2 => h.no j (by omega) hj2, fun k => Nat.le_succ_of_le (h.len k)⟩
theorem pick_bd (s r : Int) (h : fettlelaw10_pick.f s = some r) (hs : -9223372036854775808 ≤ s) (hs2 : s < 9223372036854775808) : 1 ≤ r ∧ r ≤ 16 := by
  unfold fettlelaw10_pick.f at h
  have key : ∀ a : Int, 0 ≤ a → 1 ≤ wrap64 (1 + a.tmod 16) ∧ wrap64 (1 + a.tmod 16) ≤ 16 := fun a ha => by
    have h1 := Int.tmod_nonneg 16 ha
    have h2 := Int.tmod_lt_of_pos a (show (0 : Int) < 16 by omega)
    generalize a.tmod 16 = u at *
    unfold wrap64
    omega
  split at h
  · obtain rfl := Option.some.inj h
    exact key _ (by unfold wrap64; omega)
  · obtain rfl := Option.some.inj h
    exact key _ (by omega)
theorem pick_some (s : Int) : ∃ r, fettlelaw10_pick.f s = some r := by
  unfold fettlelaw10_pick.f
  split <;> exact ⟨_, rfl⟩
end Go.Proofs.Ytaedbjjjdafabaa.Tb
