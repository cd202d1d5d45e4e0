/- The law InternNew returns true for any number. Conditions: none. -/
import Derived.Test.YtaedbjjjdafabaaTl
import Derived.Test.YtaedbjjjdafabaaTh
namespace Go.Proofs.Ytaedbjjjdafabaa.Tb
open Go.RowKit Go.Proofs.YtaedbjjjdafabaaW.PrintWords Go.Proofs.YtaedbjjjdafabaaW.PrintLast Go.Proofs.YtaedbjjjdafabaaW.PrintMore Go.Proofs.YtaedbjjjdafabaaW.PrintWords.Kd Go.Maps Go.Proofs.Ytaedbjjjdafabaa.PInternFull
attribute [local go_sem] max2_int min2_int max_two min_two max_three min_three max_four min_four
set_option linter.unusedVariables false
set_option linter.unusedSimpArgs false
variable {w w1 : World} {b g gt : Nat} {A : Option Addr} {n c bm m : Nat} {X : List (List (Int × Int))} {D : DataW Unit}
theorem eq_code (w : World) (a b : Int) : (Go.binOp .eql 26 (.iface 31 (.int .i64 a)) (.iface 31 (.int .i64 b))).run Try.prog w = .ok (.bool (a == b)) w := Go.Lib.run_eql_iface_int w a b Try.underlying26 (by kernel_rfl) Try.underlying31
theorem none_flat (s : Nat) : (List.replicate s ([] : List (Int × Int))).flatten = [] := by simp
theorem sortL_nil : sortL [] = [] := List.length_eq_zero_iff.1 (by rw [sortL_len]; rfl)
set_option maxHeartbeats 4000000 in
set_option maxRecDepth 100000 in
theorem new_law (s : Int) (w : World) : Calls Try.prog 4 #[.int .i64 s] w fun e w' => e = .returned (.bool true) ∧ Below w.heap.size w w' := by
  have HB := Aside0.mk (Below.refl w.heap.size w)
  have he := @eq_code
  by_cases h1 : s < 1
  · have d1 := decide_eq_true h1
    have B := Aside0.mk (fun w => new_bad s (.inl h1) w)
    go_enter Try.func4, Try.ntmps4
    go_wp2_with (first
      | (go_at_call 7; refine (up_any _).mono ?_; rintro e w1 ⟨rfl, hB⟩; have HB1 := Aside0.mk hB; clear hB)
      | (go_at_call 9; refine (B.out _).mono ?_; rintro e w2 ⟨rfl, hB⟩; have HB2 := Aside0.mk (below_step HB1.out hB); clear hB))
    go_ret
    exact ⟨rfl, HB2.out⟩
  · have d1 := decide_eq_false h1
    by_cases h2 : 16 < s
    · have d2 := decide_eq_true h2
      have B := Aside0.mk (fun w => new_bad s (.inr h2) w)
      go_enter Try.func4, Try.ntmps4
      go_wp2_with (first
        | (go_at_call 7; refine (up_any _).mono ?_; rintro e w1 ⟨rfl, hB⟩; have HB1 := Aside0.mk hB; clear hB)
        | (go_at_call 9; refine (B.out _).mono ?_; rintro e w2 ⟨rfl, hB⟩; have HB2 := Aside0.mk (below_step HB1.out hB); clear hB))
      go_ret
      exact ⟨rfl, HB2.out⟩
    · have d2 := decide_eq_false h2
      have G := Aside0.mk (fun w => new_any s (by omega) (by omega) w)
      obtain ⟨S, hS⟩ : ∃ S, S = s.toNat := ⟨_, rfl⟩
      rw [← hS] at G
      have S16 := Aside0.mk (show S ≤ 16 by omega)
      clear hS h1 h2
      go_enter Try.func4, Try.ntmps4
      go_wp2_with (first
        | (go_at_call 7; refine (up_any _).mono ?_; rintro e w1 ⟨rfl, hB⟩; have HB1 := Aside0.mk hB; clear hB)
        | (go_at_call 9; refine (G.out _).mono ?_; rintro e w2 ⟨⟨gt, A, c, bm, rfl, hT⟩, hB⟩; have HT := Aside0.mk hT; have HB2 := Aside0.mk (below_step HB1.out hB); clear hB hT)
        | (go_at_call 12; refine (len_any HT.out).mono ?_; rintro e w3 ⟨rfl, rfl⟩)
        | (go_at_call 13; refine (values_any HT.out (by rw [none_flat]; exact Nat.zero_le _) S16.out).mono ?_; rintro e w4 ⟨⟨v, rfl, hO⟩, hB⟩; rw [none_flat, sortL_nil] at hO; obtain ⟨A1, c1, e1⟩ := R_slice hO; subst e1; have HB4 := Aside0.mk (below_step HB2.out hB); clear hB hO))
      go_ret
      exact ⟨rfl, HB4.out⟩
end Go.Proofs.Ytaedbjjjdafabaa.Tb
