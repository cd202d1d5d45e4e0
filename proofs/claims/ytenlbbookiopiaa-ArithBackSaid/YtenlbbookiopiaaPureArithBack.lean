/- A difference undoes a sum, a shift by 64 more is the same shift, and a quotient times b and a rest nearer to 0 than b make a, for every two int64. Conditions: none beyond the statement's own. -/
import Derived.Test.YtenlbbookiopiaaPArithBackx2
import Derived.Laws.BitsAllLaws
import Derived.Laws.Bits64
namespace Go.Proofs.Ytenlbbookiopiaa.Pure
open Go.RowKit Go.Proofs.Ytenlbbookiopiaa.PArithBack Go.Proofs.YtenlbbookiopiaaW.PrintWords Go.Proofs.YtenlbbookiopiaaW.PrintLast Go.Proofs.YtenlbbookiopiaaW.PrintMore
theorem w64 (n : Int) : wrap64 n = (n + 9223372036854775808) % 18446744073709551616 - 9223372036854775808 := by unfold wrap64; rfl
theorem w64_id {n : Int} (h0 : -9223372036854775808 ≤ n) (h1 : n ≤ 9223372036854775807) : wrap64 n = n := by rw [w64]; omega
theorem u64_id {n : Int} (h0 : 0 ≤ n) (h1 : n < 18446744073709551616) : IntKind.u64.wrap n = n := by rw [IntKind.wrap_u64]; omega
theorem and63 (b : Int) : Go.bits .and .u64 (IntKind.u64.wrap b) 63 = b % 64 := by
  rw [IntKind.wrap_u64]
  have h0 : 0 ≤ b % 18446744073709551616 := Int.emod_nonneg _ (by decide)
  have h1 : b % 18446744073709551616 < 18446744073709551616 := Int.emod_lt_of_pos _ (by decide)
  have := bits_mask .u64 64 (by decide) (fun n a c => u64_id a (by simpa using c)) 6 (by decide) (b % 18446744073709551616) h0 (by simpa using h1)
  rw [show (63 : Int) = 2 ^ 6 - 1 by decide, this]
  omega
theorem and63_nonneg (b : Int) : 0 ≤ Go.bits .and .u64 (IntKind.u64.wrap b) 63 := by rw [and63]; omega
/-- What an operation of two comes to. -/
def e2 (op a b : Int) : Int × Option Int :=
  if op = 3 then (wrap64 (a + b), none) else if op = 4 then (wrap64 (a - b), none) else if op = 5 then (wrap64 (a * b), none)
  else if op = 6 then (Go.bits .and .i64 a b, none) else if op = 7 then (Go.bits .or .i64 a b, none) else if op = 8 then (Go.bits .xor .i64 a b, none)
  else if op = 9 then (shl .i64 a (b % 64), none) else if op = 10 then (shr .i64 a (b % 64), none)
  else if op = 12 then ((if a < b then 1 else 0), none) else if op = 13 then ((if a = b then 1 else 0), none)
  else if b = 0 then (0, some 7) else (wrap64 (Int.tdiv a b), none)
/-- What any operation comes to. -/
def ev (op : Int) (l : List Int) : Int × Option Int :=
  if op = 2 ∨ op = 14 then (match l with | [a] => if op = 2 then (a, none) else (wrap64 (1 - a), none) | _ => (0, some 1))
  else if 3 ≤ op ∧ op ≤ 13 then (match l with | [a, b] => e2 op a b | _ => (0, some 1))
  else (0, some 1)
def arity (op : Int) : Int := if op = 2 ∨ op = 14 then 1 else if 3 ≤ op ∧ op ≤ 13 then 2 else 0
def known (op : Int) : Bool := if op = 2 ∨ op = 14 then true else if 3 ≤ op ∧ op ≤ 13 then true else false
theorem args_eq (k : Nat) (op : Int) : arith_Args.f (k + 1) op = some (arity op, known op) := by
  unfold arith_Args.f arity known
  simp only [arith_Args.j0]
  by_cases h2 : op = 2
  · simp [h2]
  · by_cases h14 : op = 14
    · simp [h14]
    · by_cases h3 : 3 ≤ op
      · by_cases h13 : op ≤ 13
        · simp [h2, h14, h3, h13]
        · simp [h2, h14, h3, h13]
      · simp [h2, h14, h3]
theorem bit_eq (b : Bool) : arith_bit.f b = some (if b = true then 1 else 0) := by cases b <;> rfl
theorem len3 (a b c : Int) (l : List Int) (n : Int) (h : n = 1 ∨ n = 2) : (((a :: b :: c :: l).length : Int) != n) = true := by
  simp only [bne_iff_ne, ne_eq, List.length_cons]; omega
theorem ops_all (op : Int) : op = 2 ∨ op = 14 ∨ op = 3 ∨ op = 4 ∨ op = 5 ∨ op = 6 ∨ op = 7 ∨ op = 8 ∨ op = 9 ∨ op = 10 ∨ op = 11 ∨ op = 12 ∨ op = 13 ∨ op < 2 ∨ 14 < op := by omega
theorem j0_bad (k : Nat) (op : Int) (l : List Int) : arith_Eval.j0 (k + 1) op l true = some (0, some 1) := by simp [arith_Eval.j0]
theorem eval_eq (k : Nat) (op : Int) (l : List Int) : arith_Eval.f (k + 1) op l = some (ev op l) := by
  unfold arith_Eval.f
  rw [args_eq, Option.bind_some]
  rcases ops_all op with rfl | rfl | rfl | rfl | rfl | rfl | rfl | rfl | rfl | rfl | rfl | rfl | rfl | h | h
  · rcases l with _ | ⟨a, _ | ⟨b, _ | ⟨c, l⟩⟩⟩ <;> simp [arith_Eval.j0, known, arity, ev, rd] <;> omega
  · rcases l with _ | ⟨a, _ | ⟨b, _ | ⟨c, l⟩⟩⟩ <;> simp [arith_Eval.j0, known, arity, ev, rd] <;> omega
  · rcases l with _ | ⟨a, _ | ⟨b, _ | ⟨c, l⟩⟩⟩ <;> simp [arith_Eval.j0, known, arity, ev, e2, rd] <;> omega
  · rcases l with _ | ⟨a, _ | ⟨b, _ | ⟨c, l⟩⟩⟩ <;> simp [arith_Eval.j0, known, arity, ev, e2, rd] <;> omega
  · rcases l with _ | ⟨a, _ | ⟨b, _ | ⟨c, l⟩⟩⟩ <;> simp [arith_Eval.j0, known, arity, ev, e2, rd] <;> omega
  · rcases l with _ | ⟨a, _ | ⟨b, _ | ⟨c, l⟩⟩⟩ <;> simp [arith_Eval.j0, known, arity, ev, e2, rd] <;> omega
  · rcases l with _ | ⟨a, _ | ⟨b, _ | ⟨c, l⟩⟩⟩ <;> simp [arith_Eval.j0, known, arity, ev, e2, rd] <;> omega
  · rcases l with _ | ⟨a, _ | ⟨b, _ | ⟨c, l⟩⟩⟩ <;> simp [arith_Eval.j0, known, arity, ev, e2, rd] <;> omega
  · rcases l with _ | ⟨a, _ | ⟨b, _ | ⟨c, l⟩⟩⟩ <;> simp [arith_Eval.j0, known, arity, ev, e2, rd, and63] <;> omega
  · rcases l with _ | ⟨a, _ | ⟨b, _ | ⟨c, l⟩⟩⟩ <;> simp [arith_Eval.j0, known, arity, ev, e2, rd, and63] <;> omega
  · rcases l with _ | ⟨a, _ | ⟨b, _ | ⟨c, l⟩⟩⟩
    · simp [arith_Eval.j0, known, arity, ev]
    · simp [arith_Eval.j0, known, arity, ev]
    · by_cases hb : b = 0
      · simp [arith_Eval.j0, known, arity, ev, e2, rd, hb]
      · simp [arith_Eval.j0, known, arity, ev, e2, rd, hb]
    · simp [arith_Eval.j0, known, arity, ev]; omega
  · rcases l with _ | ⟨a, _ | ⟨b, _ | ⟨c, l⟩⟩⟩ <;> simp [arith_Eval.j0, known, arity, ev, e2, rd, bit_eq] <;> omega
  · rcases l with _ | ⟨a, _ | ⟨b, _ | ⟨c, l⟩⟩⟩ <;> simp [arith_Eval.j0, known, arity, ev, e2, rd, bit_eq] <;> omega
  · have e1 : ¬ (op = 2 ∨ op = 14) := by omega
    have e2 : ¬ (3 ≤ op ∧ op ≤ 13) := by omega
    simp only [known, arity, ev, if_neg e1, if_neg e2]
    simp [j0_bad]
  · have e1 : ¬ (op = 2 ∨ op = 14) := by omega
    have e2 : ¬ (3 ≤ op ∧ op ≤ 13) := by omega
    simp only [known, arity, ev, if_neg e1, if_neg e2]
    simp [j0_bad]
theorem up_eq (k : Nat) : fettlelaw01_up.f (k + 1) = some true := by
  unfold fettlelaw01_up.f
  rw [eval_eq, Option.bind_some, eval_eq, Option.bind_some]
  have h1 : ev 11 [-7, 2] = (-3, none) := by
    show (wrap64 (Int.tdiv (-7) 2), (none : Option Int)) = _
    rw [w64_id (by decide) (by decide)]; rfl
  have h2 : ev 11 [1, 0] = (0, some 7) := rfl
  rw [h1, h2]; rfl
theorem w64_congr {m n : Int} (h : m % 18446744073709551616 = n % 18446744073709551616) : wrap64 m = wrap64 n := by rw [w64, w64]; omega
theorem w64_mod (n : Int) : wrap64 n % 18446744073709551616 = n % 18446744073709551616 := by rw [w64]; omega
theorem wf64 {a : Int} (h : (Lit.int .i64 a).wf = true) : -9223372036854775808 ≤ a ∧ a ≤ 9223372036854775807 := by
  simpa [Lit.wf, IntKind.min, IntKind.max, IntKind.signed, IntKind.bits] using h
theorem tmod_bd (a b : Int) (hb : b ≠ 0) : (a.tmod b).natAbs < b.natAbs := by
  rw [Int.natAbs_tmod]; exact Nat.mod_lt _ (by omega)
theorem tmod_sign (a b : Int) : (0 ≤ a → 0 ≤ a.tmod b) ∧ (a < 0 → a.tmod b ≤ 0) := by
  refine ⟨Int.tmod_nonneg b, fun h => ?_⟩
  have := Int.tmod_nonneg b (a := -a) (by omega)
  rw [Int.neg_tmod] at this; omega
theorem rest_eq (a b : Int) (hb : b ≠ 0) (h0 : -9223372036854775808 ≤ b) (h1 : b ≤ 9223372036854775807) :
    wrap64 (a - wrap64 (wrap64 (a.tdiv b) * b)) = a.tmod b := by
  have hr := tmod_bd a b hb
  have e := Int.tdiv_mul_add_tmod a b
  rw [← w64_id (n := a.tmod b) (by omega) (by omega)]
  apply w64_congr
  rw [Int.sub_emod, w64_mod, Int.mul_emod, w64_mod, ← Int.mul_emod, ← Int.sub_emod]
  congr 1; omega
theorem shift_same (b : Int) : wrap64 (IntKind.u64.wrap (IntKind.u64.wrap b + 64)) % 64 = b % 64 := by
  rw [w64, IntKind.wrap_u64, IntKind.wrap_u64]; omega
theorem quot_least (a : Int) (h0 : -9223372036854775808 ≤ a) (h1 : a ≤ 9223372036854775807) (h : a ≠ -9223372036854775808) : wrap64 (a.tdiv (-9223372036854775808)) = 0 := by
  have := Int.natAbs_tdiv a (-9223372036854775808)
  have e : a.natAbs.div (Int.natAbs (-9223372036854775808)) = 0 := Nat.div_eq_of_lt (by omega)
  rw [e] at this
  rw [Int.natAbs_eq_zero.mp this]; exact w64_id (by decide) (by decide)
theorem back_end (k : Nat) (a b : Int) (ha : -9223372036854775808 ≤ a ∧ a ≤ 9223372036854775807) (hb : -9223372036854775808 ≤ b ∧ b ≤ 9223372036854775807) (h : b ≠ 0) :
    fettlelaw01_ArithBack.j2 (k + 1) a b true (wrap64 (a.tdiv b)) (wrap64 (a - wrap64 (wrap64 (a.tdiv b) * b))) false = some true := by
  obtain ⟨s1, s2⟩ := tmod_sign a b
  have hr := tmod_bd a b h
  rw [fettlelaw01_ArithBack.j2, if_neg (by decide), rest_eq a b h hb.1 hb.2]
  by_cases hm : b = -9223372036854775808
  · rw [if_pos hm, if_pos rfl]
    subst hm
    by_cases e : a = -9223372036854775808
    · subst e
      rw [if_pos (show wrap64 (Int.tdiv (-9223372036854775808) (-9223372036854775808)) = 1 from w64_id (n := 1) (by decide) (by decide)), if_pos rfl]
    · rw [quot_least a ha.1 ha.2 e]; rfl
  · rw [if_neg hm]
    have ew : wrap64 (-b) = -b := w64_id (by omega) (by omega)
    have ew2 : wrap64 (-(-b)) = b := by rw [Int.neg_neg]; exact w64_id (by omega) (by omega)
    have last : (if a.tmod b = 0 then some true else some ((decide (a.tmod b < 0)) == (decide (a < 0)))) = some true := by
      by_cases z : a.tmod b = 0
      · rw [if_pos z]
      · rw [if_neg z]
        by_cases n : a < 0
        · have := s2 n
          have q : a.tmod b < 0 := by omega
          simp [n, q]
        · have := s1 (by omega)
          have q : ¬ a.tmod b < 0 := by omega
          simp [n, q]
    by_cases n : b < 0
    · rw [if_pos n, if_pos rfl, ew, ew2, if_pos (by omega), if_pos (by omega)]; exact last
    · rw [if_neg n, if_pos rfl, ew, if_pos (by omega), if_pos (by omega)]; exact last
theorem ArithBack : fettlelaw01_ArithBack.Pure := by
  intro a b wa wb
  have ha := wf64 wa
  have hb := wf64 wb
  refine ⟨6, ?_⟩
  have v3 : ∀ x y : Int, ev 3 [x, y] = (wrap64 (x + y), none) := fun _ _ => rfl
  have v4 : ∀ x y : Int, ev 4 [x, y] = (wrap64 (x - y), none) := fun _ _ => rfl
  have v5 : ∀ x y : Int, ev 5 [x, y] = (wrap64 (x * y), none) := fun _ _ => rfl
  have v9 : ∀ x y : Int, ev 9 [x, y] = (shl .i64 x (y % 64), none) := fun _ _ => rfl
  have v10 : ∀ x y : Int, ev 10 [x, y] = (shr .i64 x (y % 64), none) := fun _ _ => rfl
  have v11 : ∀ x y : Int, ev 11 [x, y] = (if y = 0 then (0, some 7) else (wrap64 (Int.tdiv x y), none)) := fun _ _ => rfl
  unfold fettlelaw01_ArithBack.f
  simp only [up_eq, eval_eq, Option.bind_some, v3, v4]
  have e1 : (wrap64 (wrap64 (a + b) - b) != a) = false := by
    have : wrap64 (wrap64 (a + b) - b) = a := by simp only [w64]; omega
    simp [this]
  have n9 : wrap64 (9 + 1) = 10 := w64_id (by decide) (by decide)
  have n10 : wrap64 (10 + 1) = 11 := w64_id (by decide) (by decide)
  rw [e1, if_pos (by rfl), if_pos (by rfl), fettlelaw01_ArithBack.j0, if_neg (by decide), fettlelaw01_ArithBack.l0, if_pos (by decide)]
  simp only [eval_eq, Option.bind_some, v9, shift_same, Option.isNone_none, if_true, n9]
  rw [fettlelaw01_ArithBack.l0, if_pos (by decide)]
  simp only [eval_eq, Option.bind_some, v10, shift_same, Option.isNone_none, if_true, n10]
  rw [fettlelaw01_ArithBack.l0, if_neg (by decide)]
  simp only [eval_eq, Option.bind_some, v11]
  by_cases h : b = 0
  · rw [if_pos h, if_pos h, if_pos trivial]; rfl
  · rw [if_neg h, if_neg h]
    simp only [v5, Option.isNone_none, if_true]
    exact back_end _ a b ha hb h
end Go.Proofs.Ytenlbbookiopiaa.Pure
