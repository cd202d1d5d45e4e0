/- Sums, products and what is bit by bit may be grouped freely, and products of sums are sums of products, for every three int64. Conditions: none beyond the statement's own. -/
import Derived.Test.YtenlbbookiopiaaPArithGroupsx2
import Derived.Laws.BitsAllLaws
import Derived.Laws.Bits64
namespace Go.Proofs.Ytenlbbookiopiaa.Pure
open Go.RowKit Go.Proofs.Ytenlbbookiopiaa.PArithGroups Go.Proofs.YtenlbbookiopiaaW.PrintWords Go.Proofs.YtenlbbookiopiaaW.PrintLast Go.Proofs.YtenlbbookiopiaaW.PrintMore
theorem w64 (n : Int) : wrap64 n = (n + 9223372036854775808) % 18446744073709551616 - 9223372036854775808 := by unfold wrap64; rfl
theorem w64_id {n : Int} (h0 : -9223372036854775808 ≤ n) (h1 : n ≤ 9223372036854775807) : wrap64 n = n := by rw [w64]; omega
theorem u64_id {n : Int} (h0 : 0 ≤ n) (h1 : n < 18446744073709551616) : IntKind.u64.wrap n = n := by rw [IntKind.wrap_u64]; omega
theorem and63 (b : Int) : Go.bits .and .u64 (IntKind.u64.wrap b) 63 = b % 64 := by
  rw [IntKind.wrap_u64]
  have h0 : 0 ≤ b % 18446744073709551616 := Int.emod_nonneg _ (by decide)
  have h1 : b % 18446744073709551616 < 18446744073709551616 := Int.emod_lt_of_pos _ (by decide)
  have := bits_mask .u64 64 (by decide) (fun n a c => u64_id a (by simpa using c)) 6 (by decide) (b % 18446744073709551616) h0 (by simpa using h1)
  rw [show (63 : Int) = 2 ^ 6 - 1 by decide, this]
  omega
theorem and63_nonneg (b : Int) : 0 ≤ Go.bits .and .u64 (IntKind.u64.wrap b) 63 := by rw [and63]; omega
/-- What an operation of two comes to. -/
def e2 (op a b : Int) : Int × Option Int :=
  if op = 3 then (wrap64 (a + b), none) else if op = 4 then (wrap64 (a - b), none) else if op = 5 then (wrap64 (a * b), none)
  else if op = 6 then (Go.bits .and .i64 a b, none) else if op = 7 then (Go.bits .or .i64 a b, none) else if op = 8 then (Go.bits .xor .i64 a b, none)
  else if op = 9 then (shl .i64 a (b % 64), none) else if op = 10 then (shr .i64 a (b % 64), none)
  else if op = 12 then ((if a < b then 1 else 0), none) else if op = 13 then ((if a = b then 1 else 0), none)
  else if b = 0 then (0, some 7) else (wrap64 (Int.tdiv a b), none)
/-- What any operation comes to. -/
def ev (op : Int) (l : List Int) : Int × Option Int :=
  if op = 2 ∨ op = 14 then (match l with | [a] => if op = 2 then (a, none) else (wrap64 (1 - a), none) | _ => (0, some 1))
  else if 3 ≤ op ∧ op ≤ 13 then (match l with | [a, b] => e2 op a b | _ => (0, some 1))
  else (0, some 1)
def arity (op : Int) : Int := if op = 2 ∨ op = 14 then 1 else if 3 ≤ op ∧ op ≤ 13 then 2 else 0
def known (op : Int) : Bool := if op = 2 ∨ op = 14 then true else if 3 ≤ op ∧ op ≤ 13 then true else false
theorem args_eq (k : Nat) (op : Int) : arith_Args.f (k + 1) op = some (arity op, known op) := by
  unfold arith_Args.f arity known
  simp only [arith_Args.j0]
  by_cases h2 : op = 2
  · simp [h2]
  · by_cases h14 : op = 14
    · simp [h14]
    · by_cases h3 : 3 ≤ op
      · by_cases h13 : op ≤ 13
        · simp [h2, h14, h3, h13]
        · simp [h2, h14, h3, h13]
      · simp [h2, h14, h3]
theorem bit_eq (b : Bool) : arith_bit.f b = some (if b = true then 1 else 0) := by cases b <;> rfl
theorem len3 (a b c : Int) (l : List Int) (n : Int) (h : n = 1 ∨ n = 2) : (((a :: b :: c :: l).length : Int) != n) = true := by
  simp only [bne_iff_ne, ne_eq, List.length_cons]; omega
theorem ops_all (op : Int) : op = 2 ∨ op = 14 ∨ op = 3 ∨ op = 4 ∨ op = 5 ∨ op = 6 ∨ op = 7 ∨ op = 8 ∨ op = 9 ∨ op = 10 ∨ op = 11 ∨ op = 12 ∨ op = 13 ∨ op < 2 ∨ 14 < op := by omega
theorem j0_bad (k : Nat) (op : Int) (l : List Int) : arith_Eval.j0 (k + 1) op l true = some (0, some 1) := by simp [arith_Eval.j0]
theorem eval_eq (k : Nat) (op : Int) (l : List Int) : arith_Eval.f (k + 1) op l = some (ev op l) := by
  unfold arith_Eval.f
  rw [args_eq, Option.bind_some]
  rcases ops_all op with rfl | rfl | rfl | rfl | rfl | rfl | rfl | rfl | rfl | rfl | rfl | rfl | rfl | h | h
  · rcases l with _ | ⟨a, _ | ⟨b, _ | ⟨c, l⟩⟩⟩ <;> simp [arith_Eval.j0, known, arity, ev, rd] <;> omega
  · rcases l with _ | ⟨a, _ | ⟨b, _ | ⟨c, l⟩⟩⟩ <;> simp [arith_Eval.j0, known, arity, ev, rd] <;> omega
  · rcases l with _ | ⟨a, _ | ⟨b, _ | ⟨c, l⟩⟩⟩ <;> simp [arith_Eval.j0, known, arity, ev, e2, rd] <;> omega
  · rcases l with _ | ⟨a, _ | ⟨b, _ | ⟨c, l⟩⟩⟩ <;> simp [arith_Eval.j0, known, arity, ev, e2, rd] <;> omega
  · rcases l with _ | ⟨a, _ | ⟨b, _ | ⟨c, l⟩⟩⟩ <;> simp [arith_Eval.j0, known, arity, ev, e2, rd] <;> omega
  · rcases l with _ | ⟨a, _ | ⟨b, _ | ⟨c, l⟩⟩⟩ <;> simp [arith_Eval.j0, known, arity, ev, e2, rd] <;> omega
  · rcases l with _ | ⟨a, _ | ⟨b, _ | ⟨c, l⟩⟩⟩ <;> simp [arith_Eval.j0, known, arity, ev, e2, rd] <;> omega
  · rcases l with _ | ⟨a, _ | ⟨b, _ | ⟨c, l⟩⟩⟩ <;> simp [arith_Eval.j0, known, arity, ev, e2, rd] <;> omega
  · rcases l with _ | ⟨a, _ | ⟨b, _ | ⟨c, l⟩⟩⟩ <;> simp [arith_Eval.j0, known, arity, ev, e2, rd, and63] <;> omega
  · rcases l with _ | ⟨a, _ | ⟨b, _ | ⟨c, l⟩⟩⟩ <;> simp [arith_Eval.j0, known, arity, ev, e2, rd, and63] <;> omega
  · rcases l with _ | ⟨a, _ | ⟨b, _ | ⟨c, l⟩⟩⟩
    · simp [arith_Eval.j0, known, arity, ev]
    · simp [arith_Eval.j0, known, arity, ev]
    · by_cases hb : b = 0
      · simp [arith_Eval.j0, known, arity, ev, e2, rd, hb]
      · simp [arith_Eval.j0, known, arity, ev, e2, rd, hb]
    · simp [arith_Eval.j0, known, arity, ev]; omega
  · rcases l with _ | ⟨a, _ | ⟨b, _ | ⟨c, l⟩⟩⟩ <;> simp [arith_Eval.j0, known, arity, ev, e2, rd, bit_eq] <;> omega
  · rcases l with _ | ⟨a, _ | ⟨b, _ | ⟨c, l⟩⟩⟩ <;> simp [arith_Eval.j0, known, arity, ev, e2, rd, bit_eq] <;> omega
  · have e1 : ¬ (op = 2 ∨ op = 14) := by omega
    have e2 : ¬ (3 ≤ op ∧ op ≤ 13) := by omega
    simp only [known, arity, ev, if_neg e1, if_neg e2]
    simp [j0_bad]
  · have e1 : ¬ (op = 2 ∨ op = 14) := by omega
    have e2 : ¬ (3 ≤ op ∧ op ≤ 13) := by omega
    simp only [known, arity, ev, if_neg e1, if_neg e2]
    simp [j0_bad]
theorem up_eq (k : Nat) : fettlelaw01_up.f (k + 1) = some true := by
  unfold fettlelaw01_up.f
  rw [eval_eq, Option.bind_some, eval_eq, Option.bind_some]
  have h1 : ev 11 [-7, 2] = (-3, none) := by
    show (wrap64 (Int.tdiv (-7) 2), (none : Option Int)) = _
    rw [w64_id (by decide) (by decide)]; rfl
  have h2 : ev 11 [1, 0] = (0, some 7) := rfl
  rw [h1, h2]; rfl
theorem ofInt_wrap (n : Int) : BitVec.ofInt 64 (IntKind.i64.wrap n) = BitVec.ofInt 64 n := by
  apply BitVec.eq_of_toNat_eq
  rw [BitVec.toNat_ofInt, BitVec.toNat_ofInt, IntKind.wrap_i64]
  congr 1
  have : ((2 ^ 64 : Nat) : Int) = 18446744073709551616 := by decide
  rw [this]; omega
theorem ofInt_nat (x : BitVec 64) : BitVec.ofInt 64 (x.toNat : Int) = x := by rw [BitVec.ofInt_natCast, BitVec.ofNat_toNat]; simp
theorem bits_and_assoc (a b c : Int) : Go.bits .and .i64 (Go.bits .and .i64 a b) c = Go.bits .and .i64 a (Go.bits .and .i64 b c) := by
  show IntKind.i64.wrap ((BitVec.ofInt 64 (IntKind.i64.wrap ((BitVec.ofInt 64 a &&& BitVec.ofInt 64 b).toNat : Int)) &&& BitVec.ofInt 64 c).toNat : Int) = IntKind.i64.wrap ((BitVec.ofInt 64 a &&& BitVec.ofInt 64 (IntKind.i64.wrap ((BitVec.ofInt 64 b &&& BitVec.ofInt 64 c).toNat : Int))).toNat : Int)
  rw [ofInt_wrap, ofInt_wrap, ofInt_nat, ofInt_nat, BitVec.and_assoc]
theorem bits_or_assoc (a b c : Int) : Go.bits .or .i64 (Go.bits .or .i64 a b) c = Go.bits .or .i64 a (Go.bits .or .i64 b c) := by
  show IntKind.i64.wrap ((BitVec.ofInt 64 (IntKind.i64.wrap ((BitVec.ofInt 64 a ||| BitVec.ofInt 64 b).toNat : Int)) ||| BitVec.ofInt 64 c).toNat : Int) = IntKind.i64.wrap ((BitVec.ofInt 64 a ||| BitVec.ofInt 64 (IntKind.i64.wrap ((BitVec.ofInt 64 b ||| BitVec.ofInt 64 c).toNat : Int))).toNat : Int)
  rw [ofInt_wrap, ofInt_wrap, ofInt_nat, ofInt_nat, BitVec.or_assoc]
theorem bits_xor_assoc (a b c : Int) : Go.bits .xor .i64 (Go.bits .xor .i64 a b) c = Go.bits .xor .i64 a (Go.bits .xor .i64 b c) := by
  show IntKind.i64.wrap ((BitVec.ofInt 64 (IntKind.i64.wrap ((BitVec.ofInt 64 a ^^^ BitVec.ofInt 64 b).toNat : Int)) ^^^ BitVec.ofInt 64 c).toNat : Int) = IntKind.i64.wrap ((BitVec.ofInt 64 a ^^^ BitVec.ofInt 64 (IntKind.i64.wrap ((BitVec.ofInt 64 b ^^^ BitVec.ofInt 64 c).toNat : Int))).toNat : Int)
  rw [ofInt_wrap, ofInt_wrap, ofInt_nat, ofInt_nat, BitVec.xor_assoc]
theorem w64_congr {m n : Int} (h : m % 18446744073709551616 = n % 18446744073709551616) : wrap64 m = wrap64 n := by rw [w64, w64]; omega
theorem w64_mod (n : Int) : wrap64 n % 18446744073709551616 = n % 18446744073709551616 := by rw [w64]; omega
theorem w64_add (a b c : Int) : wrap64 (wrap64 (a + b) + c) = wrap64 (a + wrap64 (b + c)) := by simp only [w64]; omega
theorem w64_mul (a b c : Int) : wrap64 (wrap64 (a * b) * c) = wrap64 (a * wrap64 (b * c)) := by
  apply w64_congr
  rw [Int.mul_emod, w64_mod, ← Int.mul_emod, Int.mul_emod a, w64_mod, ← Int.mul_emod, Int.mul_assoc]
theorem w64_dist (a b c : Int) : wrap64 (a * wrap64 (b + c)) = wrap64 (wrap64 (a * b) + wrap64 (a * c)) := by
  apply w64_congr
  rw [Int.mul_emod, w64_mod, ← Int.mul_emod, Int.add_emod, w64_mod, w64_mod, ← Int.add_emod, Int.mul_add]
section
variable (a b c : Int) (k : Nat)
theorem g3 : fettlelaw01_ArithGroups.l0 (k + 2) a b c true 3 = fettlelaw01_ArithGroups.l0 (k + 1) a b c true 4 := by
  conv => lhs; rw [fettlelaw01_ArithGroups.l0]
  have e : wrap64 4 = 4 := w64_id (by decide) (by decide)
  simp [eval_eq, ev, e2, arith_Same.f, w64_add, e]
theorem g4 : fettlelaw01_ArithGroups.l0 (k + 2) a b c true 4 = fettlelaw01_ArithGroups.l0 (k + 1) a b c true 5 := by
  conv => lhs; rw [fettlelaw01_ArithGroups.l0]
  have e : wrap64 5 = 5 := w64_id (by decide) (by decide)
  simp [arith_Same.f, e]
theorem g5 : fettlelaw01_ArithGroups.l0 (k + 2) a b c true 5 = fettlelaw01_ArithGroups.l0 (k + 1) a b c true 6 := by
  conv => lhs; rw [fettlelaw01_ArithGroups.l0]
  have e : wrap64 6 = 6 := w64_id (by decide) (by decide)
  simp [eval_eq, ev, e2, arith_Same.f, w64_mul, e]
theorem g6 : fettlelaw01_ArithGroups.l0 (k + 2) a b c true 6 = fettlelaw01_ArithGroups.l0 (k + 1) a b c true 7 := by
  conv => lhs; rw [fettlelaw01_ArithGroups.l0]
  have e : wrap64 7 = 7 := w64_id (by decide) (by decide)
  simp [eval_eq, ev, e2, arith_Same.f, bits_and_assoc, e]
theorem g7 : fettlelaw01_ArithGroups.l0 (k + 2) a b c true 7 = fettlelaw01_ArithGroups.l0 (k + 1) a b c true 8 := by
  conv => lhs; rw [fettlelaw01_ArithGroups.l0]
  have e : wrap64 8 = 8 := w64_id (by decide) (by decide)
  simp [eval_eq, ev, e2, arith_Same.f, bits_or_assoc, e]
theorem g8 : fettlelaw01_ArithGroups.l0 (k + 2) a b c true 8 = fettlelaw01_ArithGroups.l0 (k + 1) a b c true 9 := by
  conv => lhs; rw [fettlelaw01_ArithGroups.l0]
  have e : wrap64 9 = 9 := w64_id (by decide) (by decide)
  simp [eval_eq, ev, e2, arith_Same.f, bits_xor_assoc, e]
theorem g9 : fettlelaw01_ArithGroups.l0 (k + 2) a b c true 9 = some true := by
  rw [fettlelaw01_ArithGroups.l0]
  simp [eval_eq, ev, e2, w64_dist]
end
theorem ArithGroups : fettlelaw01_ArithGroups.Pure := by
  intro a b c _ _ _
  refine ⟨10, ?_⟩
  unfold fettlelaw01_ArithGroups.f
  rw [up_eq 9, Option.bind_some, g3 a b c 8, g4 a b c 7, g5 a b c 6, g6 a b c 5, g7 a b c 4, g8 a b c 3, g9 a b c 2]
end Go.Proofs.Ytenlbbookiopiaa.Pure
