/- What any operation makes of any list of int64, or what is amiss, is the reference's answer. Conditions: none beyond the statement's own. -/
import Derived.Test.YtenlbbookiopiaaPArithEvalsx4
import Derived.Laws.BitsAllLaws
import Derived.Laws.Bits64
namespace Go.Proofs.Ytenlbbookiopiaa.Pure
open Go.RowKit Go.Proofs.Ytenlbbookiopiaa.PArithEvals Go.Proofs.YtenlbbookiopiaaW.PrintWords Go.Proofs.YtenlbbookiopiaaW.PrintLast Go.Proofs.YtenlbbookiopiaaW.PrintMore
theorem w64 (n : Int) : wrap64 n = (n + 9223372036854775808) % 18446744073709551616 - 9223372036854775808 := by unfold wrap64; rfl
theorem w64_id {n : Int} (h0 : -9223372036854775808 ≤ n) (h1 : n ≤ 9223372036854775807) : wrap64 n = n := by rw [w64]; omega
theorem u64_id {n : Int} (h0 : 0 ≤ n) (h1 : n < 18446744073709551616) : IntKind.u64.wrap n = n := by rw [IntKind.wrap_u64]; omega
theorem and63 (b : Int) : Go.bits .and .u64 (IntKind.u64.wrap b) 63 = b % 64 := by
  rw [IntKind.wrap_u64]
  have h0 : 0 ≤ b % 18446744073709551616 := Int.emod_nonneg _ (by decide)
  have h1 : b % 18446744073709551616 < 18446744073709551616 := Int.emod_lt_of_pos _ (by decide)
  have := bits_mask .u64 64 (by decide) (fun n a c => u64_id a (by simpa using c)) 6 (by decide) (b % 18446744073709551616) h0 (by simpa using h1)
  rw [show (63 : Int) = 2 ^ 6 - 1 by decide, this]
  omega
theorem and63_nonneg (b : Int) : 0 ≤ Go.bits .and .u64 (IntKind.u64.wrap b) 63 := by rw [and63]; omega
/-- What an operation of two comes to. -/
def e2 (op a b : Int) : Int × Option Int :=
  if op = 3 then (wrap64 (a + b), none) else if op = 4 then (wrap64 (a - b), none) else if op = 5 then (wrap64 (a * b), none)
  else if op = 6 then (Go.bits .and .i64 a b, none) else if op = 7 then (Go.bits .or .i64 a b, none) else if op = 8 then (Go.bits .xor .i64 a b, none)
  else if op = 9 then (shl .i64 a (b % 64), none) else if op = 10 then (shr .i64 a (b % 64), none)
  else if op = 12 then ((if a < b then 1 else 0), none) else if op = 13 then ((if a = b then 1 else 0), none)
  else if b = 0 then (0, some 7) else (wrap64 (Int.tdiv a b), none)
/-- What any operation comes to. -/
def ev (op : Int) (l : List Int) : Int × Option Int :=
  if op = 2 ∨ op = 14 then (match l with | [a] => if op = 2 then (a, none) else (wrap64 (1 - a), none) | _ => (0, some 1))
  else if 3 ≤ op ∧ op ≤ 13 then (match l with | [a, b] => e2 op a b | _ => (0, some 1))
  else (0, some 1)
def arity (op : Int) : Int := if op = 2 ∨ op = 14 then 1 else if 3 ≤ op ∧ op ≤ 13 then 2 else 0
def known (op : Int) : Bool := if op = 2 ∨ op = 14 then true else if 3 ≤ op ∧ op ≤ 13 then true else false
theorem args_eq (k : Nat) (op : Int) : arith_Args.f (k + 1) op = some (arity op, known op) := by
  unfold arith_Args.f arity known
  simp only [arith_Args.j0]
  by_cases h2 : op = 2
  · simp [h2]
  · by_cases h14 : op = 14
    · simp [h14]
    · by_cases h3 : 3 ≤ op
      · by_cases h13 : op ≤ 13
        · simp [h2, h14, h3, h13]
        · simp [h2, h14, h3, h13]
      · simp [h2, h14, h3]
theorem bit_eq (b : Bool) : arith_bit.f b = some (if b = true then 1 else 0) := by cases b <;> rfl
theorem len3 (a b c : Int) (l : List Int) (n : Int) (h : n = 1 ∨ n = 2) : (((a :: b :: c :: l).length : Int) != n) = true := by
  simp only [bne_iff_ne, ne_eq, List.length_cons]; omega
theorem ops_all (op : Int) : op = 2 ∨ op = 14 ∨ op = 3 ∨ op = 4 ∨ op = 5 ∨ op = 6 ∨ op = 7 ∨ op = 8 ∨ op = 9 ∨ op = 10 ∨ op = 11 ∨ op = 12 ∨ op = 13 ∨ op < 2 ∨ 14 < op := by omega
theorem j0_bad (k : Nat) (op : Int) (l : List Int) : arith_Eval.j0 (k + 1) op l true = some (0, some 1) := by simp [arith_Eval.j0]
theorem eval_eq (k : Nat) (op : Int) (l : List Int) : arith_Eval.f (k + 1) op l = some (ev op l) := by
  unfold arith_Eval.f
  rw [args_eq, Option.bind_some]
  rcases ops_all op with rfl | rfl | rfl | rfl | rfl | rfl | rfl | rfl | rfl | rfl | rfl | rfl | rfl | h | h
  · rcases l with _ | ⟨a, _ | ⟨b, _ | ⟨c, l⟩⟩⟩ <;> simp [arith_Eval.j0, known, arity, ev, rd] <;> omega
  · rcases l with _ | ⟨a, _ | ⟨b, _ | ⟨c, l⟩⟩⟩ <;> simp [arith_Eval.j0, known, arity, ev, rd] <;> omega
  · rcases l with _ | ⟨a, _ | ⟨b, _ | ⟨c, l⟩⟩⟩ <;> simp [arith_Eval.j0, known, arity, ev, e2, rd] <;> omega
  · rcases l with _ | ⟨a, _ | ⟨b, _ | ⟨c, l⟩⟩⟩ <;> simp [arith_Eval.j0, known, arity, ev, e2, rd] <;> omega
  · rcases l with _ | ⟨a, _ | ⟨b, _ | ⟨c, l⟩⟩⟩ <;> simp [arith_Eval.j0, known, arity, ev, e2, rd] <;> omega
  · rcases l with _ | ⟨a, _ | ⟨b, _ | ⟨c, l⟩⟩⟩ <;> simp [arith_Eval.j0, known, arity, ev, e2, rd] <;> omega
  · rcases l with _ | ⟨a, _ | ⟨b, _ | ⟨c, l⟩⟩⟩ <;> simp [arith_Eval.j0, known, arity, ev, e2, rd] <;> omega
  · rcases l with _ | ⟨a, _ | ⟨b, _ | ⟨c, l⟩⟩⟩ <;> simp [arith_Eval.j0, known, arity, ev, e2, rd] <;> omega
  · rcases l with _ | ⟨a, _ | ⟨b, _ | ⟨c, l⟩⟩⟩ <;> simp [arith_Eval.j0, known, arity, ev, e2, rd, and63] <;> omega
  · rcases l with _ | ⟨a, _ | ⟨b, _ | ⟨c, l⟩⟩⟩ <;> simp [arith_Eval.j0, known, arity, ev, e2, rd, and63] <;> omega
  · rcases l with _ | ⟨a, _ | ⟨b, _ | ⟨c, l⟩⟩⟩
    · simp [arith_Eval.j0, known, arity, ev]
    · simp [arith_Eval.j0, known, arity, ev]
    · by_cases hb : b = 0
      · simp [arith_Eval.j0, known, arity, ev, e2, rd, hb]
      · simp [arith_Eval.j0, known, arity, ev, e2, rd, hb]
    · simp [arith_Eval.j0, known, arity, ev]; omega
  · rcases l with _ | ⟨a, _ | ⟨b, _ | ⟨c, l⟩⟩⟩ <;> simp [arith_Eval.j0, known, arity, ev, e2, rd, bit_eq] <;> omega
  · rcases l with _ | ⟨a, _ | ⟨b, _ | ⟨c, l⟩⟩⟩ <;> simp [arith_Eval.j0, known, arity, ev, e2, rd, bit_eq] <;> omega
  · have e1 : ¬ (op = 2 ∨ op = 14) := by omega
    have e2 : ¬ (3 ≤ op ∧ op ≤ 13) := by omega
    simp only [known, arity, ev, if_neg e1, if_neg e2]
    simp [j0_bad]
  · have e1 : ¬ (op = 2 ∨ op = 14) := by omega
    have e2 : ¬ (3 ≤ op ∧ op ≤ 13) := by omega
    simp only [known, arity, ev, if_neg e1, if_neg e2]
    simp [j0_bad]
theorem up_eq (k : Nat) : fettlelaw01_up.f (k + 1) = some true := by
  unfold fettlelaw01_up.f
  rw [eval_eq, Option.bind_some, eval_eq, Option.bind_some]
  have h1 : ev 11 [-7, 2] = (-3, none) := by
    show (wrap64 (Int.tdiv (-7) 2), (none : Option Int)) = _
    rw [w64_id (by decide) (by decide)]; rfl
  have h2 : ev 11 [1, 0] = (0, some 7) := rfl
  rw [h1, h2]; rfl
theorem refArgs_eq (k : Nat) (op : Int) : fettleref01_Args.f (k + 1) op = some (if op = 2 ∨ op = 14 then 1 else if 3 ≤ op ∧ op ≤ 13 then 2 else -1) := by
  unfold fettleref01_Args.f
  simp only [fettleref01_Args.j0]
  rcases ops_all op with rfl | rfl | rfl | rfl | rfl | rfl | rfl | rfl | rfl | rfl | rfl | rfl | rfl | h | h
  all_goals first
    | decide
    | (have e1 : ¬ (op = 2 ∨ op = 14) := by omega
       have e2 : ¬ (3 ≤ op ∧ op ≤ 13) := by omega
       have g2 : ¬ op = 2 := by omega
       have g3 : ¬ op = 3 := by omega
       have g4 : ¬ op = 4 := by omega
       have g5 : ¬ op = 5 := by omega
       have g6 : ¬ op = 6 := by omega
       have g7 : ¬ op = 7 := by omega
       have g8 : ¬ op = 8 := by omega
       have g9 : ¬ op = 9 := by omega
       have g10 : ¬ op = 10 := by omega
       have g11 : ¬ op = 11 := by omega
       have g12 : ¬ op = 12 := by omega
       have g13 : ¬ op = 13 := by omega
       have g14 : (op == 14) = false := by simp; omega
       rw [if_neg e1, if_neg e2, if_neg g2, g14]
       simp [g3, g4, g5, g6, g7, g8, g9, g10, g11, g12, g13])
theorem w64_congr {m n : Int} (h : m % 18446744073709551616 = n % 18446744073709551616) : wrap64 m = wrap64 n := by rw [w64, w64]; omega
theorem w64_mod (n : Int) : wrap64 n % 18446744073709551616 = n % 18446744073709551616 := by rw [w64]; omega
theorem wf64 {a : Int} (h : (Lit.int .i64 a).wf = true) : -9223372036854775808 ≤ a ∧ a ≤ 9223372036854775807 := by
  simpa [Lit.wf, IntKind.min, IntKind.max, IntKind.signed, IntKind.bits] using h
theorem shl_nat (x i : Nat) (hi : i ≤ 64) : shl .u64 (x : Int) (i : Int) = ((x * 2 ^ i % 18446744073709551616 : Nat) : Int) := by
  unfold shl
  rw [IntKind.wrap_u64, show min (i : Int).toNat IntKind.u64.bits = i by rw [Int.toNat_natCast]; exact Nat.min_eq_left hi]
  simp
theorem shr_nat (x i : Nat) (hi : i ≤ 64) : shr .u64 (x : Int) (i : Int) = ((x / 2 ^ i : Nat) : Int) := by
  unfold shr
  rw [show min (i : Int).toNat IntKind.u64.bits = i by rw [Int.toNat_natCast]; exact Nat.min_eq_left hi]
  simp
theorem bit_nat (x i : Nat) (hx : x < 18446744073709551616) (hi : i ≤ 64) : fettleref01_bit.f (x : Int) (i : Int) = some ((x / 2 ^ i % 2 : Nat) : Int) := by
  unfold fettleref01_bit.f
  rw [if_pos (by omega), shr_nat x i hi]
  have h := u64_and_nat (x / 2 ^ i) 1 (Nat.lt_of_le_of_lt (Nat.div_le_self _ _) hx) (by decide)
  rw [nat_mask1] at h
  rw [← h]; rfl
theorem bit63 (x : Nat) (hx : x < 18446744073709551616) : fettleref01_bit.f (x : Int) 63 = some ((x / 9223372036854775808 : Nat) : Int) := by
  have h := bit_nat x 63 hx (by decide)
  have e : x / 2 ^ 63 % 2 = x / 9223372036854775808 := by omega
  rw [e] at h; exact h
theorem nat_or_bit (out i b : Nat) (ho : out < 2 ^ i) : out ||| b * 2 ^ i = out + b * 2 ^ i := by
  rw [Nat.or_comm, nat_join i _ _ (Nat.mul_mod_left _ _) ho, Nat.add_comm]
theorem pow64 {i : Nat} (hi : i < 64) : 2 ^ i * 2 ≤ 18446744073709551616 := by
  have := Nat.pow_le_pow_right (n := 2) (by decide) (show i + 1 ≤ 64 by omega)
  rw [Nat.pow_succ] at this; simpa using this
theorem or_shl (out i b : Nat) (hi : i < 64) (ho : out < 2 ^ i) (hb : b ≤ 1) : Go.bits .or .u64 (out : Int) (shl .u64 (b : Int) (i : Int)) = ((out + b * 2 ^ i : Nat) : Int) := by
  have hp := pow64 hi
  have hbp : b * 2 ^ i ≤ 2 ^ i := by
    have := Nat.mul_le_mul_right (2 ^ i) hb
    omega
  have hpp : 0 < 2 ^ i := Nat.two_pow_pos i
  rw [shl_nat _ _ (by omega), Nat.mod_eq_of_lt (by omega), u64_or_nat _ _ (by omega) (by omega), nat_or_bit _ _ _ ho]
theorem u64_nat (n : Nat) (h : n < 18446744073709551616) : IntKind.u64.wrap (n : Int) = (n : Int) := u64_id (by omega) (by omega)
theorem add_l0 (d : Nat) : ∀ (k X Y c out i : Nat), X < 18446744073709551616 → Y < 18446744073709551616 → c ≤ 1 → out < 2 ^ i → i ≤ 64 → 64 - i = d → d < k →
    fettleref01_add.l0 k (X : Int) (Y : Int) (c : Int) (out : Int) (i : Int) = some (((out + 2 ^ i * (X / 2 ^ i + Y / 2 ^ i + c)) % 18446744073709551616 : Nat) : Int) := by
  induction d with
  | zero =>
    intro k X Y c out i hX hY hc ho hi hd hk
    obtain ⟨k, rfl⟩ : ∃ m, k = m + 1 := ⟨k - 1, by omega⟩
    obtain rfl : i = 64 := by omega
    rw [fettleref01_add.l0, if_neg (by omega)]
    congr 2
    rw [show (2 : Nat) ^ 64 = 18446744073709551616 by decide, Nat.add_mul_mod_self_left, Nat.mod_eq_of_lt (by simpa using ho)]
  | succ d ih =>
    intro k X Y c out i hX hY hc ho hi hd hk
    obtain ⟨k, rfl⟩ : ∃ m, k = m + 1 := ⟨k - 1, by omega⟩
    have hp := pow64 (i := i) (by omega)
    rw [fettleref01_add.l0, if_pos (by omega), bit_nat X i hX hi, Option.bind_some, bit_nat Y i hY hi, Option.bind_some, if_pos (by omega)]
    have hs : IntKind.u64.wrap (IntKind.u64.wrap (((X / 2 ^ i % 2 : Nat) : Int) + ((Y / 2 ^ i % 2 : Nat) : Int)) + (c : Int)) = ((X / 2 ^ i % 2 + Y / 2 ^ i % 2 + c : Nat) : Int) := by
      have e1 : IntKind.u64.wrap (((X / 2 ^ i % 2 : Nat) : Int) + ((Y / 2 ^ i % 2 : Nat) : Int)) = ((X / 2 ^ i % 2 + Y / 2 ^ i % 2 : Nat) : Int) := by rw [u64_id (by omega) (by omega)]; omega
      rw [e1, u64_id (by omega) (by omega)]; omega
    rw [hs]
    have h1 : Int.tdiv ((X / 2 ^ i % 2 + Y / 2 ^ i % 2 + c : Nat) : Int) 2 = (((X / 2 ^ i % 2 + Y / 2 ^ i % 2 + c) / 2 : Nat) : Int) := rfl
    have h2 : Int.tmod ((X / 2 ^ i % 2 + Y / 2 ^ i % 2 + c : Nat) : Int) 2 = (((X / 2 ^ i % 2 + Y / 2 ^ i % 2 + c) % 2 : Nat) : Int) := rfl
    rw [h1, h2, u64_nat _ (by omega), or_shl _ _ _ (by omega) ho (by omega), show wrap64 ((i : Int) + 1) = ((i + 1 : Nat) : Int) by rw [w64]; omega]
    have hq : (X / 2 ^ i % 2 + Y / 2 ^ i % 2 + c) % 2 * 2 ^ i ≤ 1 * 2 ^ i := Nat.mul_le_mul_right _ (by omega)
    rw [ih k X Y _ _ (i + 1) hX hY (by omega) (by rw [Nat.pow_succ]; omega) (by omega) (by omega) (by omega)]
    congr 2
    have ex : X / 2 ^ (i + 1) = X / 2 ^ i / 2 := by rw [Nat.pow_succ, Nat.div_div_eq_div_mul]
    have ey : Y / 2 ^ (i + 1) = Y / 2 ^ i / 2 := by rw [Nat.pow_succ, Nat.div_div_eq_div_mul]
    rw [ex, ey, Nat.pow_succ]
    generalize X / 2 ^ i = x
    generalize Y / 2 ^ i = y
    have e : x + y + c = (x % 2 + y % 2 + c) % 2 + 2 * (x / 2 + y / 2 + (x % 2 + y % 2 + c) / 2) := by omega
    generalize (x % 2 + y % 2 + c) % 2 = p at *
    generalize x / 2 + y / 2 + (x % 2 + y % 2 + c) / 2 = q at *
    rw [e, Nat.mul_add, Nat.mul_comm (2 ^ i) p, Nat.mul_assoc (2 ^ i) 2 q, Nat.add_assoc]
theorem add_nat (k X Y c : Nat) (hX : X < 18446744073709551616) (hY : Y < 18446744073709551616) (hc : c ≤ 1) (hk : 64 < k) :
    fettleref01_add.f k (X : Int) (Y : Int) (c : Int) = some (((X + Y + c) % 18446744073709551616 : Nat) : Int) := by
  unfold fettleref01_add.f
  have h := add_l0 64 k X Y c 0 0 hX hY hc (by decide) (by decide) rfl hk
  simpa using h
theorem not_nat (X : Nat) (hX : X < 18446744073709551616) : Go.bits .xor .u64 18446744073709551615 (X : Int) = ((18446744073709551615 - X : Nat) : Int) := by
  have h := u64_xor_nat 18446744073709551615 X (by decide) hX
  have e : 18446744073709551615 ^^^ X = 18446744073709551615 - X := by
    have := Nat.xor_comm X (2 ^ 64 - 1)
    have h2 : (BitVec.ofNat 64 X).toNat = X := by rw [BitVec.toNat_ofNat]; exact Nat.mod_eq_of_lt (by simpa using hX)
    have h3 := BitVec.toNat_not (x := BitVec.ofNat 64 X)
    have h4 : ~~~ (BitVec.ofNat 64 X) = BitVec.allOnes 64 ^^^ BitVec.ofNat 64 X := by rw [BitVec.allOnes_xor]
    rw [h4, BitVec.toNat_xor, BitVec.toNat_allOnes, h2] at h3
    simpa using h3
  rw [e] at h; exact h
theorem negative_nat (k X : Nat) (hX : X < 18446744073709551616) (hk : 64 < k) : fettleref01_negative.f k (X : Int) = some (((18446744073709551616 - X) % 18446744073709551616 : Nat) : Int) := by
  unfold fettleref01_negative.f
  rw [not_nat X hX]
  have h := add_nat k (18446744073709551615 - X) 0 1 (by omega) (by decide) (by decide) hk
  rw [show ((0 : Nat) : Int) = 0 by rfl, show ((1 : Nat) : Int) = 1 by rfl] at h
  rw [h, Option.bind_some]
  congr 3
  omega
theorem mul_l0 (d : Nat) : ∀ (k X Y i : Nat), X < 18446744073709551616 → Y < 18446744073709551616 → i ≤ 64 → 64 - i = d → d + 65 < k →
    fettleref01_two.l0 k (X : Int) (Y : Int) ((X * (Y % 2 ^ i) % 18446744073709551616 : Nat) : Int) (i : Int) = some (wrap64 ((X * Y % 18446744073709551616 : Nat) : Int), true) := by
  induction d with
  | zero =>
    intro k X Y i hX hY hi hd hk
    obtain ⟨k, rfl⟩ : ∃ m, k = m + 1 := ⟨k - 1, by omega⟩
    obtain rfl : i = 64 := by omega
    rw [fettleref01_two.l0, if_neg (by omega), Nat.mod_eq_of_lt (show Y < 2 ^ 64 by simpa using hY)]
  | succ d ih =>
    intro k X Y i hX hY hi hd hk
    obtain ⟨k, rfl⟩ : ∃ m, k = m + 1 := ⟨k - 1, by omega⟩
    have h0 : (0 : Int) ≤ (i : Int) := Int.natCast_nonneg i
    have hk64 : 64 < k := by omega
    have hI := ih k X Y (i + 1) hX hY (by omega) (by omega) (by omega)
    have hm : Y % 2 ^ (i + 1) = Y % 2 ^ i + 2 ^ i * (Y / 2 ^ i % 2) := by rw [Nat.pow_succ, Nat.mod_mul]
    rw [fettleref01_two.l0, if_pos (by omega), bit_nat Y i hY hi, Option.bind_some]
    have nx : wrap64 ((i : Int) + 1) = ((i + 1 : Nat) : Int) := by rw [w64]; omega
    rcases Nat.mod_two_eq_zero_or_one (Y / 2 ^ i) with hb | hb
    · rw [hb, if_neg (by decide), nx]
      rw [hm, hb, Nat.mul_zero, Nat.add_zero] at hI
      exact hI
    · rw [hb, if_pos (by decide), if_pos h0, shl_nat _ _ hi]
      have h := add_nat k (X * (Y % 2 ^ i) % 18446744073709551616) (X * 2 ^ i % 18446744073709551616) 0 (Nat.mod_lt _ (by decide)) (Nat.mod_lt _ (by decide)) (by decide) hk64
      rw [show ((0 : Nat) : Int) = 0 by rfl] at h
      rw [h, Option.bind_some, nx]
      rw [hm, hb, Nat.mul_one, Nat.mul_add] at hI
      rw [Nat.add_zero, ← Nat.add_mod]
      exact hI
theorem mod_bit (Z i : Nat) : Z % 2 ^ (i + 1) = Z % 2 ^ i + Z / 2 ^ i % 2 * 2 ^ i := by rw [Nat.pow_succ, Nat.mod_mul, Nat.mul_comm]
theorem bit_and (X Y i : Nat) : (X &&& Y) / 2 ^ i % 2 = if X / 2 ^ i % 2 + Y / 2 ^ i % 2 = 2 then 1 else 0 := by
  have h := Nat.testBit_and X Y i
  simp only [Nat.testBit_eq_decide_div_mod_eq] at h
  have a := Nat.mod_two_eq_zero_or_one (X / 2 ^ i)
  have b := Nat.mod_two_eq_zero_or_one (Y / 2 ^ i)
  have c := Nat.mod_two_eq_zero_or_one ((X &&& Y) / 2 ^ i)
  rcases a with a | a <;> rcases b with b | b <;> rcases c with c | c <;> simp [a, b, c] at h ⊢
theorem bit_or (X Y i : Nat) : (X ||| Y) / 2 ^ i % 2 = if X / 2 ^ i % 2 + Y / 2 ^ i % 2 > 0 then 1 else 0 := by
  have h := Nat.testBit_or X Y i
  simp only [Nat.testBit_eq_decide_div_mod_eq] at h
  have a := Nat.mod_two_eq_zero_or_one (X / 2 ^ i)
  have b := Nat.mod_two_eq_zero_or_one (Y / 2 ^ i)
  have c := Nat.mod_two_eq_zero_or_one ((X ||| Y) / 2 ^ i)
  rcases a with a | a <;> rcases b with b | b <;> rcases c with c | c <;> simp [a, b, c] at h ⊢
theorem bit_xor (X Y i : Nat) : (X ^^^ Y) / 2 ^ i % 2 = if X / 2 ^ i % 2 + Y / 2 ^ i % 2 = 1 then 1 else 0 := by
  have h := Nat.testBit_xor X Y i
  simp only [Nat.testBit_eq_decide_div_mod_eq] at h
  have a := Nat.mod_two_eq_zero_or_one (X / 2 ^ i)
  have b := Nat.mod_two_eq_zero_or_one (Y / 2 ^ i)
  have c := Nat.mod_two_eq_zero_or_one ((X ^^^ Y) / 2 ^ i)
  rcases a with a | a <;> rcases b with b | b <;> rcases c with c | c <;> simp [a, b, c] at h ⊢
/-- The number that an operation bit by bit makes. -/
def nb (op : Nat) (X Y : Nat) : Nat := if op = 6 then X &&& Y else if op = 7 then X ||| Y else X ^^^ Y
theorem nb_lt (op X Y : Nat) (hX : X < 18446744073709551616) (hY : Y < 18446744073709551616) : nb op X Y < 18446744073709551616 := by
  unfold nb
  split
  · exact Nat.and_lt_two_pow (n := 64) _ hY
  · split
    · exact Nat.or_lt_two_pow (n := 64) hX hY
    · exact Nat.xor_lt_two_pow (n := 64) hX hY
theorem bits_l1 (op : Nat) (hop : op = 6 ∨ op = 7 ∨ op = 8) (d : Nat) : ∀ (k X Y i : Nat), X < 18446744073709551616 → Y < 18446744073709551616 → i ≤ 64 → 64 - i = d → d < k →
    fettleref01_two.l1 k (op : Int) (X : Int) (Y : Int) ((nb op X Y % 2 ^ i : Nat) : Int) (i : Int) = some (wrap64 ((nb op X Y : Nat) : Int), true) := by
  induction d with
  | zero =>
    intro k X Y i hX hY hi hd hk
    obtain ⟨k, rfl⟩ : ∃ m, k = m + 1 := ⟨k - 1, by omega⟩
    obtain rfl : i = 64 := by omega
    rw [fettleref01_two.l1, if_neg (by omega), Nat.mod_eq_of_lt (show nb op X Y < 2 ^ 64 by simpa using nb_lt op X Y hX hY)]
  | succ d ih =>
    intro k X Y i hX hY hi hd hk
    obtain ⟨k, rfl⟩ : ∃ m, k = m + 1 := ⟨k - 1, by omega⟩
    have nx : wrap64 ((i : Int) + 1) = ((i + 1 : Nat) : Int) := by rw [w64]; omega
    have hI := ih k X Y (i + 1) hX hY (by omega) (by omega) (by omega)
    have os := or_shl (nb op X Y % 2 ^ i) i 1 (by omega) (Nat.mod_lt _ (Nat.two_pow_pos i)) (by decide)
    rw [show ((1 : Nat) : Int) = 1 by rfl] at os
    rw [fettleref01_two.l1, if_pos (by omega), bit_nat X i hX hi, Option.bind_some, bit_nat Y i hY hi, Option.bind_some, nx, os]
    have hs : IntKind.u64.wrap (((X / 2 ^ i % 2 : Nat) : Int) + ((Y / 2 ^ i % 2 : Nat) : Int)) = ((X / 2 ^ i % 2 + Y / 2 ^ i % 2 : Nat) : Int) := by
      rw [u64_id (by omega) (by omega)]; omega
    rw [hs]
    rw [mod_bit] at hI
    have b1 := bit_and X Y i
    have b2 := bit_or X Y i
    have b3 := bit_xor X Y i
    have h0 : (0 : Int) ≤ (i : Int) := by omega
    rcases hop with rfl | rfl | rfl
    · have e : nb 6 X Y / 2 ^ i % 2 = (if X / 2 ^ i % 2 + Y / 2 ^ i % 2 = 2 then 1 else 0) := by rw [← b1]; rfl
      rw [e] at hI
      by_cases c : X / 2 ^ i % 2 + Y / 2 ^ i % 2 = 2
      · rw [if_pos c] at hI
        rw [if_pos (by decide), if_pos (by omega), if_pos h0]; exact hI
      · rw [if_neg c, Nat.zero_mul, Nat.add_zero] at hI
        rw [if_pos (by decide), if_neg (by omega), if_neg (by decide), if_neg (by decide)]; exact hI
    · have e : nb 7 X Y / 2 ^ i % 2 = (if X / 2 ^ i % 2 + Y / 2 ^ i % 2 > 0 then 1 else 0) := by rw [← b2]; rfl
      rw [e] at hI
      by_cases c : X / 2 ^ i % 2 + Y / 2 ^ i % 2 > 0
      · rw [if_pos c] at hI
        rw [if_neg (by decide), if_pos (by decide), if_pos (by omega), if_pos h0]; exact hI
      · rw [if_neg c, Nat.zero_mul, Nat.add_zero] at hI
        rw [if_neg (by decide), if_pos (by decide), if_neg (by omega), if_neg (by decide)]; exact hI
    · have e : nb 8 X Y / 2 ^ i % 2 = (if X / 2 ^ i % 2 + Y / 2 ^ i % 2 = 1 then 1 else 0) := by rw [← b3]; rfl
      rw [e] at hI
      by_cases c : X / 2 ^ i % 2 + Y / 2 ^ i % 2 = 1
      · rw [if_pos c] at hI
        rw [if_neg (by decide), if_neg (by decide), if_pos (by decide), if_pos (by omega), if_pos h0]; exact hI
      · rw [if_neg c, Nat.zero_mul, Nat.add_zero] at hI
        rw [if_neg (by decide), if_neg (by decide), if_pos (by decide), if_neg (by omega)]; exact hI
theorem up_l0 (d : Nat) : ∀ (k X n i : Nat), n ≤ 64 → i ≤ n → n - i = d → d < k →
    fettleref01_shift.l0 k ((X * 2 ^ i % 18446744073709551616 : Nat) : Int) (n : Int) false (i : Int) = some ((X * 2 ^ n % 18446744073709551616 : Nat) : Int) := by
  induction d with
  | zero =>
    intro k X n i hn hi hd hk
    obtain ⟨k, rfl⟩ : ∃ m, k = m + 1 := ⟨k - 1, by omega⟩
    obtain rfl : i = n := by omega
    rw [fettleref01_shift.l0, if_neg (by omega)]
  | succ d ih =>
    intro k X n i hn hi hd hk
    obtain ⟨k, rfl⟩ : ∃ m, k = m + 1 := ⟨k - 1, by omega⟩
    rw [fettleref01_shift.l0, if_pos (by omega), if_neg (by decide), show IntKind.u64.wrap ((i : Int) + 1) = ((i + 1 : Nat) : Int) by rw [u64_id (by omega) (by omega)]; omega]
    have e : IntKind.u64.wrap (((X * 2 ^ i % 18446744073709551616 : Nat) : Int) * 2) = ((X * 2 ^ (i + 1) % 18446744073709551616 : Nat) : Int) := by
      rw [IntKind.wrap_u64, Nat.pow_succ, ← Nat.mul_assoc]; omega
    rw [e]
    exact ih k X n (i + 1) hn (by omega) (by omega) (by omega)
/-- The number without a sign that stands for one. -/
def un (a : Int) : Nat := (a % 18446744073709551616).toNat
theorem un_lt (a : Int) : un a < 18446744073709551616 := by unfold un; omega
theorem un_eq (a : Int) : IntKind.u64.wrap a = (un a : Int) := by rw [IntKind.wrap_u64]; unfold un; omega
theorem w64_un (a : Int) (h : -9223372036854775808 ≤ a ∧ a ≤ 9223372036854775807) : wrap64 (un a : Int) = a := by rw [w64]; unfold un; omega
theorem down_step (a : Int) (h : -9223372036854775808 ≤ a ∧ a ≤ 9223372036854775807) :
    Go.bits .or .u64 ((un a : Int) / 2) (IntKind.u64.wrap (((un a / 9223372036854775808 : Nat) : Int) * 9223372036854775808)) = (un (a / 2) : Int) := by
  have hl := un_lt a
  rw [show ((un a : Int) / 2) = ((un a / 2 : Nat) : Int) by omega, show IntKind.u64.wrap (((un a / 9223372036854775808 : Nat) : Int) * 9223372036854775808) = ((un a / 9223372036854775808 * 2 ^ 63 : Nat) : Int) by rw [u64_id (by omega) (by omega)]; omega]
  rw [u64_or_nat _ _ (by omega) (by omega), nat_or_bit _ _ _ (by omega)]
  unfold un at *
  omega
theorem quot_bd (a : Int) (h : -9223372036854775808 ≤ a ∧ a ≤ 9223372036854775807) (i : Nat) : -9223372036854775808 ≤ a / 2 ^ i ∧ a / 2 ^ i ≤ 9223372036854775807 := by
  have hp : (0 : Int) < 2 ^ i := Int.pow_pos (by decide)
  constructor
  · refine (Int.le_ediv_iff_mul_le hp).mpr ?_
    have : (1 : Int) ≤ 2 ^ i := hp
    have := Int.mul_le_mul_of_nonneg_left this (show (0 : Int) ≤ 9223372036854775808 by decide)
    omega
  · by_cases hn : 0 ≤ a
    · have := Int.ediv_le_self (2 ^ i) hn
      omega
    · have := Int.ediv_neg_of_neg_of_pos (show a < 0 by omega) hp
      omega
theorem down_l0 (a : Int) (h : -9223372036854775808 ≤ a ∧ a ≤ 9223372036854775807) (d : Nat) : ∀ (k n i : Nat) , n ≤ 64 → i ≤ n → n - i = d → d < k →
    fettleref01_shift.l0 k (un (a / 2 ^ i) : Int) (n : Int) true (i : Int) = some ((un (a / 2 ^ n) : Nat) : Int) := by
  induction d with
  | zero =>
    intro k n i hn hi hd hk
    obtain ⟨k, rfl⟩ : ∃ m, k = m + 1 := ⟨k - 1, by omega⟩
    obtain rfl : i = n := by omega
    rw [fettleref01_shift.l0, if_neg (by omega)]
  | succ d ih =>
    intro k n i hn hi hd hk
    obtain ⟨k, rfl⟩ : ∃ m, k = m + 1 := ⟨k - 1, by omega⟩
    have hr := quot_bd a h i
    rw [fettleref01_shift.l0, if_pos (by omega), if_pos rfl, bit63 _ (un_lt _), Option.bind_some, down_step _ hr, show IntKind.u64.wrap ((i : Int) + 1) = ((i + 1 : Nat) : Int) by rw [u64_id (by omega) (by omega)]; omega]
    rw [show a / 2 ^ i / 2 = a / 2 ^ (i + 1) by rw [Int.pow_succ, Int.ediv_ediv_of_nonneg (Int.le_of_lt (Int.pow_pos (by decide)))]]
    exact ih k n (i + 1) hn (by omega) (by omega) (by omega)
theorem less_l0 (d : Nat) : ∀ (k : Nat) (a b : Int) (i : Nat), i ≤ 63 → i = d → d < k → un a / 2 ^ i = un b / 2 ^ i →
    fettleref01_less.l0 k a b ((i : Int) - 1) = some (decide (un a < un b)) := by
  induction d with
  | zero =>
    intro k a b i hi hd hk he
    obtain ⟨k, rfl⟩ : ∃ m, k = m + 1 := ⟨k - 1, by omega⟩
    subst hd
    rw [fettleref01_less.l0, if_neg (by omega)]
    have : un a = un b := by simpa using he
    simp [this]
  | succ d ih =>
    intro k a b i hi hd hk he
    obtain ⟨k, rfl⟩ : ∃ m, k = m + 1 := ⟨k - 1, by omega⟩
    subst hd
    have ei : ((d + 1 : Nat) : Int) - 1 = (d : Int) := by omega
    rw [ei, fettleref01_less.l0, if_pos (by omega), un_eq, un_eq, bit_nat _ d (un_lt a) (by omega), Option.bind_some, bit_nat _ d (un_lt b) (by omega), Option.bind_some]
    have xa : un a / 2 ^ (d + 1) = un a / 2 ^ d / 2 := by rw [Nat.pow_succ, Nat.div_div_eq_div_mul]
    have xb : un b / 2 ^ (d + 1) = un b / 2 ^ d / 2 := by rw [Nat.pow_succ, Nat.div_div_eq_div_mul]
    rw [xa, xb] at he
    by_cases c : un a / 2 ^ d % 2 = un b / 2 ^ d % 2
    · rw [if_pos (by rw [c]), show wrap64 ((d : Int) - 1) = (d : Int) - 1 by rw [w64]; omega]
      exact ih k a b d (by omega) rfl (by omega) (by omega)
    · rw [if_neg (by omega)]
      congr 1
      have hq : un a < un b ↔ un a / 2 ^ d < un b / 2 ^ d := by
        constructor
        · intro h
          have := Nat.div_le_div_right (c := 2 ^ d) (Nat.le_of_lt h)
          omega
        · intro h
          apply Classical.byContradiction
          intro g
          have := Nat.div_le_div_right (c := 2 ^ d) (show un b ≤ un a by omega)
          omega
      by_cases g : un b / 2 ^ d % 2 = 1
      · have : un a < un b := hq.mpr (by omega)
        simp [this, g]
      · have : ¬ un a < un b := fun z => by have := hq.mp z; omega
        have z : un b / 2 ^ d % 2 = 0 := by omega
        simp [this, z]
theorem less_eq (k : Nat) (a b : Int) (ha : -9223372036854775808 ≤ a ∧ a ≤ 9223372036854775807) (hb : -9223372036854775808 ≤ b ∧ b ≤ 9223372036854775807) (hk : 63 < k) :
    fettleref01_less.f k a b = some (decide (a < b)) := by
  unfold fettleref01_less.f
  rw [un_eq, un_eq, bit63 _ (un_lt a), Option.bind_some, bit63 _ (un_lt b), Option.bind_some]
  by_cases c : un a / 9223372036854775808 = un b / 9223372036854775808
  · rw [if_pos (by rw [c])]
    have := less_l0 63 k a b 63 (by decide) rfl hk (by simpa using c)
    rw [show ((63 : Nat) : Int) - 1 = 62 by decide] at this
    rw [this]
    congr 2
    unfold un at *
    apply propext; omega
  · rw [if_neg (by omega)]
    congr 1
    by_cases g : a < b
    · have : un a / 9223372036854775808 = 1 := by unfold un at *; omega
      simp [g, this]
    · have : un a / 9223372036854775808 = 0 := by unfold un at *; omega
      simp [g, this]
theorem divide_l0 (d : Nat) : ∀ (k A B q r i : Nat), A < 18446744073709551616 → 0 < B → B < 18446744073709551616 → r < B → q * B + r = A / 2 ^ i → i ≤ 64 → i = d → d < k →
    fettleref01_divide.l0 k (A : Int) (B : Int) ((q * 2 ^ i : Nat) : Int) (r : Int) ((i : Int) - 1) = some ((A / B : Nat) : Int) := by
  induction d with
  | zero =>
    intro k A B q r i hA hB hB2 hr he hi hd hk
    obtain ⟨k, rfl⟩ : ∃ m, k = m + 1 := ⟨k - 1, by omega⟩
    subst hd
    rw [fettleref01_divide.l0, if_neg (by omega)]
    congr 2
    simp only [Nat.pow_zero, Nat.div_one, Nat.mul_one] at he ⊢
    rw [← he, Nat.add_comm, Nat.add_mul_div_right _ _ hB, Nat.div_eq_of_lt hr, Nat.zero_add]
  | succ d ih =>
    intro k A B q r i hA hB hB2 hr he hi hd hk
    obtain ⟨k, rfl⟩ : ∃ m, k = m + 1 := ⟨k - 1, by omega⟩
    subst hd
    have ei : ((d + 1 : Nat) : Int) - 1 = (d : Int) := by omega
    rw [ei, fettleref01_divide.l0, if_pos (by omega), bit63 r (by omega), Option.bind_some, bit_nat A d hA (by omega), Option.bind_some]
    have xa : A / 2 ^ (d + 1) = A / 2 ^ d / 2 := by rw [Nat.pow_succ, Nat.div_div_eq_div_mul]
    rw [xa] at he
    have nx : wrap64 ((d : Int) - 1) = (d : Int) - 1 := by rw [w64]; omega
    -- the low bit
    have low : ∀ t : Nat, t < 18446744073709551616 → t % 2 = 0 → Go.bits .or .u64 (t : Int) ((A / 2 ^ d % 2 : Nat) : Int) = ((t + A / 2 ^ d % 2 : Nat) : Int) := by
      intro t ht h2
      rw [u64_or_nat _ _ ht (by omega), nat_join 1 t _ (by simpa using h2) (by omega)]
    have e2 : IntKind.u64.wrap ((r : Int) * 2) = ((r * 2 % 18446744073709551616 : Nat) : Int) := by rw [IntKind.wrap_u64]; omega
    rw [e2, low _ (Nat.mod_lt _ (by decide)) (by omega)]
    -- the quotient's next bit
    have hqlt : q * 2 ^ (d + 1) + 2 ^ d < 18446744073709551616 + 2 ^ d := by
      have h1 : q ≤ q * B := Nat.le_mul_of_pos_right _ hB
      have h2 : q ≤ A / 2 ^ d / 2 := by omega
      rw [← xa] at h2
      have h3 := Nat.mul_le_mul_right (2 ^ (d + 1)) h2
      have h4 := Nat.div_mul_le_self A (2 ^ (d + 1))
      omega
    have hp := pow64 (i := d) (by omega)
    have setb : Go.bits .or .u64 ((q * 2 ^ (d + 1) : Nat) : Int) (shl .u64 1 (d : Int)) = (((2 * q + 1) * 2 ^ d : Nat) : Int) := by
      have h1 := shl_nat 1 d (by omega)
      rw [show ((1 : Nat) : Int) = 1 by rfl] at h1
      have hpp : 0 < 2 ^ d := Nat.two_pow_pos d
      rw [h1, Nat.one_mul, Nat.mod_eq_of_lt (by omega), u64_or_nat _ _ (by omega) (by omega), nat_join (d + 1) _ _ (Nat.mul_mod_left _ _) (by rw [Nat.pow_succ]; omega), Nat.pow_succ]
      congr 1
      rw [Nat.add_mul, Nat.one_mul, Nat.mul_assoc 2 q, Nat.mul_left_comm 2 q, Nat.mul_comm 2 (2 ^ d)]
    have keep : q * 2 ^ (d + 1) = 2 * q * 2 ^ d := by rw [Nat.pow_succ, Nat.mul_comm 2 q, Nat.mul_assoc, Nat.mul_comm 2 (2 ^ d)]
    generalize hA' : A / 2 ^ d = A' at *
    have grown : (2 * q + 1) * B = 2 * (q * B) + B := by rw [Nat.add_mul, Nat.one_mul, Nat.mul_assoc]
    have stays : 2 * q * B = 2 * (q * B) := Nat.mul_assoc _ _ _
    by_cases hh : r / 9223372036854775808 = 1
    · rw [if_pos (by omega), if_pos (by omega), setb, nx, show IntKind.u64.wrap ((((r * 2 % 18446744073709551616 + A' % 2 : Nat) : Int)) - (B : Int)) = ((2 * r + A' % 2 - B : Nat) : Int) by rw [IntKind.wrap_u64]; omega]
      exact ih k A B (2 * q + 1) _ d hA hB hB2 (by omega) (by rw [grown]; omega) (by omega) rfl (by omega)
    · rw [if_neg (by omega)]
      by_cases g : r * 2 + A' % 2 ≥ B
      · rw [if_pos (by omega), if_pos (by omega), setb, nx, show IntKind.u64.wrap ((((r * 2 % 18446744073709551616 + A' % 2 : Nat) : Int)) - (B : Int)) = ((2 * r + A' % 2 - B : Nat) : Int) by rw [IntKind.wrap_u64]; omega]
        exact ih k A B (2 * q + 1) _ d hA hB hB2 (by omega) (by rw [grown]; omega) (by omega) rfl (by omega)
      · rw [if_neg (by omega), nx, keep, show r * 2 % 18446744073709551616 + A' % 2 = 2 * r + A' % 2 by omega]
        exact ih k A B (2 * q) _ d hA hB hB2 (by omega) (by rw [stays]; omega) (by omega) rfl (by omega)
theorem divide_nat (k A B : Nat) (hA : A < 18446744073709551616) (hB : 0 < B) (hB2 : B < 18446744073709551616) (hk : 64 < k) :
    fettleref01_divide.f k (A : Int) (B : Int) = some ((A / B : Nat) : Int) := by
  unfold fettleref01_divide.f
  have h := divide_l0 64 k A B 0 0 64 hA hB hB2 hB (by rw [Nat.div_eq_of_lt (show A < 2 ^ 64 by simpa using hA)]; simp) (by decide) rfl hk
  simpa using h
theorem toNat_un (a : Int) : (BitVec.ofInt 64 a).toNat = un a := by rw [BitVec.toNat_ofInt]; rfl
theorem w64_i64 (n : Int) : IntKind.i64.wrap n = wrap64 n := by rw [w64]; exact IntKind.wrap_i64 n
theorem un_mod (a : Int) : (un a : Int) % 18446744073709551616 = a % 18446744073709551616 := by unfold un; omega
theorem two_add (k : Nat) (a b : Int) (hk : 64 < k) : fettleref01_two.f k 3 a b = some (wrap64 (a + b), true) := by
  unfold fettleref01_two.f
  have h := add_nat k (un a) (un b) 0 (un_lt a) (un_lt b) (by decide) hk
  rw [show ((0 : Nat) : Int) = 0 by rfl] at h
  rw [if_pos rfl, un_eq, un_eq, h, Option.bind_some]
  congr 2
  apply w64_congr
  have := un_mod a
  have := un_mod b
  omega
theorem two_sub (k : Nat) (a b : Int) (hk : 64 < k) : fettleref01_two.f k 4 a b = some (wrap64 (a - b), true) := by
  unfold fettleref01_two.f
  have lb := un_lt b
  have h := add_nat k (un a) (18446744073709551615 - un b) 1 (un_lt a) (by omega) (by decide) hk
  rw [show ((1 : Nat) : Int) = 1 by rfl] at h
  rw [if_neg (by decide), if_pos rfl, un_eq, un_eq, not_nat _ lb, h, Option.bind_some]
  congr 2
  apply w64_congr
  have := un_mod a
  have := un_mod b
  omega
theorem two_mul' (k : Nat) (a b : Int) (hk : 130 < k) : fettleref01_two.f k 5 a b = some (wrap64 (a * b), true) := by
  unfold fettleref01_two.f
  have h := mul_l0 64 k (un a) (un b) 0 (un_lt a) (un_lt b) (by decide) rfl (by omega)
  rw [Nat.pow_zero, Nat.mod_one, Nat.mul_zero, Nat.zero_mod, show ((0 : Nat) : Int) = 0 by rfl] at h
  rw [if_neg (by decide), if_neg (by decide), if_pos rfl, un_eq, un_eq, h]
  congr 2
  apply w64_congr
  rw [Int.natCast_emod, Int.natCast_mul]
  rw [show ((18446744073709551616 : Nat) : Int) = 18446744073709551616 by rfl, Int.emod_emod_of_dvd _ (Int.dvd_refl _), Int.mul_emod, un_mod, un_mod, ← Int.mul_emod]
theorem two_and (k : Nat) (a b : Int) (hk : 66 < k) : fettleref01_two.f k 6 a b = some (Go.bits .and .i64 a b, true) := by
  obtain ⟨k, rfl⟩ : ∃ m, k = m + 1 := ⟨k - 1, by omega⟩
  unfold fettleref01_two.f
  have h := bits_l1 6 (.inl rfl) 64 k (un a) (un b) 0 (un_lt a) (un_lt b) (by decide) rfl (by omega)
  rw [Nat.pow_zero, Nat.mod_one, show ((0 : Nat) : Int) = 0 by rfl, show ((6 : Nat) : Int) = 6 by rfl] at h
  rw [if_neg (by decide), if_neg (by decide), if_neg (by decide), if_pos rfl, un_eq, un_eq, show ((6 : Int) == 6) = true by decide, fettleref01_two.j1, if_pos rfl, h]
  congr 2
  show _ = IntKind.i64.wrap ((BitVec.ofInt 64 a &&& BitVec.ofInt 64 b).toNat : Int)
  rw [BitVec.toNat_and, toNat_un, toNat_un, w64_i64]; rfl
theorem two_or (k : Nat) (a b : Int) (hk : 66 < k) : fettleref01_two.f k 7 a b = some (Go.bits .or .i64 a b, true) := by
  obtain ⟨k, rfl⟩ : ∃ m, k = m + 1 := ⟨k - 1, by omega⟩
  unfold fettleref01_two.f
  have h := bits_l1 7 (.inr (.inl rfl)) 64 k (un a) (un b) 0 (un_lt a) (un_lt b) (by decide) rfl (by omega)
  rw [Nat.pow_zero, Nat.mod_one, show ((0 : Nat) : Int) = 0 by rfl, show ((7 : Nat) : Int) = 7 by rfl] at h
  rw [if_neg (by decide), if_neg (by decide), if_neg (by decide), if_neg (by decide), if_pos rfl, un_eq, un_eq, show ((7 : Int) == 7) = true by decide, fettleref01_two.j1, if_pos rfl, h]
  congr 2
  show _ = IntKind.i64.wrap ((BitVec.ofInt 64 a ||| BitVec.ofInt 64 b).toNat : Int)
  rw [BitVec.toNat_or, toNat_un, toNat_un, w64_i64]; rfl
theorem two_xor (k : Nat) (a b : Int) (hk : 66 < k) : fettleref01_two.f k 8 a b = some (Go.bits .xor .i64 a b, true) := by
  obtain ⟨k, rfl⟩ : ∃ m, k = m + 1 := ⟨k - 1, by omega⟩
  unfold fettleref01_two.f
  have h := bits_l1 8 (.inr (.inr rfl)) 64 k (un a) (un b) 0 (un_lt a) (un_lt b) (by decide) rfl (by omega)
  rw [Nat.pow_zero, Nat.mod_one, show ((0 : Nat) : Int) = 0 by rfl, show ((8 : Nat) : Int) = 8 by rfl] at h
  rw [if_neg (by decide), if_neg (by decide), if_neg (by decide), if_neg (by decide), if_neg (by decide), un_eq, un_eq, show ((8 : Int) == 8) = true by decide, fettleref01_two.j1, if_pos rfl, h]
  congr 2
  show _ = IntKind.i64.wrap ((BitVec.ofInt 64 a ^^^ BitVec.ofInt 64 b).toNat : Int)
  rw [BitVec.toNat_xor, toNat_un, toNat_un, w64_i64]; rfl
theorem two_j1 (k : Nat) (op a b : Int) (h3 : ¬ op = 3) (h4 : ¬ op = 4) (h5 : ¬ op = 5) (h6 : ¬ op = 6) (h7 : ¬ op = 7) (h8 : ¬ op = 8) :
    fettleref01_two.f (k + 1) op a b = fettleref01_two.j1 (k + 1) op a b (un a : Int) (un b : Int) 0 op false := by
  unfold fettleref01_two.f
  have e8 : (op == 8) = false := by simpa using h8
  rw [if_neg h3, if_neg h4, if_neg h5, if_neg h6, if_neg h7, un_eq, un_eq, e8]
theorem tmod64 (b : Int) : Int.tmod (un b : Int) 64 = ((un b % 64 : Nat) : Int) := rfl
theorem rem64 (b : Int) : b % 64 = ((un b % 64 : Nat) : Int) := by unfold un; omega
theorem two_shl (k : Nat) (a b : Int) (hk : 66 < k) : fettleref01_two.f k 9 a b = some (shl .i64 a (b % 64), true) := by
  obtain ⟨k, rfl⟩ : ∃ m, k = m + 1 := ⟨k - 1, by omega⟩
  have h := up_l0 (un b % 64) k (un a) (un b % 64) 0 (by omega) (by omega) (by omega) (by omega)
  rw [Nat.pow_zero, Nat.mul_one, Nat.mod_eq_of_lt (un_lt a), show ((0 : Nat) : Int) = 0 by rfl] at h
  rw [two_j1 k 9 a b (by decide) (by decide) (by decide) (by decide) (by decide) (by decide), fettleref01_two.j1, if_neg (by decide), if_pos rfl, tmod64]
  unfold fettleref01_shift.f
  rw [h, Option.bind_some]
  congr 2
  unfold shl
  rw [w64_i64, rem64, show min ((un b % 64 : Nat) : Int).toNat IntKind.i64.bits = un b % 64 by rw [Int.toNat_natCast]; exact Nat.min_eq_left (show _ ≤ 64 by omega)]
  apply w64_congr
  rw [Int.natCast_emod, Int.natCast_mul, show ((18446744073709551616 : Nat) : Int) = 18446744073709551616 by rfl, Int.emod_emod_of_dvd _ (Int.dvd_refl _), Int.mul_emod, un_mod, ← Int.mul_emod, Int.natCast_pow]; rfl
theorem two_shr (k : Nat) (a b : Int) (ha : -9223372036854775808 ≤ a ∧ a ≤ 9223372036854775807) (hk : 66 < k) : fettleref01_two.f k 10 a b = some (shr .i64 a (b % 64), true) := by
  obtain ⟨k, rfl⟩ : ∃ m, k = m + 1 := ⟨k - 1, by omega⟩
  have h := down_l0 a ha (un b % 64) k (un b % 64) 0 (by omega) (by omega) (by omega) (by omega)
  rw [Int.pow_zero, Int.ediv_one, show ((0 : Nat) : Int) = 0 by rfl] at h
  rw [two_j1 k 10 a b (by decide) (by decide) (by decide) (by decide) (by decide) (by decide), fettleref01_two.j1, if_neg (by decide), if_neg (by decide), if_pos rfl, tmod64]
  unfold fettleref01_shift.f
  rw [h, Option.bind_some]
  congr 2
  unfold shr
  rw [rem64, show min ((un b % 64 : Nat) : Int).toNat IntKind.i64.bits = un b % 64 by rw [Int.toNat_natCast]; exact Nat.min_eq_left (show _ ≤ 64 by omega)]
  refine w64_un _ (quot_bd a ha _)
theorem two_lt (k : Nat) (a b : Int) (ha : -9223372036854775808 ≤ a ∧ a ≤ 9223372036854775807) (hb : -9223372036854775808 ≤ b ∧ b ≤ 9223372036854775807) (hk : 66 < k) :
    fettleref01_two.f k 12 a b = some ((if a < b then 1 else 0), true) := by
  obtain ⟨k, rfl⟩ : ∃ m, k = m + 1 := ⟨k - 1, by omega⟩
  rw [two_j1 k 12 a b (by decide) (by decide) (by decide) (by decide) (by decide) (by decide), fettleref01_two.j1, if_neg (by decide), if_neg (by decide), if_neg (by decide), if_pos rfl, less_eq k a b ha hb (by omega), Option.bind_some]
  by_cases h : a < b
  · simp [h]
  · simp [h, w64]
theorem two_eq' (k : Nat) (a b : Int) (ha : -9223372036854775808 ≤ a ∧ a ≤ 9223372036854775807) (hb : -9223372036854775808 ≤ b ∧ b ≤ 9223372036854775807) (hk : 66 < k) :
    fettleref01_two.f k 13 a b = some ((if a = b then 1 else 0), true) := by
  obtain ⟨k, rfl⟩ : ∃ m, k = m + 1 := ⟨k - 1, by omega⟩
  rw [two_j1 k 13 a b (by decide) (by decide) (by decide) (by decide) (by decide) (by decide), fettleref01_two.j1, if_neg (by decide), if_neg (by decide), if_neg (by decide), if_neg (by decide), if_pos rfl, less_eq k a b ha hb (by omega), Option.bind_some, less_eq k b a hb ha (by omega), Option.bind_some]
  rcases Int.lt_trichotomy a b with h | h | h
  · have e : ¬ a = b := by omega
    simp [h, e, w64]
  · subst h; simp
  · have e : ¬ a = b := by omega
    have e2 : ¬ a < b := by omega
    simp [h, e, e2, w64]
theorem abs_un (k : Nat) (a : Int) (ha : -9223372036854775808 ≤ a ∧ a ≤ 9223372036854775807) (hk : 64 < k) (h : a < 0) : fettleref01_negative.f k (un a : Int) = some ((a.natAbs : Nat) : Int) := by
  rw [negative_nat k _ (un_lt a) hk]
  congr 2
  unfold un; omega
theorem pos_un (a : Int) (ha : -9223372036854775808 ≤ a ∧ a ≤ 9223372036854775807) (h : ¬ a < 0) : un a = a.natAbs := by unfold un; omega
theorem top_un (a : Int) (ha : -9223372036854775808 ≤ a ∧ a ≤ 9223372036854775807) : un a / 9223372036854775808 = if a < 0 then 1 else 0 := by
  unfold un; split <;> omega
theorem quot_signs (a b : Int) : a.tdiv b = if (a < 0) = (b < 0) then ((a.natAbs / b.natAbs : Nat) : Int) else -((a.natAbs / b.natAbs : Nat) : Int) := by
  by_cases h1 : a < 0 <;> by_cases h2 : b < 0
  · have e1 : a = -(a.natAbs : Int) := by omega
    have e2 : b = -(b.natAbs : Int) := by omega
    simp only [h1, h2, if_true]
    conv => lhs; rw [e1, e2, Int.neg_tdiv, Int.tdiv_neg, Int.neg_neg]
    rfl
  · have e1 : a = -(a.natAbs : Int) := by omega
    have e2 : b = (b.natAbs : Int) := by omega
    rw [if_neg (by simp [h1, h2])]
    conv => lhs; rw [e1, e2, Int.neg_tdiv]
    rfl
  · have e1 : a = (a.natAbs : Int) := by omega
    have e2 : b = -(b.natAbs : Int) := by omega
    rw [if_neg (by simp [h1, h2])]
    conv => lhs; rw [e1, e2, Int.tdiv_neg]
    rfl
  · have e1 : a = (a.natAbs : Int) := by omega
    have e2 : b = (b.natAbs : Int) := by omega
    simp only [h1, h2, if_true]
    conv => lhs; rw [e1, e2]
    rfl
theorem div_end (k : Nat) (a b : Int) (ha : -9223372036854775808 ≤ a ∧ a ≤ 9223372036854775807) (hb : -9223372036854775808 ≤ b ∧ b ≤ 9223372036854775807) (h0 : b ≠ 0) (hk : 64 < k) :
    fettleref01_two.j4 (k + 1) (un a : Int) (un b : Int) (a.natAbs : Int) (b.natAbs : Int) = some (wrap64 (a.tdiv b), true) := by
  have hq : a.natAbs / b.natAbs ≤ a.natAbs := Nat.div_le_self _ _
  rw [fettleref01_two.j4, divide_nat k _ _ (by omega) (by omega) (by omega) hk, Option.bind_some, bit63 _ (un_lt a), Option.bind_some, bit63 _ (un_lt b), Option.bind_some, top_un a ha, top_un b hb, quot_signs a b]
  by_cases h1 : a < 0 <;> by_cases h2 : b < 0
  · simp [h1, h2]
  · rw [if_pos h1, if_neg h2, if_neg (by decide), if_neg (by simp [h1, h2]), negative_nat k _ (by omega) hk, Option.bind_some]
    congr 2
    apply w64_congr
    omega
  · rw [if_neg h1, if_pos h2, if_neg (by decide), if_neg (by simp [h1, h2]), negative_nat k _ (by omega) hk, Option.bind_some]
    congr 2
    apply w64_congr
    omega
  · simp [h1, h2]
theorem div_mid (k : Nat) (a b : Int) (ha : -9223372036854775808 ≤ a ∧ a ≤ 9223372036854775807) (hb : -9223372036854775808 ≤ b ∧ b ≤ 9223372036854775807) (h0 : b ≠ 0) (hk : 64 < k) :
    fettleref01_two.j3 (k + 2) (un a : Int) (un b : Int) (a.natAbs : Int) (un b : Int) = some (wrap64 (a.tdiv b), true) := by
  rw [fettleref01_two.j3, bit63 _ (un_lt b), Option.bind_some, top_un b hb]
  by_cases h : b < 0
  · rw [if_pos h, if_pos (by decide), abs_un (k + 1) b hb (by omega) h, Option.bind_some]
    exact div_end k a b ha hb h0 hk
  · rw [if_neg h, if_neg (by decide)]
    have := div_end k a b ha hb h0 hk
    rw [← pos_un b hb h] at this
    exact this
theorem two_div (k : Nat) (a b : Int) (ha : -9223372036854775808 ≤ a ∧ a ≤ 9223372036854775807) (hb : -9223372036854775808 ≤ b ∧ b ≤ 9223372036854775807) (hk : 70 < k) :
    fettleref01_two.f k 11 a b = some (if b = 0 then (0, false) else (wrap64 (a.tdiv b), true)) := by
  obtain ⟨k, rfl⟩ : ∃ m, k = m + 3 := ⟨k - 3, by omega⟩
  rw [two_j1 (k + 2) 11 a b (by decide) (by decide) (by decide) (by decide) (by decide) (by decide), fettleref01_two.j1, if_neg (by decide), if_neg (by decide), if_neg (by decide), if_neg (by decide), if_neg (by decide), if_pos rfl]
  by_cases h0 : b = 0
  · rw [if_pos h0, if_pos h0]
  · rw [if_neg h0, if_neg h0, bit63 _ (un_lt a), Option.bind_some, top_un a ha]
    by_cases h : a < 0
    · rw [if_pos h, if_pos (by decide), abs_un (k + 2) a ha (by omega) h, Option.bind_some]
      exact div_mid k a b ha hb h0 (by omega)
    · rw [if_neg h, if_neg (by decide)]
      have := div_mid k a b ha hb h0 (by omega)
      rw [← pos_un a ha h] at this
      exact this
/-- The reference's answer is the code's. -/
theorem two_all (k : Nat) (op a b : Int) (h3 : 3 ≤ op) (h13 : op ≤ 13) (ha : -9223372036854775808 ≤ a ∧ a ≤ 9223372036854775807) (hb : -9223372036854775808 ≤ b ∧ b ≤ 9223372036854775807) (hk : 130 < k) :
    ∃ r ok, fettleref01_two.f k op a b = some (r, ok) ∧ e2 op a b = if ok = true then (r, none) else (0, some 7) := by
  have : op = 3 ∨ op = 4 ∨ op = 5 ∨ op = 6 ∨ op = 7 ∨ op = 8 ∨ op = 9 ∨ op = 10 ∨ op = 11 ∨ op = 12 ∨ op = 13 := by omega
  rcases this with rfl | rfl | rfl | rfl | rfl | rfl | rfl | rfl | rfl | rfl | rfl
  · exact ⟨_, _, two_add k a b (by omega), rfl⟩
  · exact ⟨_, _, two_sub k a b (by omega), rfl⟩
  · exact ⟨_, _, two_mul' k a b (by omega), rfl⟩
  · exact ⟨_, _, two_and k a b (by omega), rfl⟩
  · exact ⟨_, _, two_or k a b (by omega), rfl⟩
  · exact ⟨_, _, two_xor k a b (by omega), rfl⟩
  · exact ⟨_, _, two_shl k a b (by omega), rfl⟩
  · exact ⟨_, _, two_shr k a b ha (by omega), rfl⟩
  · by_cases h : b = 0
    · exact ⟨0, false, by rw [two_div k a b ha hb (by omega), if_pos h], by simp [e2, h]⟩
    · exact ⟨wrap64 (a.tdiv b), true, by rw [two_div k a b ha hb (by omega), if_neg h], by simp [e2, h]⟩
  · exact ⟨_, _, two_lt k a b ha hb (by omega), rfl⟩
  · exact ⟨_, _, two_eq' k a b ha hb (by omega), rfl⟩
theorem ref1 (k : Nat) (a : Int) (hk : 64 < k) : fettleref01_Eval.f k 14 [a] = some (wrap64 (1 - a), true) := by
  unfold fettleref01_Eval.f
  have lb := un_lt a
  have h := add_nat k 1 (18446744073709551615 - un a) 1 (by decide) (by omega) (by decide) hk
  rw [show ((1 : Nat) : Int) = 1 by rfl] at h
  rw [if_neg (by decide), if_pos rfl, if_pos (by simp), show rd [a] 0 = a by rfl, un_eq, not_nat _ lb, h, Option.bind_some]
  congr 2
  apply w64_congr
  have := un_mod a
  omega
theorem ref2 (k : Nat) (op a b : Int) (h : 3 ≤ op) (h2 : op ≤ 13) : fettleref01_Eval.f k op [a, b] = (fettleref01_two.f k op a b).bind fun p => some (p.1, p.2) := by
  unfold fettleref01_Eval.f
  rw [if_neg (by omega), if_neg (by omega), if_pos (by simp), if_pos (by simp)]
  rfl
theorem evals_bad (k : Nat) (op : Int) (l : List Int) : fettlelaw01_ArithEvals.j0 (k + 1) op l true 0 (some 1) true = some true := by rw [fettlelaw01_ArithEvals.j0]; rfl
theorem evals_good (k : Nat) (op : Int) (l : List Int) (r : Int) (ok : Bool) (h : fettleref01_Eval.f k op l = some (r, ok)) (e : ev op l = if ok = true then (r, none) else (0, some 7)) :
    fettlelaw01_ArithEvals.j0 (k + 1) op l true (ev op l).1 (ev op l).2 false = some true := by
  rw [fettlelaw01_ArithEvals.j0, if_neg (by decide), h, Option.bind_some, e]
  cases ok
  · rfl
  · simp
theorem ArithEvals : fettlelaw01_ArithEvals.Pure := by
  intro op l _ _ _ wl
  refine ⟨152, ?_⟩
  unfold fettlelaw01_ArithEvals.f
  rw [up_eq 151, Option.bind_some]
  by_cases hl : (l.length : Int) > 100
  · rw [if_pos hl]
  rw [if_neg hl, eval_eq 151, Option.bind_some, refArgs_eq 151, Option.bind_some]
  by_cases h1 : op = 2 ∨ op = 14
  · rw [if_pos h1, if_neg (by decide)]
    rcases l with _ | ⟨a, _ | ⟨b, l⟩⟩
    · have : ev op [] = (0, some 1) := by unfold ev; rw [if_pos h1]
      rw [this]; exact evals_bad 151 op []
    · have hn : ((1 : Int) != (([a] : List Int).length : Int)) = false := by simp
      rw [hn]
      rcases h1 with rfl | rfl
      · exact evals_good 151 2 [a] a true (by rfl) (by rfl)
      · exact evals_good 151 14 [a] _ true (ref1 151 a (by decide)) (by rfl)
    · have hn : ((1 : Int) != ((a :: b :: l : List Int).length : Int)) = true := by simp only [bne_iff_ne, ne_eq, List.length_cons]; omega
      have : ev op (a :: b :: l) = (0, some 1) := by unfold ev; rw [if_pos h1]
      rw [this, hn]; exact evals_bad 151 op _
  · rw [if_neg h1]
    by_cases h2 : 3 ≤ op ∧ op ≤ 13
    · rw [if_pos h2, if_neg (by decide)]
      have bad : ∀ m : List Int, (∀ a b, m ≠ [a, b]) → ev op m = (0, some 1) := by
        intro m hm
        unfold ev
        rw [if_neg h1, if_pos h2]
        split
        · exact absurd rfl (hm _ _)
        · rfl
      rcases l with _ | ⟨a, _ | ⟨b, _ | ⟨c, l⟩⟩⟩
      · rw [bad [] (by simp)]; exact evals_bad 151 op _
      · rw [bad [a] (by simp)]; exact evals_bad 151 op _
      · have ha := wf64 (wl a (by simp))
        have hb := wf64 (wl b (by simp))
        have hn : ((2 : Int) != (([a, b] : List Int).length : Int)) = false := by simp
        rw [hn]
        obtain ⟨r, ok, e, h⟩ := two_all 151 op a b h2.1 h2.2 ha hb (by decide)
        have hev : ev op [a, b] = e2 op a b := by unfold ev; rw [if_neg h1, if_pos h2]
        exact evals_good 151 op [a, b] r ok (by rw [ref2 _ _ _ _ h2.1 h2.2, e]; rfl) (by rw [hev]; exact h)
      · have hn : ((2 : Int) != ((a :: b :: c :: l : List Int).length : Int)) = true := by simp only [bne_iff_ne, ne_eq, List.length_cons]; omega
        rw [bad _ (by simp), hn]; exact evals_bad 151 op _
    · rw [if_neg h2, if_pos (by decide)]
      have : ev op l = (0, some 1) := by unfold ev; rw [if_neg h1, if_neg h2]
      rw [this]; exact evals_bad 151 op l
end Go.Proofs.Ytenlbbookiopiaa.Pure
