/- What code.number, code.list and code.signed write. Conditions: numbers of 64 bits, lists of at most 1000. -/
import Derived.Test.YtckebppacealeaaDoorLp
namespace Go.Proofs.YtckebppacealeaaDoor.Rk
open Go.RowKit Go.Proofs.YtckebppacealeaaDoorW.PrintWords Go.Proofs.YtckebppacealeaaDoorW.PrintLast Go.Proofs.YtckebppacealeaaDoorW.PrintMore Go.Proofs.YtckebppacealeaaDoorW.PrintWords.Kd Go.Proofs.YtckebppacealeaaDoor.PCodeUnlike Go.Proofs.YtckebppacealeaaDoor.Lp
set_option linter.unusedVariables false
set_option linter.unusedSimpArgs false
/-- A number's bytes. -/
def numE (n : Nat) : List Int := if n < 128 then [(n : Int)] else ((n % 128 + 128 : Nat) : Int) :: numE (n / 128)
termination_by n
decreasing_by omega
theorem numE_len : ∀ (k n : Nat), n < 128 ^ k → 0 < k → (numE n).length ≤ k := by
  intro k
  induction k with
  | zero => intro n _ h; omega
  | succ k ih =>
    intro n hn _
    unfold numE
    by_cases h : n < 128
    · rw [if_pos h]; simp
    · rw [if_neg h, List.length_cons]
      have hk : 0 < k := by
        rcases Nat.eq_zero_or_pos k with rfl | h2
        · omega
        · exact h2
      have := ih (n / 128) (by rw [Nat.pow_succ] at hn; omega) hk
      omega
theorem numE_ten {n : Nat} (h : n < 18446744073709551616) : (numE n).length ≤ 10 := numE_len 10 n (by omega) (by omega)
/-- As 64 bits without a sign. -/
def m64 (a : Int) : Nat := (a % 18446744073709551616).toNat
theorem u64_lt (a : Int) : m64 a < 18446744073709551616 := by unfold m64; omega
def listE (l : List Int) : List Int := numE (m64 l.length) ++ l.flatMap fun a => numE (m64 a)
theorem or_byte (x : Nat) : Go.bits .or .u8 (((x % 256 : Nat) : Int)) 128 = ((x % 128 + 128 : Nat) : Int) := by
  have key : ∀ y : Fin 256, Go.bits .or .u8 ((y.val : Nat) : Int) 128 = ((y.val % 128 + 128 : Nat) : Int) := by decide +kernel
  have := key ⟨x % 256, Nat.mod_lt _ (by omega)⟩
  dsimp only at this
  rw [this]
  congr 2
  omega
theorem number_ev : ∀ (q n : Nat) (l : List Int), n < 128 ^ q → l.length ≤ 100000000000000 + (10 - q) → q ≤ 10 → Ev (fun k => code_number.f k l (n : Int)) (l ++ numE n) := by
  have go : ∀ (q n : Nat) (l : List Int), n < 128 ^ (q + 1) → l.length ≤ 100000000000000 + (10 - q) → q ≤ 10 → Ev (fun k => code_number.l0 k l (n : Int)) (l ++ numE n) := by
    intro q
    induction q with
    | zero =>
      intro n l hn hl hq
      have hn : n < 128 := by simpa using hn
      unfold numE
      rw [if_pos hn]
      refine Ev.step (f := fun _ => some (l ++ [(n : Int)])) (fun k => ?_) (Ev.now _)
      rw [code_number.l0, if_neg (by omega), if_pos (by omega), Int.emod_eq_of_lt (by omega) (by omega)]
    | succ q ih =>
      intro n l hn hl hq
      unfold numE
      by_cases h : n < 128
      · rw [if_pos h]
        refine Ev.step (f := fun _ => some (l ++ [(n : Int)])) (fun k => ?_) (Ev.now _)
        rw [code_number.l0, if_neg (by omega), if_pos (by omega), Int.emod_eq_of_lt (by omega) (by omega)]
      · rw [if_neg h]
        have hi := ih (n / 128) (l ++ [((n % 128 + 128 : Nat) : Int)]) (by rw [Nat.pow_succ] at hn; omega) (by simp only [List.length_append, List.length_singleton]; omega) (by omega)
        rw [List.append_assoc] at hi
        refine Ev.step (fun k => ?_) hi
        have e1 : ((n : Int) % 256) = ((n % 256 : Nat) : Int) := by omega
        have e2 : ((n : Int) / 128) = ((n / 128 : Nat) : Int) := by omega
        rw [code_number.l0, if_pos (by omega), if_pos (by omega), e1, or_byte, e2]
  intro q n l hn hl hq
  rcases Nat.eq_zero_or_pos q with rfl | hp
  · exact go 0 n l (by omega) hl hq
  · obtain ⟨p, rfl⟩ : ∃ p, q = p + 1 := ⟨q - 1, by omega⟩
    exact go p n l hn (by omega) (by omega)
theorem wrap_u (a : Int) : IntKind.u64.wrap a = ((m64 a : Nat) : Int) := by
  unfold m64
  simp [IntKind.wrap, IntKind.bits, IntKind.signed]
  try omega
theorem num_ev (a : Int) (l : List Int) (h : l.length ≤ 100000000000000) : Ev (fun k => code_number.f k l (IntKind.u64.wrap a)) (l ++ numE (m64 a)) := by
  rw [wrap_u]
  exact number_ev 10 (m64 a) l (by have := u64_lt a; omega) (by omega) (by omega)
theorem u64_ten (a : Int) : (numE (m64 a)).length ≤ 10 := numE_ten (u64_lt a)
theorem flat_len {α : Type} (g : α → List Int) (c : Nat) : ∀ l : List α, (∀ x ∈ l, (g x).length ≤ c) → (l.flatMap g).length ≤ l.length * c
  | [], _ => by simp
  | x :: l, h => by
    have h1 := h x List.mem_cons_self
    have h2 := flat_len g c l (fun y hy => h y (List.mem_cons_of_mem _ hy))
    rw [List.flatMap_cons, List.length_append, List.length_cons, Nat.succ_mul]
    omega
theorem flat_take {α : Type} (g : α → List Int) (z : α) (l : List α) (i : Nat) (h : i < l.length) : (l.take (i + 1)).flatMap g = (l.take i).flatMap g ++ g (l.getD i z) := by
  rw [List.take_succ_eq_append_getElem h, List.flatMap_append, ← getD_at l i z h]
  simp
theorem listE_len (l : List Int) : (listE l).length ≤ 10 + l.length * 10 := by
  have h1 := u64_ten l.length
  have h2 := flat_len (fun a => numE (m64 a)) 10 l (fun x _ => u64_ten x)
  unfold listE
  rw [List.length_append]
  omega
theorem list_ev (xs l : List Int) (hl : l.length ≤ 1000) (hx : xs.length ≤ 90000000000000) : Ev (fun k => code_list.f k xs l) (xs ++ listE l) := by
  have hlen := u64_ten (l.length : Int)
  have go : ∀ (m i : Nat), l.length - i = m → i ≤ l.length → Ev (fun k => code_list.l0 k (xs ++ numE (m64 l.length) ++ (l.take i).flatMap fun a => numE (m64 a)) l (l.length : Int) (i : Int)) (xs ++ listE l) := by
    intro m
    induction m with
    | zero =>
      intro i hm hi
      obtain rfl : i = l.length := by omega
      rw [List.take_length, List.append_assoc]
      exact Ev.step (f := fun _ => some _) (fun k => by rw [code_list.l0, if_neg (by omega)]; rfl) (Ev.now _)
    | succ m ih =>
      intro i hm hi
      have hlt : i < l.length := by omega
      have er : rd l (i : Int) = l.getD i 0 := rfl
      have hf := flat_len (fun a => numE (m64 a)) 10 (l.take i) (fun x _ => u64_ten x)
      rw [List.length_take, Nat.min_eq_left hi] at hf
      have h1 := num_ev (l.getD i 0) (xs ++ numE (m64 l.length) ++ (l.take i).flatMap fun a => numE (m64 a)) (by simp only [List.length_append]; omega)
      rw [List.append_assoc (xs ++ numE (m64 (l.length : Int))), ← flat_take (fun a => numE (m64 a)) 0 l i hlt] at h1
      refine Ev.step (f := fun k => (code_number.f k (xs ++ numE (m64 l.length) ++ (l.take i).flatMap fun a => numE (m64 a)) (IntKind.u64.wrap (l.getD i 0))).bind fun t => code_list.l0 k t l (l.length : Int) (wrap64 ((i : Int) + 1))) (fun k => by rw [code_list.l0, if_pos (by omega), if_pos (by omega), if_pos (by omega), er]) ?_
      refine h1.bind (f := fun k t => code_list.l0 k t l (l.length : Int) (wrap64 ((i : Int) + 1))) ?_
      rw [w64n (by omega)]
      exact ih (i + 1) (by omega) (by omega)
  refine (num_ev (l.length : Int) xs (by omega)).bind (f := fun k t => code_list.l0 k t l (l.length : Int) 0) ?_
  have := go _ 0 rfl (by omega)
  simpa using this
/-- A number with a sign, folded. -/
def zig (a : Int) : Int := Go.bits .xor .u64 (IntKind.u64.wrap ((IntKind.u64.wrap a) * 2)) (IntKind.u64.wrap (a / 9223372036854775808))
def signE (a : Int) : List Int := numE (m64 (zig a))
theorem xor_zero (x : Nat) (h : x < 18446744073709551616) : Go.bits .xor .u64 (x : Int) 0 = (x : Int) := by
  unfold Go.bits
  simp only
  have e : (BitVec.ofInt IntKind.u64.bits (x : Int) ^^^ BitVec.ofInt IntKind.u64.bits 0).toNat = x := by
    show (BitVec.ofInt 64 (x : Int) ^^^ BitVec.ofInt 64 0).toNat = x
    have : BitVec.ofInt 64 0 = 0#64 := rfl
    rw [this, BitVec.xor_zero, BitVec.toNat_ofInt]
    omega
  rw [e, wrap_u]
  unfold m64
  omega
theorem xor_ones (x : Nat) (h : x < 18446744073709551616) : Go.bits .xor .u64 (x : Int) 18446744073709551615 = ((18446744073709551615 - x : Nat) : Int) := by
  unfold Go.bits
  simp only
  have e : (BitVec.ofInt IntKind.u64.bits (x : Int) ^^^ BitVec.ofInt IntKind.u64.bits 18446744073709551615).toNat = 18446744073709551615 - x := by
    show (BitVec.ofInt 64 (x : Int) ^^^ BitVec.ofInt 64 18446744073709551615).toNat = 18446744073709551615 - x
    have : BitVec.ofInt 64 18446744073709551615 = BitVec.allOnes 64 := by decide
    rw [this, BitVec.xor_allOnes, BitVec.toNat_not, BitVec.toNat_ofInt]
    omega
  rw [e, wrap_u]
  unfold m64
  omega
theorem zig_eq (a : Int) (h0 : -9223372036854775808 ≤ a) (h1 : a < 9223372036854775808) : zig a = if 0 ≤ a then 2 * a else -2 * a - 1 := by
  unfold zig
  simp only [wrap_u]
  by_cases h : 0 ≤ a
  · rw [if_pos h]
    have e1 : m64 a = a.toNat := by unfold m64; omega
    have e2 : m64 (a / 9223372036854775808) = 0 := by unfold m64; omega
    have e3 : m64 (((m64 a : Nat) : Int) * 2) = (2 * a).toNat := by rw [e1]; unfold m64; omega
    rw [e2, e3]
    show Go.bits .xor .u64 _ 0 = _
    rw [xor_zero _ (by omega)]
    omega
  · rw [if_neg h]
    have e1 : m64 a = (a + 18446744073709551616).toNat := by unfold m64; omega
    have e2 : m64 (a / 9223372036854775808) = 18446744073709551615 := by unfold m64; omega
    have e3 : m64 (((m64 a : Nat) : Int) * 2) = (2 * a + 18446744073709551616).toNat := by rw [e1]; unfold m64; omega
    rw [e2, e3]
    show Go.bits .xor .u64 _ 18446744073709551615 = _
    rw [xor_ones _ (by omega)]
    omega
theorem zig_u (a : Int) : IntKind.u64.wrap (zig a) = zig a := by
  unfold zig Go.bits
  simp only
  rw [wrap_u, wrap_u]
  unfold m64
  omega
theorem signE_ev (a : Int) (l : List Int) (h : l.length ≤ 90000000000000) : Ev (fun k => code_signed.f k l a) (l ++ numE (m64 (zig a))) := by
  have h1 := num_ev (zig a) l (by omega)
  rw [zig_u] at h1
  exact Ev.bind (f := fun _ t => some t) h1 (Ev.now _)
/-! ### In memory -/
/-- The bytes xs, the call's own, made since w0. -/
structure OB (w0 w : World) (v : Value) (xs : List Int) : Prop where
  low : Below w0.heap.size w0 w
  row : Kd.R (Kd.int .u8) 5 w w0.heap.size (fun k => some k = v.ownBlock) v xs
/-- From w (bytes v) to W (bytes V): all else stays. -/
structure Gr (w : World) (v : Value) (W : World) (V : Value) : Prop where
  kept : Kept w W (fun k => some k = v.ownBlock)
  own : ∀ k, V.ownBlock = some k → v.ownBlock = some k ∨ w.heap.size ≤ k
theorem Gr.refl (w : World) (v : Value) : Gr w v w v := ⟨Kept.refl _ _, fun k h => .inl h⟩
theorem Gr.trans {w W U : World} {v V X : Value} (h : Gr w v W V) (k : Gr W V U X) : Gr w v U X :=
  ⟨h.kept.then_ k.kept (fun j hj => (h.own j hj.symm).imp (fun e => e.symm) id), fun j hj => by
    rcases k.own j hj with e | e
    · exact h.own j e
    · exact .inr (Nat.le_trans h.kept.1 e)⟩
theorem Gr.blk {w W : World} {v V : Value} (h : Gr w v W V) {g : Nat} {o : Obj} (hg : w.heap[g]? = some o) (hne : v.ownBlock ≠ some g) : W.heap[g]? = some o :=
  (h.kept.2 g (blk_lt hg) (fun e => hne e.symm)).trans hg
theorem Gr.ne {w W : World} {v V : Value} (h : Gr w v W V) {g : Nat} (hg : g < w.heap.size) (hne : v.ownBlock ≠ some g) : V.ownBlock ≠ some g := fun e => by
  rcases h.own g e with e | e
  · exact hne e
  · omega
theorem OB.of {w0 w w' : World} {v v' : Value} {xs : List Int} (hB : Below w0.heap.size w0 w') (hR : Kd.R (Kd.int .u8) 5 w' w0.heap.size (fun k => some k = v.ownBlock ∨ w.heap.size ≤ k) v' xs) (hk : Kept w w' (fun k => some k = v.ownBlock)) : OB w0 w' v' xs ∧ Gr w v w' v' :=
  ⟨⟨hB, Kd.R_tight rfl hR⟩, hk, fun k e => (hR.1 k e).imp (fun e => e.symm) id⟩
theorem number_any {w0 w : World} {v : Value} {xs : List Int} (h : OB w0 w v xs) (a : Int) (hx : xs.length ≤ 90000000000000) :
    Calls Tryd.prog 21 #[v, .int .u64 (IntKind.u64.wrap a)] w fun e w' => ∃ v', e = .returned v' ∧ OB w0 w' v' (xs ++ numE (m64 a)) ∧ Gr w v w' v' := by
  obtain ⟨k, hk⟩ := (num_ev a xs (by omega)).rounds
  refine (code_number.calls k _ v xs _ _ w0 w h.low h.row hk).mono ?_
  rintro e w' ⟨v', rfl, hR, hB, hK⟩
  exact ⟨v', rfl, OB.of hB hR hK⟩
theorem list_any {w0 w : World} {v : Value} {xs l : List Int} (h : OB w0 w v xs) (hl : l.length ≤ 1000) (hx : xs.length ≤ 80000000000000) (A : Option Addr) (c : Nat) (hr : Kd.C (Kd.int .i64) w0 A l.length l) (hc : l.length ≤ c) :
    Calls Tryd.prog 22 #[v, .slice A l.length c] w fun e w' => ∃ v', e = .returned v' ∧ OB w0 w' v' (xs ++ listE l) ∧ Gr w v w' v' := by
  obtain ⟨k, hk⟩ := (list_ev xs l hl (by omega)).rounds
  refine (code_list.calls k _ v xs A c l _ w0 w h.low h.row (fun W hW => ?_) hc hk).mono ?_
  · refine Kd.F_now (Kd.F_step (Kd.C_F (Kd.heap_int .i64) hr) (fun j hj hlt => ?_))
    have hb := Kd.R_base h.row
    rw [hW.2 j (Nat.lt_of_lt_of_le hlt h.low.size) (fun e => by have := hb j e.symm; omega)]
    exact h.low.block j hlt
  · rintro e w' ⟨v', rfl, hR, hB, hK⟩
    exact ⟨v', rfl, OB.of hB hR hK⟩
theorem signed_any {w0 w : World} {v : Value} {xs : List Int} (h : OB w0 w v xs) (a : Int) (hx : xs.length ≤ 90000000000000) :
    Calls Tryd.prog 42 #[v, .int .i64 a] w fun e w' => ∃ v', e = .returned v' ∧ OB w0 w' v' (xs ++ signE a) ∧ Gr w v w' v' := by
  obtain ⟨k, hk⟩ := (signE_ev a xs hx).rounds
  refine (code_signed.calls k _ v xs _ _ w0 w h.low h.row hk).mono ?_
  rintro e w' ⟨v', rfl, hR, hB, hK⟩
  exact ⟨v', rfl, OB.of hB hR hK⟩
end Go.Proofs.YtckebppacealeaaDoor.Rk
