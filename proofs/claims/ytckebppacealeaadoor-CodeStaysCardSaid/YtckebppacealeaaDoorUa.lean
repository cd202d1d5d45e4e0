/- The plain law of code.Decode: what was encoded is decoded as it was; what was decoded is encoded as what was read. Conditions: bytes are bytes. -/
import Derived.Test.YtckebppacealeaaDoorTg
import Derived.Test.YtckebppacealeaaDoorRd
namespace Go.Proofs.YtckebppacealeaaDoor.Rk
open Go.RowKit Go.Proofs.YtckebppacealeaaDoorW.PrintWords Go.Proofs.YtckebppacealeaaDoor.PCodeUnlike Go.Proofs.YtckebppacealeaaDoor.Lp Go.Proofs.YtckebppacealeaaDoor.Lk Go.Proofs.YtckebppacealeaaDoor.Lr
set_option linter.unusedVariables false
variable {bs : List Int}
theorem numE_one {n : Nat} (h : n < 128) : numE n = [(n : Int)] := by rw [numE, if_pos h]
theorem numE_more {n : Nat} (h : ¬ n < 128) : numE n = ((n % 128 + 128 : Nat) : Int) :: numE (n / 128) := by rw [numE, if_neg h]
theorem dGo_back (hby : ∀ a ∈ bs, Byte a) (frm : Nat) : ∀ (k i n at_ : Nat), i + k = 10 → (dGo bs frm k i n at_).2.err = none →
    ∃ m, (dGo bs frm k i n at_).1 = n + m * 128 ^ i ∧ bs.drop at_ = numE m ++ bs.drop (dGo bs frm k i n at_).2.pos ∧ (0 < i → 0 < m) ∧ m < 2 * 128 ^ (9 - i) := by
  intro k
  induction k with
  | zero => intro i n at_ _ h; exact absurd h (by simp [dGo])
  | succ k ih =>
    intro i n at_ hi
    rw [dGo]
    by_cases c1 : bs.length ≤ at_
    · rw [if_pos c1]; intro h; exact absurd h (by simp)
    rw [if_neg c1]
    have hb := hby _ (getD_mem bs at_ 0 (by omega))
    have hd := drop_at bs at_ 0 (by omega)
    generalize bs.getD at_ 0 = x at hb hd ⊢
    unfold Byte at hb
    split
    · intro h; exact absurd h (by simp)
    rename_i h1
    split
    · rename_i h2
      intro _
      refine ⟨x.toNat, ?_, ?_, fun h => by omega, ?_⟩
      · show n + x.toNat % 128 * 128 ^ i = _
        rw [Nat.mod_eq_of_lt (by omega)]
      · rw [hd, numE_one (by omega), Int.toNat_of_nonneg hb.1]
        rfl
      · by_cases h9 : i = 9
        · subst h9
          simp
          omega
        · have h3 : (128 : Nat) ^ 1 ≤ 128 ^ (9 - i) := Nat.pow_le_pow_right (by omega) (by omega)
          omega
    · rename_i h2
      intro he
      have i9 : i ≠ 9 := fun e => h1 (.inl ⟨e, by omega⟩)
      have hk : k ≠ 0 := by
        rintro rfl
        exact absurd he (by simp [dGo])
      obtain ⟨m, e1, e2, e3, e4⟩ := ih (i + 1) _ _ (by omega) he
      have e3 := e3 (by omega)
      refine ⟨x.toNat % 128 + 128 * m, ?_, ?_, fun _ => by omega, ?_⟩
      · rw [e1, Nat.pow_succ, Nat.add_mul, ← Nat.add_assoc]
        congr 1
        rw [Nat.mul_comm (128 ^ i) 128, ← Nat.mul_assoc, Nat.mul_comm m 128]
      · rw [hd, e2, numE_more (n := x.toNat % 128 + 128 * m) (by omega), List.cons_append]
        congr 1
        · omega
        · congr 2
          omega
      · have h3 : (128 : Nat) ^ (9 - i) = 128 * 128 ^ (9 - (i + 1)) := by
          rw [show 9 - i = (9 - (i + 1)) + 1 by omega, Nat.pow_succ, Nat.mul_comm]
        rw [h3]
        omega
theorem drop_cons_at {x : Int} {r : List Int} {p : Nat} (h : bs.drop p = x :: r) : p < bs.length ∧ bs.getD p 0 = x ∧ bs.drop (p + 1) = r := by
  have hl : p < bs.length := by
    rcases Nat.lt_or_ge p bs.length with h1 | h1
    · exact h1
    · rw [List.drop_eq_nil_of_le h1] at h
      cases h
  rw [drop_at bs p 0 hl] at h
  exact ⟨hl, (List.cons.inj h).1, (List.cons.inj h).2⟩
theorem dGo_forth (frm : Nat) : ∀ (k i m n at_ : Nat) (r : List Int), i + (k + 1) = 10 → (0 < i → 0 < m) → m < 2 * 128 ^ (9 - i) → bs.drop at_ = numE m ++ r →
    dGo bs frm (k + 1) i n at_ = (n + m * 128 ^ i, ⟨at_ + (numE m).length, none⟩) := by
  intro k
  induction k with
  | zero =>
    intro i m n at_ r hi h0 hm h
    have hi9 : i = 9 := by omega
    subst hi9
    have hm : m < 2 := by simpa using hm
    rw [numE_one (by omega)] at h ⊢
    obtain ⟨h1, h2, h3⟩ := drop_cons_at h
    rw [dGo, h2, if_neg (by omega), if_neg (by omega), if_pos (by omega)]
    show (n + (m : Int).toNat % 128 * 128 ^ 9, _) = _
    rw [Int.toNat_natCast, Nat.mod_eq_of_lt (by omega)]
    rfl
  | succ k ih =>
    intro i m n at_ r hi h0 hm h
    by_cases c : m < 128
    · rw [numE_one c] at h ⊢
      obtain ⟨h1, h2, h3⟩ := drop_cons_at h
      have i9 : ¬ ((i = 9 ∧ 1 < (m : Int)) ∨ ((m : Int) = 0 ∧ 0 < i)) := by omega
      rw [dGo, h2, if_neg (by omega), if_neg i9, if_pos (by omega), Int.toNat_natCast, Nat.mod_eq_of_lt (by omega)]
      rfl
    · rw [numE_more c] at h ⊢
      obtain ⟨h1, h2, h3⟩ := drop_cons_at h
      have h4 : (128 : Nat) ^ (9 - i) = 128 * 128 ^ (9 - (i + 1)) := by
        rw [show 9 - i = (9 - (i + 1)) + 1 by omega, Nat.pow_succ, Nat.mul_comm]
      have i9 : ¬ ((i = 9 ∧ 1 < ((m % 128 + 128 : Nat) : Int)) ∨ (((m % 128 + 128 : Nat) : Int) = 0 ∧ 0 < i)) := by omega
      rw [dGo, h2, if_neg (by omega), if_neg i9, if_neg (by omega), Int.toNat_natCast]
      rw [ih (i + 1) (m / 128) _ _ r (by omega) (fun _ => by omega) (by rw [h4] at hm; omega) h3]
      have e1 : (m % 128 + 128) % 128 = m % 128 := by omega
      rw [e1]
      have e2 : n + m % 128 * 128 ^ i + m / 128 * 128 ^ (i + 1) = n + m * 128 ^ i := by
        rw [Nat.pow_succ, Nat.add_assoc, Nat.mul_comm (128 ^ i) 128, ← Nat.mul_assoc, ← Nat.add_mul]
        congr 2
        omega
      rw [e2, List.length_cons]
      congr 2
      omega
/-- A reader of one thing: what it reads is what the bytes there are of, by enc; where it fails it says so. -/
structure Rds {α : Type} (bs : List Int) (f : St → α × St) (enc : α → List Int) (P : α → Prop) : Prop where
  back : ∀ st, (f st).2.err = none → st.err = none ∧ P (f st).1 ∧ bs.drop st.pos = enc (f st).1 ++ bs.drop (f st).2.pos
  forth : ∀ p a r, P a → bs.drop p = enc a ++ r → f ⟨p, none⟩ = (a, ⟨p + (enc a).length, none⟩)
theorem rds_num (hby : ∀ a ∈ bs, Byte a) : Rds bs (dNum bs) numE (fun n => n < 18446744073709551616) := by
  refine ⟨fun st h => ?_, fun p a r ha h => ?_⟩
  · obtain ⟨pos, err⟩ := st
    cases err with
    | some e => exact absurd h (by simp [dNum])
    | none =>
      obtain ⟨m, e1, e2, _, e4⟩ := dGo_back hby pos 10 0 0 pos rfl h
      have e5 : (dNum bs ⟨pos, none⟩).1 = m := by
        show (dGo bs pos 10 0 0 pos).1 = m
        rw [e1]
        simp
      refine ⟨rfl, ?_, ?_⟩
      · show (dNum bs ⟨pos, none⟩).1 < _
        rw [e5]
        simpa using e4
      · rw [e5]
        exact e2
  · show dGo bs p 10 0 0 p = _
    rw [dGo_forth p 9 0 a 0 p r rfl (fun h => absurd h (by omega)) (by simpa using ha) h]
    simp
theorem dFail_err (st : St) (p : Nat) (c : Int) : (dFail st p c).err ≠ none := by
  unfold dFail
  cases h : st.err with
  | none => simp
  | some e => simp [h]
theorem rds_int (hby : ∀ a ∈ bs, Byte a) : Rds bs (dInt bs) numE (fun n => n ≤ 2147483648) := by
  have hn := rds_num hby
  refine ⟨fun st h => ?_, fun p a r ha h => ?_⟩
  · unfold dInt at h ⊢
    by_cases c : 2147483648 < (dNum bs st).1
    · rw [if_pos c] at h; exact absurd h (dFail_err _ _ _)
    · rw [if_neg c] at h ⊢
      obtain ⟨h1, _, h3⟩ := hn.back st h
      exact ⟨h1, by omega, h3⟩
  · have := hn.forth p a r (by omega) h
    unfold dInt
    rw [this, if_neg (by show ¬ 2147483648 < a; omega)]
theorem rds_count (hby : ∀ a ∈ bs, Byte a) (most : Nat) (hm : most ≤ 2147483648) : Rds bs (dCount bs most) numE (fun n => n ≤ most) := by
  have hn := rds_int hby
  refine ⟨fun st h => ?_, fun p a r ha h => ?_⟩
  · unfold dCount at h ⊢
    by_cases c : most < (dInt bs st).1
    · rw [if_pos c] at h; exact absurd h (dFail_err _ _ _)
    · rw [if_neg c] at h ⊢
      obtain ⟨h1, _, h3⟩ := hn.back st h
      exact ⟨h1, by omega, h3⟩
  · have := hn.forth p a r (by omega) h
    unfold dCount
    rw [this, if_neg (by show ¬ most < a; omega)]
theorem Rds.map {α β : Type} {f : St → α × St} {enc : α → List Int} {P : α → Prop} {enc' : β → List Int} {Q : β → Prop} (h : Rds bs f enc P) (j : α → β) (k : β → α)
    (h1 : ∀ a, P a → Q (j a) ∧ enc' (j a) = enc a) (h2 : ∀ b, Q b → P (k b) ∧ j (k b) = b) : Rds bs (fun st => (j (f st).1, (f st).2)) enc' Q := by
  refine ⟨fun st he => ?_, fun p b r hb hd => ?_⟩
  · obtain ⟨e1, e2, e3⟩ := h.back st he
    refine ⟨e1, (h1 _ e2).1, ?_⟩
    show _ = enc' (j (f st).1) ++ _
    rw [(h1 _ e2).2]
    exact e3
  · obtain ⟨hp, hj⟩ := h2 b hb
    have he : enc' b = enc (k b) := by
      have := (h1 _ hp).2
      rwa [hj] at this
    have := h.forth p (k b) r hp (by rw [← he]; exact hd)
    show (j (f ⟨p, none⟩).1, (f ⟨p, none⟩).2) = _
    rw [this, he]
    exact congrArg (fun z => (z, (⟨p + (enc (k b)).length, none⟩ : St))) hj
theorem Rds.pair {α β : Type} {f : St → α × St} {g : St → β × St} {ea : α → List Int} {eb : β → List Int} {P : α → Prop} {Q : β → Prop} (h : Rds bs f ea P) (k : Rds bs g eb Q) :
    Rds bs (fun st => (((f st).1, (g (f st).2).1), (g (f st).2).2)) (fun x => ea x.1 ++ eb x.2) (fun x => P x.1 ∧ Q x.2) := by
  refine ⟨fun st he => ?_, fun p x r hx hd => ?_⟩
  · obtain ⟨k1, k2, k3⟩ := k.back _ he
    obtain ⟨h1, h2, h3⟩ := h.back _ k1
    refine ⟨h1, ⟨h2, k2⟩, ?_⟩
    show _ = (ea (f st).1 ++ eb (g (f st).2).1) ++ _
    rw [List.append_assoc, ← k3]
    exact h3
  · obtain ⟨a, b⟩ := x
    dsimp only at hd
    rw [List.append_assoc] at hd
    have e1 := h.forth p a _ hx.1 hd
    have e2 : bs.drop (p + (ea a).length) = eb b ++ r := by
      rw [← List.drop_drop, hd, List.drop_append_of_le_length (Nat.le_refl _), List.drop_length, List.nil_append]
    have e3 := k.forth _ b r hx.2 e2
    show (((f ⟨p, none⟩).1, (g (f ⟨p, none⟩).2).1), (g (f ⟨p, none⟩).2).2) = _
    rw [e1]
    dsimp only
    rw [e3]
    dsimp only
    rw [List.length_append, Nat.add_assoc]
theorem rep_back {α : Type} {f : St → α × St} {enc : α → List Int} {P : α → Prop} (h : Rds bs f enc P) : ∀ (n : Nat) (st : St), (dRep f n st).2.err = none →
    st.err = none ∧ (dRep f n st).1.length = n ∧ (∀ x ∈ (dRep f n st).1, P x) ∧ bs.drop st.pos = (dRep f n st).1.flatMap enc ++ bs.drop (dRep f n st).2.pos := by
  intro n
  induction n with
  | zero => intro st he; exact ⟨he, rfl, fun x hx => absurd hx List.not_mem_nil, rfl⟩
  | succ n ih =>
    intro st he
    obtain ⟨pos, err⟩ := st
    cases err with
    | some e => rw [dRep_err f _ _ rfl] at he; exact absurd he (by simp)
    | none =>
      rw [dRep_none] at he ⊢
      obtain ⟨i1, i2, i3, i4⟩ := ih _ he
      obtain ⟨_, h2, h3⟩ := h.back _ i1
      refine ⟨rfl, ?_, ?_, ?_⟩
      · show ((f ⟨pos, none⟩).1 :: _).length = _
        rw [List.length_cons, i2]
      · intro x hx
        rcases List.mem_cons.1 hx with e | e
        · rw [e]; exact h2
        · exact i3 x e
      · show _ = ((f ⟨pos, none⟩).1 :: _).flatMap enc ++ _
        rw [List.flatMap_cons, List.append_assoc, ← i4]
        exact h3
theorem rep_forth {α : Type} {f : St → α × St} {enc : α → List Int} {P : α → Prop} (h : Rds bs f enc P) : ∀ (l : List α) (p : Nat) (r : List Int), (∀ x ∈ l, P x) → bs.drop p = l.flatMap enc ++ r →
    dRep f l.length ⟨p, none⟩ = (l, ⟨p + (l.flatMap enc).length, none⟩) := by
  intro l
  induction l with
  | nil => intro p r _ _; rfl
  | cons x l ih =>
    intro p r hx hd
    rw [List.flatMap_cons, List.append_assoc] at hd
    have e1 := h.forth p x _ (hx x List.mem_cons_self) hd
    have e2 : bs.drop (p + (enc x).length) = l.flatMap enc ++ r := by
      rw [← List.drop_drop, hd, List.drop_append_of_le_length (Nat.le_refl _), List.drop_length, List.nil_append]
    rw [List.length_cons, dRep_none, e1]
    dsimp only
    rw [ih _ r (fun y hy => hx y (List.mem_cons_of_mem _ hy)) e2]
    dsimp only
    rw [List.flatMap_cons, List.length_append, Nat.add_assoc]
/-- A list with its count ahead. -/
theorem rds_many {α : Type} {f : St → α × St} {enc : α → List Int} {P : α → Prop} (hby : ∀ a ∈ bs, Byte a) (h : Rds bs f enc P) (most : Nat) (hm : most ≤ 2147483648) :
    Rds bs (dMany bs most f) (fun l => numE l.length ++ l.flatMap enc) (fun l => l.length ≤ most ∧ ∀ x ∈ l, P x) := by
  have hc := rds_count hby most hm
  refine ⟨fun st he => ?_, fun p l r hl hd => ?_⟩
  · obtain ⟨i1, i2, i3, i4⟩ := rep_back h _ _ he
    obtain ⟨h1, h2, h3⟩ := hc.back _ i1
    refine ⟨h1, ⟨?_, i3⟩, ?_⟩
    · show (dRep f _ _).1.length ≤ most
      rw [i2]
      exact h2
    · show _ = (numE (dRep f (dCount bs most st).1 (dCount bs most st).2).1.length ++ _) ++ _
      rw [i2, List.append_assoc]
      exact h3.trans (congrArg _ i4)
  · rw [List.append_assoc] at hd
    have e1 := hc.forth p l.length _ hl.1 hd
    have e2 : bs.drop (p + (numE l.length).length) = l.flatMap enc ++ r := by
      rw [← List.drop_drop, hd, List.drop_append_of_le_length (Nat.le_refl _), List.drop_length, List.nil_append]
    show dRep f (dCount bs most ⟨p, none⟩).1 (dCount bs most ⟨p, none⟩).2 = _
    rw [e1]
    dsimp only
    rw [rep_forth h l _ r hl.2 e2, List.length_append, Nat.add_assoc]
end Go.Proofs.YtckebppacealeaaDoor.Rk
