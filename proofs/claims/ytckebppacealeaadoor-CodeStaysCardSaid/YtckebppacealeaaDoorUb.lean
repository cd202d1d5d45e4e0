/- What was encoded is decoded as it was; what was decoded is encoded as what was read. Conditions: bytes are bytes; a proper module of 64 bits. -/
import Derived.Test.YtckebppacealeaaDoorUa
namespace Go.Proofs.YtckebppacealeaaDoor.Rk
open Go.RowKit Go.Proofs.YtckebppacealeaaDoorW.PrintWords Go.Proofs.YtckebppacealeaaDoor.PCodeUnlike Go.Proofs.YtckebppacealeaaDoor.Lp Go.Proofs.YtckebppacealeaaDoor.Lk Go.Proofs.YtckebppacealeaaDoor.Lr
set_option linter.unusedVariables false
variable {bs : List Int}
/-- What a reader reads as a number. -/
def QI (a : Int) : Prop := 0 ≤ a ∧ a ≤ 2147483648
def QL (l : List Int) : Prop := l.length ≤ 256 ∧ ∀ a ∈ l, QI a
theorem m64_n {n : Nat} (h : n < 18446744073709551616) : m64 (n : Int) = n := by unfold m64; omega
theorem rds_i (hby : ∀ a ∈ bs, Byte a) : Rds bs (dI bs) (fun a => numE (m64 a)) QI :=
  (rds_int hby).map (fun n => (n : Int)) Int.toNat (fun a ha => ⟨by unfold QI; omega, by rw [m64_n (by omega)]⟩) (fun b hb => by unfold QI at hb; exact ⟨by omega, by omega⟩)
def dD (bs : List Int) (st : St) : Int × St := (((dInt bs st).1 : Int) - 1, (dInt bs st).2)
theorem rds_d (hby : ∀ a ∈ bs, Byte a) : Rds bs (dD bs) (fun a => numE (m64 (wrap64 (a + 1)))) (fun a => QI (a + 1)) :=
  (rds_int hby).map (fun n => (n : Int) - 1) (fun a => (a + 1).toNat) (fun a ha => ⟨by unfold QI; omega, by
    have e : wrap64 ((a : Int) - 1 + 1) = (a : Int) := by unfold wrap64; omega
    rw [e, m64_n (by omega)]⟩) (fun b hb => by unfold QI at hb; exact ⟨by omega, by omega⟩)
def dS (bs : List Int) (st : St) : Int × St := (zag (dNum bs st).1, (dNum bs st).2)
theorem rds_s (hby : ∀ a ∈ bs, Byte a) : Rds bs (dS bs) signE R64 :=
  (rds_num hby).map zag (fun a => m64 (zig a)) (fun a ha => by
    have hr : R64 (zag a) := by unfold R64 zag; split <;> omega
    refine ⟨hr, ?_⟩
    unfold signE
    rw [zig_eq _ hr.1 hr.2]
    congr 1
    unfold m64 zag
    by_cases c : a % 2 = 0
    · rw [if_pos c, if_pos (by omega)]; omega
    · rw [if_neg c, if_neg (by omega)]; omega) (fun b hb => by
    refine ⟨u64_lt _, ?_⟩
    rw [zig_eq b hb.1 hb.2]
    unfold R64 at hb
    unfold m64 zag
    by_cases c : 0 ≤ b
    · rw [if_pos c, if_pos (by omega)]; omega
    · rw [if_neg c, if_neg (by omega)]; omega)
theorem rds_list (hby : ∀ a ∈ bs, Byte a) : Rds bs (dList bs) listE QL :=
  (rds_many hby (rds_i hby) 256 (by omega)).map (fun l => l) (fun l => l) (fun l hl => ⟨hl, by unfold listE; rw [m64_n (by have := hl.1; omega)]⟩) (fun l hl => ⟨hl, rfl⟩)
def QPhi (p : Ph) : Prop := QI p.f0 ∧ QL p.f1
theorem rds_phi (hby : ∀ a ∈ bs, Byte a) : Rds bs (dPhi bs) encPhi QPhi :=
  ((rds_i hby).pair (rds_list hby)).map (fun x => (⟨x.1, x.2⟩ : Ph)) (fun p => (p.f0, p.f1)) (fun x hx => ⟨hx, rfl⟩) (fun p hp => ⟨hp, rfl⟩)
def QIns (x : In) : Prop := QI x.f0 ∧ QI (x.f1 + 1) ∧ QL x.f2 ∧ R64 x.f3 ∧ QI x.f4
theorem rds_ins (hby : ∀ a ∈ bs, Byte a) : Rds bs (dInstr bs) encIns QIns :=
  ((rds_i hby).pair ((rds_d hby).pair ((rds_list hby).pair ((rds_s hby).pair (rds_i hby))))).map (fun x => (⟨x.1, x.2.1, x.2.2.1, x.2.2.2.1, x.2.2.2.2⟩ : In)) (fun x => (x.f0, x.f1, x.f2, x.f3, x.f4))
    (fun x hx => ⟨hx, by simp only [encIns, List.append_assoc]⟩) (fun p hp => ⟨hp, rfl⟩)
def QTerm (t : Tm) : Prop := QI t.f0 ∧ QI (t.f1 + 1) ∧ QL t.f2
theorem rds_term (hby : ∀ a ∈ bs, Byte a) : Rds bs (dTerm bs) encTerm QTerm :=
  ((rds_i hby).pair ((rds_d hby).pair (rds_list hby))).map (fun x => (⟨x.1, x.2.1, x.2.2⟩ : Tm)) (fun x => (x.f0, x.f1, x.f2))
    (fun x hx => ⟨hx, by simp only [encTerm, List.append_assoc]⟩) (fun p hp => ⟨hp, rfl⟩)
theorem Rds.of_eq {α : Type} {f g : St → α × St} {enc : α → List Int} {P : α → Prop} (h : Rds bs f enc P) (e : ∀ st, g st = f st) : Rds bs g enc P := by
  have : g = f := funext e
  rw [this]
  exact h
def QBlock (b : Bk) : Prop := (b.f0.length ≤ 256 ∧ ∀ p ∈ b.f0, QPhi p) ∧ (b.f1.length ≤ 256 ∧ ∀ x ∈ b.f1, QIns x) ∧ QTerm b.f2
theorem rds_block (hby : ∀ a ∈ bs, Byte a) : Rds bs (dBlock bs) encBlock QBlock :=
  Rds.of_eq (((rds_many hby (rds_phi hby) 256 (by omega)).pair ((rds_many hby (rds_ins hby) 256 (by omega)).pair (rds_term hby))).map (fun x => (⟨x.1, x.2.1, x.2.2⟩ : Bk)) (fun x => (x.f0, x.f1, x.f2))
    (fun x hx => ⟨hx, by simp only [encBlock, List.append_assoc]; rw [m64_n (by have := hx.1.1; omega), m64_n (by have := hx.2.1.1; omega)]⟩) (fun p hp => ⟨hp, rfl⟩)) (fun st => by unfold dBlock; dsimp only)
def QFunc (f : Lk.Fn) : Prop := QI f.f0 ∧ QI f.f1 ∧ QL f.f2 ∧ (f.f3.length ≤ 64 ∧ ∀ b ∈ f.f3, QBlock b)
theorem rds_func (hby : ∀ a ∈ bs, Byte a) : Rds bs (dFunc bs) encFunc QFunc :=
  Rds.of_eq (((rds_i hby).pair ((rds_i hby).pair ((rds_list hby).pair (rds_many hby (rds_block hby) 64 (by omega))))).map (fun x => (⟨x.1, x.2.1, x.2.2.1, x.2.2.2⟩ : Lk.Fn)) (fun x => (x.f0, x.f1, x.f2, x.f3))
    (fun x hx => ⟨hx, by simp only [encFunc, List.append_assoc]; rw [m64_n (by have := hx.2.2.2.1; omega)]⟩) (fun p hp => ⟨hp, rfl⟩)) (fun st => by unfold dFunc dI; dsimp only)
def QMod (m : List Lk.Fn) : Prop := m.length ≤ 32 ∧ ∀ f ∈ m, QFunc f
theorem rds_mod (hby : ∀ a ∈ bs, Byte a) : Rds bs (dMany bs 32 (dFunc bs)) (fun m => numE (m64 m.length) ++ m.flatMap encFunc) QMod :=
  (rds_many hby (rds_func hby) 32 (by omega)).map (fun l => l) (fun l => l) (fun l hl => ⟨hl, by rw [m64_n (by have := hl.1; omega)]⟩) (fun l hl => ⟨hl, rfl⟩)
/-- What was encoded is decoded as it was. -/
theorem dec_enc {m : List Lk.Fn} (hq : QMod m) (hm : modE m = none) : dMod (encMod m) = (m, none) := by
  have e0 : encMod m = [102, 116, 108, 49] ++ (numE (m64 m.length) ++ m.flatMap encFunc) := by unfold encMod; rw [List.append_assoc]
  have e1 : (encMod m).take 4 = [102, 116, 108, 49] := by rw [e0]; rfl
  have e2 : (encMod m).drop 4 = (numE (m64 m.length) ++ m.flatMap encFunc) ++ [] := by rw [e0, List.append_nil]; rfl
  have e3 := (rds_mod (bs := encMod m) (mod_byte m)).forth 4 m [] hq e2
  have e4 : (encMod m).length = 4 + (numE (m64 m.length) ++ m.flatMap encFunc).length := by rw [e0, List.length_append]; rfl
  unfold dMod dBody
  rw [if_pos e1, e3]
  dsimp only
  unfold dTail
  dsimp only
  rw [if_neg (by rw [← e4]; omega)]
  unfold dDone
  dsimp only
  rw [hm]
/-- What was decoded is encoded as what was read. -/
theorem enc_dec (hby : ∀ a ∈ bs, Byte a) (h : (dMod bs).2 = none) : encMod (dMod bs).1 = bs ∧ modE (dMod bs).1 = none ∧ QMod (dMod bs).1 := by
  unfold dMod at h ⊢
  by_cases c : bs.take 4 = [102, 116, 108, 49]
  · rw [if_pos c] at h ⊢
    have hb := (rds_mod hby).back ⟨4, none⟩
    change (dBody bs).2.err = none → _ ∧ QMod (dBody bs).1 ∧ bs.drop 4 = (numE (m64 (dBody bs).1.length) ++ (dBody bs).1.flatMap encFunc) ++ bs.drop (dBody bs).2.pos at hb
    generalize dBody bs = D at h hb ⊢
    obtain ⟨m, pos, err⟩ := D
    dsimp only at h hb ⊢
    cases err with
    | some e => exact absurd h (by simp [dTail, dDone])
    | none =>
      by_cases cp : pos < bs.length
      · simp [dTail, dDone, cp] at h
      · have e1 : dTail bs ⟨pos, none⟩ = ⟨pos, none⟩ := by unfold dTail; dsimp only; rw [if_neg cp]
        rw [e1] at h ⊢
        unfold dDone at h ⊢
        dsimp only at h ⊢
        cases hm : modE m with
        | some e => rw [hm] at h; exact absurd h (by simp)
        | none =>
          rw [hm] at h
          dsimp only
          obtain ⟨_, h2, h3⟩ := hb rfl
          refine ⟨?_, hm, h2⟩
          rw [List.drop_eq_nil_of_le (by omega : bs.length ≤ pos), List.append_nil] at h3
          have h4 := List.take_append_drop 4 bs
          rw [c, h3] at h4
          unfold encMod
          rw [List.append_assoc]
          exact h4
  · rw [if_neg c] at h
    exact absurd h (by simp)
end Go.Proofs.YtckebppacealeaaDoor.Rk
