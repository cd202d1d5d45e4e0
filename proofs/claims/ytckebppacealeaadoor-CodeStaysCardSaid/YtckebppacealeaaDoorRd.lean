/- Unlike modules have unlike bytes: each part's bytes are the beginning of no other part's. Conditions: numbers of 64 bits with a sign, small modules. -/
import Derived.Test.YtckebppacealeaaDoorRc
import Derived.Test.YtckebppacealeaaDoorLr
namespace Go.Proofs.YtckebppacealeaaDoor.Rk
open Go.RowKit Go.Proofs.YtckebppacealeaaDoorW.PrintWords Go.Proofs.YtckebppacealeaaDoor.PCodeUnlike Go.Proofs.YtckebppacealeaaDoor.Lp Go.Proofs.YtckebppacealeaaDoor.Lk Go.Proofs.YtckebppacealeaaDoor.Lr
set_option linter.unusedVariables false
/-- Bytes by g tell what they are of, and where they end. -/
def Pf {α : Type} (g : α → List Int) (Q : α → Prop) : Prop := ∀ x y r s, Q x → Q y → g x ++ r = g y ++ s → x = y ∧ r = s
theorem pf_nat : ∀ (k n m : Nat) (r s : List Int), n ≤ k → numE n ++ r = numE m ++ s → n = m ∧ r = s := by
  intro k
  induction k with
  | zero =>
    intro n m r s hk h
    obtain rfl : n = 0 := by omega
    unfold numE at h
    rw [if_pos (by omega)] at h
    by_cases hm : m < 128
    · rw [if_pos hm] at h
      simp only [List.cons_append, List.nil_append, List.cons.injEq] at h
      exact ⟨by omega, h.2⟩
    · rw [if_neg hm] at h
      simp only [List.cons_append, List.nil_append, List.cons.injEq] at h
      omega
  | succ k ih =>
    intro n m r s hk h
    unfold numE at h
    by_cases hn : n < 128
    · rw [if_pos hn] at h
      by_cases hm : m < 128
      · rw [if_pos hm] at h
        simp only [List.cons_append, List.nil_append, List.cons.injEq] at h
        exact ⟨by omega, h.2⟩
      · rw [if_neg hm] at h
        simp only [List.cons_append, List.nil_append, List.cons.injEq] at h
        omega
    · rw [if_neg hn] at h
      by_cases hm : m < 128
      · rw [if_pos hm] at h
        simp only [List.cons_append, List.nil_append, List.cons.injEq] at h
        omega
      · rw [if_neg hm] at h
        simp only [List.cons_append, List.cons.injEq] at h
        obtain ⟨h1, h2⟩ := ih (n / 128) (m / 128) r s (by omega) h.2
        exact ⟨by omega, h2⟩
theorem m64_inj {a b : Int} (h : m64 a = m64 b) (ha : R64 a) (hb : R64 b) : a = b := by
  unfold m64 at h
  unfold R64 at ha hb
  omega
theorem pf_int : Pf (fun a => numE (m64 a)) R64 := fun x y r s hx hy h => by
  obtain ⟨h1, h2⟩ := pf_nat _ _ _ r s (Nat.le_refl _) h
  exact ⟨m64_inj h1 hx hy, h2⟩
theorem pf_succ : Pf (fun a => numE (m64 (wrap64 (a + 1)))) R64 := fun x y r s hx hy h => by
  obtain ⟨h1, h2⟩ := pf_nat _ _ _ r s (Nat.le_refl _) h
  refine ⟨?_, h2⟩
  unfold m64 wrap64 at h1
  unfold R64 at hx hy
  omega
theorem pf_sign : Pf signE R64 := fun x y r s hx hy h => by
  obtain ⟨h1, h2⟩ := pf_nat _ _ _ r s (Nat.le_refl _) h
  refine ⟨?_, h2⟩
  unfold R64 at hx hy
  rw [zig_eq x hx.1 hx.2, zig_eq y hy.1 hy.2] at h1
  unfold m64 at h1
  by_cases c1 : 0 ≤ x <;> by_cases c2 : 0 ≤ y <;> simp only [c1, c2, if_true, if_false] at h1 <;> omega
theorem pf_flat {α : Type} {g : α → List Int} {Q : α → Prop} (hg : Pf g Q) : ∀ (l m : List α) (r s : List Int), l.length = m.length → (∀ x ∈ l, Q x) → (∀ x ∈ m, Q x) → l.flatMap g ++ r = m.flatMap g ++ s → l = m ∧ r = s
  | [], [], r, s, _, _, _, h => ⟨rfl, by simpa using h⟩
  | [], _ :: _, _, _, hl, _, _, _ => by simp at hl
  | _ :: _, [], _, _, hl, _, _, _ => by simp at hl
  | x :: l, y :: m, r, s, hl, hx, hy, h => by
    simp only [List.flatMap_cons, List.append_assoc] at h
    obtain ⟨rfl, h2⟩ := hg x y _ _ (hx x List.mem_cons_self) (hy y List.mem_cons_self) h
    obtain ⟨rfl, h3⟩ := pf_flat hg l m r s (by simpa using hl) (fun z hz => hx z (List.mem_cons_of_mem _ hz)) (fun z hz => hy z (List.mem_cons_of_mem _ hz)) h2
    exact ⟨rfl, h3⟩
/-- How many, and they. -/
theorem pf_count {α : Type} {g : α → List Int} {Q : α → Prop} (hg : Pf g Q) : Pf (fun l : List α => numE (m64 (l.length : Int)) ++ l.flatMap g) (fun l => l.length ≤ 1000 ∧ ∀ x ∈ l, Q x) := fun l m r s hl hm h => by
  simp only [List.append_assoc] at h
  obtain ⟨h1, h2⟩ := pf_int (l.length : Int) (m.length : Int) _ _ (by unfold R64; omega) (by unfold R64; omega) h
  exact pf_flat hg l m r s (by omega) hl.2 hm.2 h2
theorem pf_list : Pf listE (fun l => l.length ≤ 1000 ∧ ∀ a ∈ l, R64 a) := pf_count pf_int
theorem pf_seq {α β γ : Type} {g : α → List Int} {k : β → List Int} {Q : α → Prop} {Q' : β → Prop} (hg : Pf g Q) (hk : Pf k Q') (p : γ → α) (q : γ → β) : ∀ (x y : γ) r s, Q (p x) ∧ Q' (q x) → Q (p y) ∧ Q' (q y) → g (p x) ++ (k (q x) ++ r) = g (p y) ++ (k (q y) ++ s) → p x = p y ∧ q x = q y ∧ r = s := fun x y r s hx hy h => by
  obtain ⟨h1, h2⟩ := hg _ _ _ _ hx.1 hy.1 h
  obtain ⟨h3, h4⟩ := hk _ _ _ _ hx.2 hy.2 h2
  exact ⟨h1, h3, h4⟩
theorem pf_phi : Pf encPhi (fun p => RPhi p ∧ p.f1.length ≤ 300) := fun x y r s hx hy h => by
  unfold encPhi at h
  simp only [List.append_assoc] at h
  obtain ⟨h1, h2⟩ := pf_int _ _ _ _ hx.1.1 hy.1.1 h
  obtain ⟨h3, h4⟩ := pf_list _ _ _ _ ⟨by have := hx.2; omega, hx.1.2⟩ ⟨by have := hy.2; omega, hy.1.2⟩ h2
  cases x; cases y
  dsimp only at h1 h3
  subst h1; subst h3
  exact ⟨rfl, h4⟩
theorem pf_ins : Pf encIns (fun x => RIns x ∧ x.f2.length ≤ 300) := fun x y r s hx hy h => by
  unfold encIns at h
  simp only [List.append_assoc] at h
  obtain ⟨x1, x2, x3, x4, x5⟩ := hx.1
  obtain ⟨y1, y2, y3, y4, y5⟩ := hy.1
  obtain ⟨h1, h⟩ := pf_int _ _ _ _ x1 y1 h
  obtain ⟨h2, h⟩ := pf_succ _ _ _ _ x2 y2 h
  obtain ⟨h3, h⟩ := pf_list _ _ _ _ ⟨by have := hx.2; omega, x3⟩ ⟨by have := hy.2; omega, y3⟩ h
  obtain ⟨h4, h⟩ := pf_sign _ _ _ _ x4 y4 h
  obtain ⟨h5, hz⟩ := pf_int _ _ _ _ x5 y5 h
  cases x; cases y
  dsimp only at h1 h2 h3 h4 h5
  subst h1; subst h2; subst h3; subst h4; subst h5
  exact ⟨rfl, hz⟩
theorem pf_term : Pf encTerm (fun t => RTerm t ∧ t.f2.length ≤ 70) := fun x y r s hx hy h => by
  unfold encTerm at h
  simp only [List.append_assoc] at h
  obtain ⟨x1, x2, x3⟩ := hx.1
  obtain ⟨y1, y2, y3⟩ := hy.1
  obtain ⟨h1, h⟩ := pf_int _ _ _ _ x1 y1 h
  obtain ⟨h2, h⟩ := pf_succ _ _ _ _ x2 y2 h
  obtain ⟨h3, hz⟩ := pf_list _ _ _ _ ⟨by have := hx.2; omega, x3⟩ ⟨by have := hy.2; omega, y3⟩ h
  cases x; cases y
  dsimp only at h1 h2 h3
  subst h1; subst h2; subst h3
  exact ⟨rfl, hz⟩
theorem getD_all {α : Type} {z : α} {l : List α} {Q : α → Prop} (h : ∀ i, i < l.length → Q (l.getD i z)) : ∀ x ∈ l, Q x := fun x hx => by
  obtain ⟨j, hj, rfl⟩ := mem_getD z hx
  exact h j hj
theorem pf_block : Pf encBlock (fun b => RBlock b ∧ OkB b) := fun x y r s hx hy h => by
  unfold encBlock at h
  simp only [List.append_assoc] at h
  obtain ⟨⟨x1, x2, x3⟩, ox⟩ := hx
  obtain ⟨⟨y1, y2, y3⟩, oy⟩ := hy
  have a1 := ox.phis
  have a2 := ox.ins
  have b1 := oy.phis
  have b2 := oy.ins
  have qx1 := getD_all (z := z60) (Q := fun p => p.f1.length ≤ 300) ox.pargs
  have qx2 := getD_all (z := z58) (Q := fun p => p.f2.length ≤ 300) ox.args
  have qy1 := getD_all (z := z60) (Q := fun p => p.f1.length ≤ 300) oy.pargs
  have qy2 := getD_all (z := z58) (Q := fun p => p.f2.length ≤ 300) oy.args
  obtain ⟨h1, h⟩ := pf_count pf_phi x.f0 y.f0 _ _ ⟨by omega, fun p hp => ⟨x1 p hp, qx1 p hp⟩⟩ ⟨by omega, fun p hp => ⟨y1 p hp, qy1 p hp⟩⟩ (by simpa only [List.append_assoc] using h)
  obtain ⟨h2, h⟩ := pf_count pf_ins x.f1 y.f1 _ _ ⟨by omega, fun p hp => ⟨x2 p hp, qx2 p hp⟩⟩ ⟨by omega, fun p hp => ⟨y2 p hp, qy2 p hp⟩⟩ (by simpa only [List.append_assoc] using h)
  obtain ⟨h3, hz⟩ := pf_term _ _ _ _ ⟨x3, ox.tos⟩ ⟨y3, oy.tos⟩ h
  cases x; cases y
  dsimp only at h1 h2 h3
  subst h1; subst h2; subst h3
  exact ⟨rfl, hz⟩
theorem pf_func : Pf encFunc (fun f => RFunc f ∧ OkF f) := fun x y r s hx hy h => by
  unfold encFunc at h
  simp only [List.append_assoc] at h
  obtain ⟨⟨x1, x2, x3, x4⟩, ox⟩ := hx
  obtain ⟨⟨y1, y2, y3, y4⟩, oy⟩ := hy
  have a1 := ox.blocks
  have a2 := ox.regs
  have b1 := oy.blocks
  have b2 := oy.regs
  have qx := getD_all (z := z56) ox.each
  have qy := getD_all (z := z56) oy.each
  obtain ⟨h1, h⟩ := pf_int _ _ _ _ x1 y1 h
  obtain ⟨h2, h⟩ := pf_int _ _ _ _ x2 y2 h
  obtain ⟨h3, h⟩ := pf_list _ _ _ _ ⟨by omega, x3⟩ ⟨by omega, y3⟩ h
  obtain ⟨h4, hz⟩ := pf_count pf_block x.f3 y.f3 _ _ ⟨by omega, fun p hp => ⟨x4 p hp, qx p hp⟩⟩ ⟨by omega, fun p hp => ⟨y4 p hp, qy p hp⟩⟩ (by simpa only [List.append_assoc] using h)
  cases x; cases y
  dsimp only at h1 h2 h3 h4
  subst h1; subst h2; subst h3; subst h4
  exact ⟨rfl, hz⟩
theorem pf_mod : Pf encMod (fun m => (∀ f ∈ m, RFunc f) ∧ OkM m) := fun x y r s hx hy h => by
  unfold encMod at h
  simp only [List.append_assoc, List.append_cancel_left_eq] at h
  obtain ⟨x1, ox⟩ := hx
  obtain ⟨y1, oy⟩ := hy
  have a1 := ox.n
  have b1 := oy.n
  have qx := getD_all (z := z50) ox.each
  have qy := getD_all (z := z50) oy.each
  exact pf_count pf_func x y _ _ ⟨by omega, fun p hp => ⟨x1 p hp, qx p hp⟩⟩ ⟨by omega, fun p hp => ⟨y1 p hp, qy p hp⟩⟩ (by simpa only [List.append_assoc] using h)
theorem encMod_inj {x y : List Lk.Fn} (hx : ∀ f ∈ x, RFunc f) (ox : OkM x) (hy : ∀ f ∈ y, RFunc f) (oy : OkM y) : encMod x = encMod y ↔ x = y :=
  ⟨fun h => (pf_mod x y [] [] ⟨hx, ox⟩ ⟨hy, oy⟩ (by rw [h])).1, fun h => by rw [h]⟩
end Go.Proofs.YtckebppacealeaaDoor.Rk
