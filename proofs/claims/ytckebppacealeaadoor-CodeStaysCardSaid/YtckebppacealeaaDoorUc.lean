/- A proper module's numbers are such as a reader reads. Conditions: numbers of 64 bits. -/
import Derived.Test.YtckebppacealeaaDoorUb
namespace Go.Proofs.YtckebppacealeaaDoor.Rk
open Go.RowKit Go.Proofs.YtckebppacealeaaDoorW.PrintWords Go.Proofs.YtckebppacealeaaDoor.PCodeUnlike Go.Proofs.YtckebppacealeaaDoor.Lp Go.Proofs.YtckebppacealeaaDoor.Lk Go.Proofs.YtckebppacealeaaDoor.Lr
set_option linter.unusedVariables false
structure Proper (m : List Lk.Fn) (f : Lk.Fn) : Prop where
  small : smallB f.f2 f.f3 = true
  typed : typedB f = true
  ends : f.f3.all (fun b => endsB f.f3.length b.f2) = true
  phis : (List.range f.f3.length).all (phiOk f.f3) = true
  blocks : ∀ b ∈ f.f3, blockE m f b = none
theorem proper_of {m : List Lk.Fn} {i : Nat} (hi : i < m.length) (h : funcE m i = none) : Proper m (m.getD i z50) := by
  unfold funcE at h
  have e : rd_T50 m (i : Int) = m.getD i z50 := rfl
  rw [e, if_neg (by omega), if_neg (by omega)] at h
  generalize m.getD i z50 = f at h ⊢
  by_cases c1 : smallB f.f2 f.f3 = true
  rotate_left
  · rw [if_neg c1] at h; exact absurd h (by simp)
  rw [if_pos c1] at h
  by_cases c2 : typedB f = true
  rotate_left
  · rw [if_neg c2] at h; exact absurd h (by simp)
  rw [if_pos c2] at h
  by_cases c3 : f.f3.all (fun b => endsB f.f3.length b.f2) = true
  rotate_left
  · rw [if_neg c3] at h; exact absurd h (by simp)
  rw [if_pos c3] at h
  by_cases c4 : (List.range f.f3.length).all (phiOk f.f3) = true
  rotate_left
  · rw [if_neg c4] at h; exact absurd h (by simp)
  rw [if_pos c4] at h
  exact ⟨c1, c2, c3, c4, List.findSome?_eq_none_iff.mp h⟩
theorem small_of {l : List Int} {B : List Bk} (h : smallB l B = true) : 1 ≤ B.length ∧ B.length ≤ 64 ∧ l.length ≤ 256 ∧ total B ≤ 256 := by
  unfold smallB at h
  split at h
  · split at h
    · split at h
      · exact ⟨by omega, by omega, by omega, of_decide_eq_true h⟩
      · exact absurd h (by simp)
    · exact absurd h (by simp)
  · exact absurd h (by simp)
theorem typed_of {f : Lk.Fn} (h : typedB f = true) : (∀ a ∈ f.f2, a = 1 ∨ a = 2) ∧ 0 ≤ f.f0 ∧ f.f0 ≤ 8 ∧ f.f0 ≤ f.f2.length ∧ (f.f1 = 0 ∨ f.f1 = 1 ∨ f.f1 = 2) := by
  have hv : ∀ t, valB t = true → t = 1 ∨ t = 2 := fun t ht => by simpa [valB] using ht
  unfold typedB at h
  split at h
  · rename_i c1
    split at h
    · split at h
      · split at h
        · refine ⟨fun a ha => hv a (List.all_eq_true.mp c1 a ha), by omega, by omega, by omega, ?_⟩
          split at h
          · exact .inl (by assumption)
          · exact .inr (hv _ h)
        · exact absurd h (by simp)
      · exact absurd h (by simp)
    · exact absurd h (by simp)
  · exact absurd h (by simp)
theorem has_of {f : Lk.Fn} {rs : List Int} (h : hasB f rs = true) : ∀ a ∈ rs, 0 ≤ a ∧ a < (f.f2.length : Int) := fun a ha => by
  have h1 : rs.any (hasP f) = false := by simpa [hasB] using h
  have h2 := List.any_eq_false.mp h1 a ha
  unfold hasP at h2
  simp at h2
  omega
theorem total_mem {b : Bk} : ∀ {B : List Bk}, b ∈ B → b.f0.length + b.f1.length + 1 ≤ total B
  | x :: B, h => by
    have e : total (x :: B) = (x.f0.length + x.f1.length + 1) + total B := by simp [total]
    rcases List.mem_cons.1 h with e2 | e2
    · rw [e, e2]; omega
    · have := total_mem e2
      rw [e]; omega
theorem args_le {m : List Lk.Fn} (hm : ∀ i : Nat, i < m.length → typedB (m.getD i z50) = true) (x : In) (h : (arityV m x).2.2 = none) :
    (arityV m x).1 ≤ 8 ∧ 0 ≤ x.f0 ∧ x.f0 ≤ 18 ∧ (x.f0 = 17 → 0 ≤ x.f4 ∧ x.f4 < m.length) := by
  unfold arityV at h ⊢
  have ha : (argsV x.f0).1 ≤ 2 ∧ ((argsV x.f0).2 = true → 0 ≤ x.f0 ∧ x.f0 ≤ 14) := by
    unfold argsV
    split
    · exact ⟨by decide, fun _ => by omega⟩
    · split
      · exact ⟨by decide, fun _ => by omega⟩
      · split
        · exact ⟨by decide, fun _ => by omega⟩
        · exact ⟨by decide, fun e => absurd e (by simp)⟩
  split at h
  · rename_i c
    rw [if_pos c]
    have := ha.2 c
    exact ⟨by show (argsV x.f0).1 ≤ 8; omega, by omega, by omega, fun e => by omega⟩
  rename_i c
  rw [if_neg c]
  split at h
  · rename_i c1; rw [if_pos c1]; exact ⟨by decide, by omega, by omega, fun e => by omega⟩
  rename_i c1
  rw [if_neg c1]
  split at h
  · rename_i c1; rw [if_pos c1]; exact ⟨by decide, by omega, by omega, fun e => by omega⟩
  rename_i c1
  rw [if_neg c1]
  split at h
  · rename_i c1; rw [if_pos c1]; exact ⟨by decide, by omega, by omega, fun e => by omega⟩
  rename_i c1
  rw [if_neg c1]
  split at h
  · rename_i c1; rw [if_pos c1]; exact ⟨by decide, by omega, by omega, fun e => by omega⟩
  rename_i c1
  rw [if_neg c1]
  split at h
  · rename_i c5
    rw [if_pos c5]
    split at h
    · exact absurd h (by simp)
    rename_i c6
    rw [if_neg c6]
    split at h
    · rename_i c7
      rw [if_pos c7]
      have ht := typed_of (hm x.f4.toNat (by omega))
      exact ⟨ht.2.2.1, by omega, by omega, fun _ => ⟨by omega, c7⟩⟩
    · exact absurd h (by simp)
  · exact absurd h (by simp)
theorem ins_of {m : List Lk.Fn} {f : Lk.Fn} (hm : ∀ i : Nat, i < m.length → typedB (m.getD i z50) = true) (hl : m.length ≤ 32) (hf : f.f2.length ≤ 256) (x : In) (h : instrE m f x = none) (hr : R64 x.f3) : QIns x ∧ x.f2.length ≤ 8 := by
  unfold instrE at h
  by_cases c1 : (arityV m x).2.2 = none
  rotate_left
  · rw [if_neg c1] at h; exact absurd h c1
  rw [if_pos c1] at h
  obtain ⟨a1, a2, a3, a4⟩ := args_le hm x c1
  by_cases c2 : (x.f2.length : Int) = (arityV m x).1
  rotate_left
  · rw [if_neg c2] at h; exact absurd h (by simp)
  rw [if_pos c2] at h
  by_cases c3 : hasB f x.f2 = true
  rotate_left
  · rw [if_neg c3] at h; exact absurd h (by simp)
  rw [if_pos c3] at h
  by_cases c4 : (arityV m x).2.1 = 0 ∨ hasB f [x.f1] = true
  rotate_left
  · rw [if_neg c4] at h; exact absurd h (by simp)
  rw [if_pos c4] at h
  by_cases c5 : oddB (arityV m x).2.1 x = false ∧ fitsB m f x = true
  rotate_left
  · rw [if_neg c5] at h; exact absurd h (by simp)
  have ho := c5.1
  unfold oddB at ho
  simp only [Bool.or_eq_false_iff, Bool.and_eq_false_iff, beq_eq_false_iff_ne, bne_eq_false_iff_eq] at ho
  obtain ⟨⟨o1, o2⟩, o3⟩ := ho
  have hd : QI (x.f1 + 1) := by
    unfold QI
    rcases c4 with e | e
    · rcases o1 with o | o
      · exact absurd e o
      · omega
    · have := has_of e x.f1 (by simp)
      omega
  have h4 : QI x.f4 := by
    unfold QI
    rcases o3 with o | o
    · have := a4 o
      omega
    · omega
  exact ⟨⟨⟨a2, by omega⟩, hd, ⟨by omega, fun a ha => by have := has_of c3 a ha; exact ⟨this.1, by omega⟩⟩, hr, h4⟩, by omega⟩
theorem phi_of {f : Lk.Fn} (hf : f.f2.length ≤ 256) (p : Ph) (h : phiE f p = none) (hl : p.f1.length ≤ 64) : QPhi p := by
  unfold phiE at h
  by_cases c1 : hasB f [p.f0] = true
  rotate_left
  · rw [if_neg c1] at h; exact absurd h (by simp)
  rw [if_pos c1] at h
  by_cases c2 : hasB f p.f1 = true
  rotate_left
  · rw [if_neg c2] at h; exact absurd h (by simp)
  have h1 := has_of c1 p.f0 (by simp)
  exact ⟨⟨h1.1, by omega⟩, by omega, fun a ha => by have := has_of c2 a ha; exact ⟨this.1, by omega⟩⟩
theorem ends_of {n : Nat} {t : Tm} (h : endsB n t = true) : (t.f0 = 1 ∨ t.f0 = 2 ∨ t.f0 = 3) ∧ t.f2.length ≤ 2 ∧ ∀ a ∈ t.f2, 1 ≤ a ∧ a < (n : Int) := by
  unfold endsB at h
  split at h
  · rename_i c
    refine ⟨?_, ?_, fun a ha => ?_⟩
    · split at h
      · exact .inl (by assumption)
      · split at h
        · exact .inr (.inl (by assumption))
        · split at h
          · exact .inr (.inr (by assumption))
          · exact absurd h (by simp)
    · split at h
      · have := of_decide_eq_true h; omega
      · split at h
        · split at h
          · omega
          · exact absurd h (by simp)
        · split at h
          · have := of_decide_eq_true h; omega
          · exact absurd h (by simp)
    · have := List.all_eq_true.mp c a ha
      simp at this
      exact this
  · exact absurd h (by simp)
theorem term_of {f : Lk.Fn} (hf : f.f2.length ≤ 256) (hn : f.f3.length ≤ 64) (t : Tm) (h : endE f t = none) (he : endsB f.f3.length t = true) : QTerm t := by
  obtain ⟨h1, h2, h3⟩ := ends_of he
  have ha : QI (t.f1 + 1) := by
    have key : hasB f [t.f1] = true → QI (t.f1 + 1) := fun e => by
      have := has_of e t.f1 (by simp)
      unfold QI
      omega
    unfold endE at h
    split at h
    · split at h
      · unfold QI; omega
      · exact absurd h (by simp)
    · split at h
      · split at h
        · split at h
          · unfold QI; omega
          · exact absurd h (by simp)
        · split at h
          · exact key (by assumption)
          · exact absurd h (by simp)
      · split at h
        · exact key (by assumption)
        · exact absurd h (by simp)
  exact ⟨⟨by omega, by omega⟩, ha, by omega, fun a ha => by have := h3 a ha; exact ⟨by omega, by omega⟩⟩
theorem func_of {m : List Lk.Fn} {f : Lk.Fn} (hm : ∀ i : Nat, i < m.length → typedB (m.getD i z50) = true) (hl : m.length ≤ 32) (hp : Proper m f) (hr : ∀ b ∈ f.f3, ∀ x ∈ b.f1, R64 x.f3) : QFunc f ∧ OkF f := by
  obtain ⟨s1, s2, s3, s4⟩ := small_of hp.small
  obtain ⟨t1, t2, t3, t4, t5⟩ := typed_of hp.typed
  have hb : ∀ u : Nat, u < f.f3.length → QBlock (f.f3.getD u z56) ∧ OkB (f.f3.getD u z56) := by
    intro u hu
    have hmem := getD_mem f.f3 u z56 hu
    have hE := hp.blocks _ hmem
    have hT := List.all_eq_true.mp hp.ends _ hmem
    have hP := List.all_eq_true.mp hp.phis u (List.mem_range.mpr hu)
    have hS := total_mem hmem
    have hR := hr _ hmem
    unfold phiOk at hP
    generalize f.f3.getD u z56 = b at hE hT hP hS hR ⊢
    have hA := ah_len f.f3 u f.f3.length
    unfold blockE at hE
    cases e1 : b.f0.findSome? (phiE f) with
    | some c => rw [e1] at hE; exact absurd hE (by simp)
    | none =>
      rw [e1] at hE
      dsimp only at hE
      cases e2 : b.f1.findSome? (instrE m f) with
      | some c => rw [e2] at hE; exact absurd hE (by simp)
      | none =>
        rw [e2] at hE
        dsimp only at hE
        have p1 : ∀ p ∈ b.f0, QPhi p ∧ p.f1.length ≤ 64 := fun p hp => by
          have h1 := List.findSome?_eq_none_iff.mp e1 p hp
          have h2 := of_decide_eq_true (List.all_eq_true.mp hP p hp)
          exact ⟨phi_of s3 p h1 (by omega), by omega⟩
        have p2 : ∀ x ∈ b.f1, QIns x ∧ x.f2.length ≤ 8 := fun x hx => ins_of hm hl s3 x (List.findSome?_eq_none_iff.mp e2 x hx) (hR x hx)
        have p3 := term_of s3 s2 b.f2 hE hT
        have p4 := (ends_of hT).2.1
        refine ⟨⟨⟨by omega, fun p hp => (p1 p hp).1⟩, ⟨by omega, fun x hx => (p2 x hx).1⟩, p3⟩, ⟨by omega, by omega, by omega, fun i hi => ?_, fun i hi => ?_⟩⟩
        · have := (p2 _ (getD_mem b.f1 i z58 hi)).2; omega
        · have := (p1 _ (getD_mem b.f0 i z60 hi)).2; omega
  refine ⟨⟨⟨t2, by omega⟩, ⟨by omega, by omega⟩, ⟨s3, fun a ha => by have := t1 a ha; exact ⟨by omega, by omega⟩⟩, s2, fun b hb2 => ?_⟩, ⟨by omega, by omega, by omega, fun u hu => (hb u hu).2⟩⟩
  obtain ⟨u, hu, rfl⟩ := mem_getD z56 hb2
  exact (hb u hu).1
/-- Numbers of a proper module. -/
theorem mod_of {m : List Lk.Fn} (h : modE m = none) (hr : ∀ f ∈ m, ∀ b ∈ f.f3, ∀ x ∈ b.f1, R64 x.f3) : QMod m ∧ OkM m := by
  obtain ⟨hl, hf⟩ := modE_each h
  have hp : ∀ i : Nat, i < m.length → Proper m (m.getD i z50) := fun i hi => proper_of hi (hf i hi)
  have hq : ∀ i : Nat, i < m.length → QFunc (m.getD i z50) ∧ OkF (m.getD i z50) := fun i hi => func_of (fun j hj => (hp j hj).typed) hl (hp i hi) (hr _ (getD_mem m i z50 hi))
  refine ⟨⟨hl, fun f hf2 => ?_⟩, ⟨by omega, fun i hi => (hq i hi).2⟩⟩
  obtain ⟨u, hu, rfl⟩ := mem_getD z50 hf2
  exact (hq u hu).1
theorem mod_r {m : List Lk.Fn} (h : ∀ f ∈ m, RFunc f) : ∀ f ∈ m, ∀ b ∈ f.f3, ∀ x ∈ b.f1, R64 x.f3 := fun f hf b hb x hx => (((h f hf).2.2.2 b hb).2.1 x hx).2.2.2.1
theorem mod_q {m : List Lk.Fn} (h : QMod m) : ∀ f ∈ m, ∀ b ∈ f.f3, ∀ x ∈ b.f1, R64 x.f3 := fun f hf b hb x hx => (((h.2 f hf).2.2.2.2 b hb).2.1.2 x hx).2.2.2.1
end Go.Proofs.YtckebppacealeaaDoor.Rk
