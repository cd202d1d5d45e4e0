/- What Small tells of a module. Conditions: none. -/
import Derived.Test.YtpionncanaamgaaPLoopsStaysx14
import Derived.Test.YtpionncanaamgaaLz
set_option linter.unusedVariables false
namespace Go.Proofs.Ytpionncanaamgaa.Lp
open Go.RowKit Go.Proofs.Ytpionncanaamgaa.PLoopsStays Go.Proofs.YtpionncanaamgaaW.PrintWords Go.Proofs.YtpionncanaamgaaW.PrintLast
/-! ### Small -/
structure OkB (b : S52) : Prop where
  ins : b.f1.length ≤ 300
  phis : b.f0.length ≤ 300
  tos : b.f2.f2.length ≤ 70
  args : ∀ i, i < b.f1.length → (b.f1.getD i z64).f2.length ≤ 300
  pargs : ∀ i, i < b.f0.length → (b.f0.getD i z62).f1.length ≤ 300
structure OkF (f : S25) : Prop where
  blocks : f.f3.length ≤ 70
  regs : f.f2.length ≤ 300
  params : f.f0 ≤ 1000
  each : ∀ u, u < f.f3.length → OkB (f.f3.getD u z52)
structure OkM (M : List S25) : Prop where
  n : M.length ≤ 40
  each : ∀ i, i < M.length → OkF (M.getD i z25)
section
def Res (Fin : Bool → Prop) (g : Nat → Option Bool) : Prop := ∃ r, Ev g r ∧ Fin r
theorem Res.step (Fin : Bool → Prop) {g f : Nat → Option Bool} (h : ∀ k, g (k + 1) = f k) (hr : Res Fin f) : Res Fin g := by
  obtain ⟨r, h1, h2⟩ := hr
  exact ⟨r, Ev.step h h1, h2⟩
theorem Res.no (Fin : Bool → Prop) (hF : Fin false) {g : Nat → Option Bool} (h : ∀ k, g (k + 1) = some false) : Res Fin g := ⟨false, Ev.step (f := fun _ => some false) h (Ev.now _), hF⟩
theorem small_l3 (M : List S25) (Fin : Bool → Prop) (hF : Fin false) (x3 : Int) (a b : Int) (l : List Int) (B : List S52) (u : Nat) (x0 : List S62) (x1 : List S64) (p q : Int) (t : List Int) (h0 : x0.length ≤ 300)
    (H : (∀ i, i < x0.length → (x0.getD i z62).f1.length ≤ 300) → Res Fin (fun k => fettleref02_Small.l1 k x3 (wrap64 ((u : Int) + 1)) M a b l B)) :
    ∀ (m i : Nat), x0.length - i = m → i ≤ x0.length → (∀ j, j < i → (x0.getD j z62).f1.length ≤ 300) → Res Fin (fun k => fettleref02_Small.l3 k x3 (u : Int) (i : Int) M a b l B x0 x1 p q t) := by
  intro m
  induction m with
  | zero =>
    intro i hm hi hv
    exact Res.step Fin (fun k => by rw [fettleref02_Small.l3, if_neg (by omega)]) (H (fun j hj => hv j (by omega)))
  | succ m ih =>
    intro i hm hi hv
    have er : rd_T62 x0 (i : Int) = x0.getD i z62 := rfl
    by_cases c : (((rd_T62 x0 (i : Int)).f1).length : Int) > 300
    · exact Res.no Fin hF (fun k => by rw [fettleref02_Small.l3, if_pos (by omega), if_pos (by omega), if_pos c])
    · refine Res.step Fin (fun k => by rw [fettleref02_Small.l3, if_pos (by omega), if_pos (by omega), if_neg c, w64n (by omega)]) (ih (i + 1) (by omega) (by omega) (fun j hj => ?_))
      by_cases e : j = i
      · subst e; rw [er] at c; omega
      · exact hv j (by omega)
theorem small_l2 (M : List S25) (Fin : Bool → Prop) (hF : Fin false) (x3 : Int) (a b : Int) (l : List Int) (B : List S52) (u : Nat) (x0 : List S62) (x1 : List S64) (p q : Int) (t : List Int) (h0 : x0.length ≤ 300) (h1 : x1.length ≤ 300)
    (H : (∀ i, i < x1.length → (x1.getD i z64).f2.length ≤ 300) → (∀ i, i < x0.length → (x0.getD i z62).f1.length ≤ 300) → Res Fin (fun k => fettleref02_Small.l1 k x3 (wrap64 ((u : Int) + 1)) M a b l B)) :
    ∀ (m i : Nat), x1.length - i = m → i ≤ x1.length → (∀ j, j < i → (x1.getD j z64).f2.length ≤ 300) → Res Fin (fun k => fettleref02_Small.l2 k x3 (u : Int) (i : Int) M a b l B x0 x1 p q t) := by
  intro m
  induction m with
  | zero =>
    intro i hm hi hv
    exact Res.step Fin (fun k => by rw [fettleref02_Small.l2, if_neg (by omega)]; rfl) (small_l3 M Fin hF x3 a b l B u x0 x1 p q t h0 (H (fun j hj => hv j (by omega))) _ 0 rfl (by omega) (fun j hj => absurd hj (by omega)))
  | succ m ih =>
    intro i hm hi hv
    have er : rd_T64 x1 (i : Int) = x1.getD i z64 := rfl
    by_cases c : (((rd_T64 x1 (i : Int)).f2).length : Int) > 300
    · exact Res.no Fin hF (fun k => by rw [fettleref02_Small.l2, if_pos (by omega), if_pos (by omega), if_pos c])
    · refine Res.step Fin (fun k => by rw [fettleref02_Small.l2, if_pos (by omega), if_pos (by omega), if_neg c, w64n (by omega)]) (ih (i + 1) (by omega) (by omega) (fun j hj => ?_))
      by_cases e : j = i
      · subst e; rw [er] at c; omega
      · exact hv j (by omega)
theorem small_l1 (M : List S25) (Fin : Bool → Prop) (hF : Fin false) (x3 : Int) (a b : Int) (l : List Int) (B : List S52) (hB : B.length ≤ 70)
    (H : (∀ u, u < B.length → OkB (B.getD u z52)) → Res Fin (fun k => fettleref02_Small.l0 k (wrap64 (x3 + 1)) M)) :
    ∀ (m u : Nat), B.length - u = m → u ≤ B.length → (∀ j, j < u → OkB (B.getD j z52)) → Res Fin (fun k => fettleref02_Small.l1 k x3 (u : Int) M a b l B) := by
  intro m
  induction m with
  | zero =>
    intro u hm hu hv
    exact Res.step Fin (fun k => by rw [fettleref02_Small.l1, if_neg (by omega)]) (H (fun j hj => hv j (by omega)))
  | succ m ih =>
    intro u hm hu hv
    have er : rd_T52 B (u : Int) = B.getD u z52 := rfl
    have bad : ∀ x0 x1 p q t, Res Fin (fun k => fettleref02_Small.j3 k x3 (u : Int) true M a b l B x0 x1 p q t) := fun x0 x1 p q t => Res.no Fin hF (fun k => by rw [fettleref02_Small.j3, if_pos rfl])
    by_cases c1 : (((rd_T52 B (u : Int)).f1).length : Int) > 300
    · exact Res.step Fin (fun k => by rw [fettleref02_Small.l1, if_pos (by omega), if_pos (by omega), if_pos c1]) (bad _ _ _ _ _)
    by_cases c2 : (((rd_T52 B (u : Int)).f0).length : Int) > 300
    · exact Res.step Fin (fun k => by rw [fettleref02_Small.l1, if_pos (by omega), if_pos (by omega), if_neg c1, if_pos c2]) (bad _ _ _ _ _)
    by_cases c3 : (((rd_T52 B (u : Int)).f2.f2).length : Int) > 70
    · exact Res.step Fin (fun k => by rw [fettleref02_Small.l1, if_pos (by omega), if_pos (by omega), if_neg c1, if_neg c2, decide_eq_true c3]) (bad _ _ _ _ _)
    refine Res.step Fin (f := fun k => fettleref02_Small.j3 k x3 (u : Int) false M a b l B (rd_T52 B (u : Int)).f0 (rd_T52 B (u : Int)).f1 (rd_T52 B (u : Int)).f2.f0 (rd_T52 B (u : Int)).f2.f1 (rd_T52 B (u : Int)).f2.f2) (fun k => by rw [fettleref02_Small.l1, if_pos (by omega), if_pos (by omega), if_neg c1, if_neg c2, decide_eq_false c3]) ?_
    rw [er] at *
    refine Res.step Fin (fun k => by rw [fettleref02_Small.j3, if_neg (by decide)]; rfl) (small_l2 M Fin hF x3 a b l B u _ _ _ _ _ (by omega) (by omega) (fun g1 g2 => ?_) _ 0 rfl (by omega) (fun j hj => absurd hj (by omega)))
    rw [w64n (by omega)]
    refine ih (u + 1) (by omega) (by omega) (fun j hj => ?_)
    by_cases e : j = u
    · subst e
      exact ⟨by omega, by omega, by omega, g1, g2⟩
    · exact hv j (by omega)
theorem small_l0 (M : List S25) (Fin : Bool → Prop) (hF : Fin false) (hM : M.length ≤ 40) (H : OkM M → Fin true) :
    ∀ (m i : Nat), M.length - i = m → i ≤ M.length → (∀ j, j < i → OkF (M.getD j z25)) → Res Fin (fun k => fettleref02_Small.l0 k (i : Int) M) := by
  intro m
  induction m with
  | zero =>
    intro i hm hi hv
    exact ⟨true, Ev.step (f := fun _ => some true) (fun k => by rw [fettleref02_Small.l0, if_neg (by omega)]) (Ev.now _), H ⟨hM, fun j hj => hv j (by omega)⟩⟩
  | succ m ih =>
    intro i hm hi hv
    have er : rd_T25 M (i : Int) = M.getD i z25 := rfl
    have bad : ∀ a b l B, Res Fin (fun k => fettleref02_Small.j1 k (i : Int) true M a b l B) := fun a b l B => Res.no Fin hF (fun k => by rw [fettleref02_Small.j1, if_pos rfl])
    by_cases c1 : (((rd_T25 M (i : Int)).f3).length : Int) > 70
    · exact Res.step Fin (fun k => by rw [fettleref02_Small.l0, if_pos (by omega), if_pos (by omega), if_pos c1]) (bad _ _ _ _)
    by_cases c2 : (((rd_T25 M (i : Int)).f2).length : Int) > 300
    · exact Res.step Fin (fun k => by rw [fettleref02_Small.l0, if_pos (by omega), if_pos (by omega), if_neg c1, if_pos c2]) (bad _ _ _ _)
    by_cases c3 : (rd_T25 M (i : Int)).f0 > 1000
    · exact Res.step Fin (fun k => by rw [fettleref02_Small.l0, if_pos (by omega), if_pos (by omega), if_neg c1, if_neg c2, decide_eq_true c3]) (bad _ _ _ _)
    refine Res.step Fin (f := fun k => fettleref02_Small.j1 k (i : Int) false M (rd_T25 M (i : Int)).f0 (rd_T25 M (i : Int)).f1 (rd_T25 M (i : Int)).f2 (rd_T25 M (i : Int)).f3) (fun k => by rw [fettleref02_Small.l0, if_pos (by omega), if_pos (by omega), if_neg c1, if_neg c2, decide_eq_false c3]) ?_
    rw [er] at *
    refine Res.step Fin (fun k => by rw [fettleref02_Small.j1, if_neg (by decide)]; rfl) (small_l1 M Fin hF (i : Int) _ _ _ _ (by omega) (fun g => ?_) _ 0 rfl (by omega) (fun j hj => absurd hj (by omega)))
    rw [w64n (by omega)]
    refine ih (i + 1) (by omega) (by omega) (fun j hj => ?_)
    by_cases e : j = i
    · subst e
      exact ⟨by omega, by omega, by omega, g⟩
    · exact hv j (by omega)
end
theorem small_mod (M : List S25) : ∃ r, Ev (fun k => fettleref02_Small.f k M) r ∧ (r = true → OkM M) := by
  by_cases c : (M.length : Int) > 40
  · exact ⟨false, Ev.congr (f := fun _ => some false) (fun k => by rw [fettleref02_Small.f, if_pos c]) (Ev.now _), fun h => by cases h⟩
  · obtain ⟨r, h1, h2⟩ := small_l0 M (fun r => r = true → OkM M) (fun h => by cases h) (by omega) (fun h _ => h) _ 0 rfl (by omega) (fun j hj => absurd hj (by omega))
    exact ⟨r, Ev.congr (fun k => by rw [fettleref02_Small.f, if_neg c]; rfl) h1, h2⟩
end Go.Proofs.Ytpionncanaamgaa.Lp
