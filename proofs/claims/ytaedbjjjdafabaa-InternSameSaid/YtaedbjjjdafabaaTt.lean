/- Put upon one of two tables, and what two tables of the same values say. Conditions: tables of 1 to 16 drawers. -/
import Derived.Test.YtaedbjjjdafabaaTs
import Derived.StillTailTactics
namespace Go.Proofs.Ytaedbjjjdafabaa.Tb
open Go.RowKit Go.Proofs.YtaedbjjjdafabaaW.PrintWords Go.Proofs.YtaedbjjjdafabaaW.PrintLast Go.Proofs.YtaedbjjjdafabaaW.PrintMore Go.Proofs.YtaedbjjjdafabaaW.PrintWords.Kd Go.Maps Go.Proofs.Ytaedbjjjdafabaa.PInternFull
attribute [local go_sem] max2_int min2_int max_two min_two max_three min_three max_four min_four
set_option linter.unusedVariables false
set_option linter.unusedSimpArgs false
variable {w w1 : World} {b g gt : Nat} {A : Option Addr} {n c bm m : Nat} {X : List (List (Int × Int))} {D : DataW Unit} {ok ok2 : Nat → Prop}
theorem put_allK (h : TabK w b ok gt A n c bm m X D) (G : Good n X D) (hbw : b ≤ w.heap.size) (x y : Int) (hw : wfV (x, y)) (h1 : 1 ≤ n) (h2 : n ≤ 16) (hmm : m < 100000) (hl : X.flatten.length < 4000) :
    Calls Try.prog 10 #[.pointer (some ⟨gt, 0, none⟩), .int .i64 x, .int .i64 y] w fun e w' => (∃ r, e = .returned r) ∧ (∃ X' D' m', TabK w' b (fun k => ok k ∨ w.heap.size ≤ k) gt A n c bm m' X' D' ∧ Good n X' D' ∧ (∀ v, v ∈ X'.flatten ↔ v ∈ X.flatten ∨ v = (x, y) ∧ mayB v = true) ∧ X'.flatten.length ≤ X.flatten.length + 1 ∧ m' ≤ m + 1) ∧ Below b w w' ∧ Fr w ok w' := by
  by_cases hm : mayB (x, y) = true
  · by_cases hh : Maps.has D (KL x y) = true
    · obtain ⟨r, hr, _, _⟩ := h.tab.look hw.1 hw.2
      refine (put_has h.tab x y r (by rw [may_eq, hm]) hw.1 hw.2 hh hr).mono ?_
      rintro e w' ⟨rfl, hB⟩
      refine ⟨⟨_, rfl⟩, ⟨X, D, m, (h.below hB).mono (fun _ hk => .inl hk), G, fun v => ⟨.inl, fun o => o.elim id ?_⟩, Nat.le_succ _, Nat.le_succ _⟩, hB.mono hbw, fr_below hB⟩
      rintro ⟨rfl, _⟩
      exact (G.has _ hw).1 hh
    · have hh' : Maps.has D (KL x y) = false := by simpa using hh
      have hb := row_le X (drw x y n).toNat
      refine (put_newK h hbw x y (by rw [may_eq, hm]) hw.1 hw.2 hh' (by rw [G.siz]; omega) h1 h2 (by unfold maxLen; omega) (by omega)).mono ?_
      rintro e w' ⟨rfl, ⟨hB, hF⟩, hT⟩
      obtain ⟨G', hp⟩ := good_put G (h.map.tidy law40) x y h1 h2 (by omega) hw hm hh'
      refine ⟨⟨_, rfl⟩, ⟨_, _, _, hT, G', fun v => ?_, by rw [hp.length_eq]; simp, Nat.le_refl _⟩, hB, hF⟩
      rw [hp.mem_iff, List.mem_cons]
      constructor
      · rintro (rfl | hv)
        · exact .inr ⟨rfl, hm⟩
        · exact .inl hv
      · rintro (hv | ⟨rfl, _⟩)
        · exact .inr hv
        · exact .inl rfl
  · have hm' : mayB (x, y) = false := by simpa using hm
    refine (put_none h.tab x y (by rw [may_eq, hm'])).mono ?_
    rintro e w' ⟨rfl, hB⟩
    refine ⟨⟨_, rfl⟩, ⟨X, D, m, (h.below hB).mono (fun _ hk => .inl hk), G, fun v => ⟨.inl, fun o => o.elim id ?_⟩, Nat.le_succ _, Nat.le_succ _⟩, hB.mono hbw, fr_below hB⟩
    rintro ⟨rfl, e⟩
    exact absurd e hm
theorem sort_le (l : List V2) : (sortL l).Pairwise fun x y => ltOf cmpV y x = false := by
  have h := List.pairwise_mergeSort (le := fun x y => !ltOf cmpV y x) (fun a b c h1 h2 => by
    simp only [ltOf_eq, ltV, Bool.not_eq_true', decide_eq_false_iff_not] at *
    omega) (fun a b => by
    simp only [ltOf_eq, ltV, Bool.or_eq_true, Bool.not_eq_true', decide_eq_false_iff_not]
    omega) l
  exact h.imp (fun h => by simpa using h)
/-- Of the same values the same list. -/
theorem sort_same {l l' : List V2} (h : l.Perm l') : sortL l = sortL l' := by
  have hp : (sortL l).Perm (sortL l') := (sortL_perm l).trans (h.trans (sortL_perm l').symm)
  exact hp.eq_of_pairwise (fun a b _ _ h1 h2 => totalV a b h2 h1) (sort_le l) (sort_le l')
theorem sort_up (l : List V2) (hn : l.Nodup) (i : Nat) (h0 : 0 < i) (hi : i < (sortL l).length) : ltV ((sortL l).getD (i - 1) (0, 0)) ((sortL l).getD i (0, 0)) = true := by
  have nd : (sortL l).Nodup := (sortL_perm _).nodup_iff.2 hn
  have h1 := List.pairwise_iff_getElem.1 (sort_le l) (i - 1) i (by omega) hi (by omega)
  have h2 := List.pairwise_iff_getElem.1 nd (i - 1) i (by omega) hi (by omega)
  rw [List.getD_eq_getElem?_getD, List.getD_eq_getElem?_getD, List.getElem?_eq_getElem hi, List.getElem?_eq_getElem (show i - 1 < (sortL l).length by omega), Option.getD_some, Option.getD_some]
  cases e : ltOf cmpV (sortL l)[i - 1] (sortL l)[i] with
  | true => rwa [ltOf_eq] at e
  | false => exact absurd (totalV _ _ e h1) h2
theorem flat_perm {n2 : Nat} {X2 : List (List V2)} {D2 : DataW Unit} (G : Good n X D) (G2 : Good n2 X2 D2) (h : ∀ v, v ∈ X.flatten ↔ v ∈ X2.flatten) : X.flatten.Perm X2.flatten :=
  (List.perm_ext_iff_of_nodup G.nod G2.nod).2 h
/-- Going round a list from any place on comes to all of it. -/
theorem round_all (l : List V2) (q : Nat) (v : V2) (hl : 0 < l.length) : (∃ j, j < l.length ∧ l.getD ((j + q) % l.length) (0, 0) = v) ↔ v ∈ l := by
  constructor
  · rintro ⟨j, _, rfl⟩
    have hm := Nat.mod_lt (j + q) hl
    rw [List.getD_eq_getElem?_getD, List.getElem?_eq_getElem hm, Option.getD_some]
    exact List.getElem_mem hm
  · intro hv
    obtain ⟨k, hk, rfl⟩ := List.mem_iff_getElem.1 hv
    refine ⟨(k + (l.length - q % l.length)) % l.length, Nat.mod_lt _ hl, ?_⟩
    have e : ((k + (l.length - q % l.length)) % l.length + q) % l.length = k := by
      have h1 := Nat.mod_lt q hl
      have h2 := Nat.div_add_mod q l.length
      rw [Nat.mod_add_mod, show k + (l.length - q % l.length) + q = k + l.length * (q / l.length + 1) by rw [Nat.mul_add]; omega, Nat.add_mul_mod_self_left]
      exact Nat.mod_eq_of_lt hk
    rw [e, List.getD_eq_getElem?_getD, List.getElem?_eq_getElem hk, Option.getD_some]
end Go.Proofs.Ytaedbjjjdafabaa.Tb
