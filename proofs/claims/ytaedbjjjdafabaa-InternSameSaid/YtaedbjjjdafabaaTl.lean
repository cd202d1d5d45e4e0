/- slices.SortFunc of a row of values, and Values of a table: all its values, by content. Conditions: at most a million values. -/
import Derived.Test.YtaedbjjjdafabaaTk
namespace Go.Proofs.Ytaedbjjjdafabaa.Tb
open Go.RowKit Go.Proofs.YtaedbjjjdafabaaW.PrintWords Go.Proofs.YtaedbjjjdafabaaW.PrintLast Go.Proofs.YtaedbjjjdafabaaW.PrintMore Go.Proofs.YtaedbjjjdafabaaW.PrintWords.Kd Go.Maps Go.Proofs.Ytaedbjjjdafabaa.PInternFull
attribute [local go_sem] max2_int min2_int max_two min_two max_three min_three max_four min_four
set_option linter.unusedVariables false
set_option linter.unusedSimpArgs false
open Go.Sort (Holds putRow putCells mapBlock onCells HoldsK putRowK flatK SWO)
variable {w w1 : World} {b g gt : Nat} {A : Option Addr} {n c bm m : Nat} {X : List (List (Int × Int))} {D : DataW Unit}
/-- Is a value ahead of another? -/
def ltV (x y : Int × Int) : Bool := decide (x.1 < y.1 ∨ x.1 = y.1 ∧ x.2 < y.2)
theorem ltOf_eq (x y : Int × Int) : ltOf cmpV x y = ltV x y := by
  unfold ltOf ltV
  congr 1
  unfold cmpV orI cmpI
  by_cases h1 : x.1 < y.1
  · simp [h1]
  · by_cases h2 : y.1 < x.1
    · have h3 : x.1 ≠ y.1 := by omega
      simp [h1, h2, h3]
    · have h3 : x.1 = y.1 := by omega
      by_cases h4 : x.2 < y.2
      · simp [h3, h4]
      · by_cases h5 : y.2 < x.2 <;> simp [h3, h4, h5]
theorem swoV : SWO (ltOf cmpV) where
  irrefl x := by rw [ltOf_eq]; simp [ltV]
  trans x y z h1 h2 := by rw [ltOf_eq] at *; simp [ltV] at *; omega
  ntrans x y z h1 h2 := by rw [ltOf_eq] at *; simp [ltV] at *; omega
theorem totalV (x y : Int × Int) (h1 : ltOf cmpV x y = false) (h2 : ltOf cmpV y x = false) : x = y := by
  rw [ltOf_eq] at *
  simp [ltV] at *
  exact Prod.ext (by omega) (by omega)
/-- The values, by content. -/
def sortL (l : List (Int × Int)) : List (Int × Int) := l.mergeSort fun x y => !ltOf cmpV y x
theorem sortL_len (l : List (Int × Int)) : (sortL l).length = l.length := List.length_mergeSort l
theorem cmpLays20 (blk off size : Nat) (w : World) : CmpLays Try.prog 20 #[] encV 2 cmpV blk off size w :=
  fun _ _ _ _ x y => closure20 x.1 x.2 y.1 y.2 _
theorem sort_any {v : Value} {l : List (Int × Int)} (h : Own w b v l) (hbw : b ≤ w.heap.size) (hl : l.length ≤ 1000000) :
    Calls Try.prog 19 #[v, .func (.func 20) #[] #[]] w fun e w' => e = .returned (.tuple #[]) ∧ Own w' b v (sortL l) ∧ Below b w w' := by
  by_cases h0 : l = []
  · subst h0
    obtain ⟨A1, c1, e1⟩ := R_slice h
    subst e1
    refine Calls.mono (AnyF.slices_SortFunc_none Try.sortV A1 c1 _ w) ?_
    rintro e w' ⟨rfl, rfl⟩
    exact ⟨rfl, by rw [show sortL [] = [] from List.length_eq_zero_iff.1 (by rw [sortL_len]; rfl)]; exact h, Below.refl _ _⟩
  · rcases own_cases h with ⟨_, e⟩ | ⟨g, cap, cur, rfl, hg, hh, h1, h2, h3, hc⟩
    · exact absurd e h0
    · have eg : ∀ args w, (callFunc 20 args).run Try.prog w = .ok (.enter 20 args) w := enters_of Try.func20 (by kernel_rfl) rfl
      have hcon := AnyQ.slices_SortFunc_total Try.sortV 2 Try.isAgg40 Try.sizeOf40 encV (fun _ => rfl) (fun x v hv => by simp [encV] at hv; rcases hv with rfl | rfl <;> rfl) cmpV swoV 20 #[] g 0 cap l.toArray w eg (cmpLays20 _ _ _ _) (own_holds hh hc) (blk_lt hh) (by simp; omega) totalV
      refine Calls.mono hcon ?_
      rintro e w' ⟨rfl, q, os, rfl⟩
      refine ⟨rfl, ?_, ?_⟩
      · exact sorted_own (l' := sortL l) (sortL_len l) hg hh h1 h2 h3
      · exact (Below.refl b w).grown sorted_grown hbw (fun k hk => by cases hk; exact hg)
set_option maxHeartbeats 4000000 in
set_option maxRecDepth 100000 in
theorem values_any (h : Tab w b gt A n c bm m X D) (hl : X.flatten.length ≤ 1000000) (hn : n ≤ 16) :
    Calls Try.prog 13 #[.pointer (some ⟨gt, 0, none⟩)] w fun e w' => (∃ v, e = .returned v ∧ Own w' w.heap.size v (sortL X.flatten)) ∧ Below w.heap.size w w' := by
  have hc0 := (blk_cell h.blk 0).trans (show _ = some (.slice A n c) from rfl)
  obtain ⟨e1, _, hC⟩ := S_reads' h.rows
  rw [← e1] at hC
  have C18 := Aside0.mk (concat_any (c := c) hC hl (by omega))
  obtain ⟨F, hF⟩ : ∃ F, F = X.flatten := ⟨_, rfl⟩
  rw [← hF] at C18 hl ⊢
  have HL := Aside0.mk hl
  clear h hC e1 hl hn hF
  go_enter Try.func13, Try.ntmps13
  go_wp2_with (fail)
  refine C18.out.mono ?_
  rintro e w1 ⟨⟨A1, c1, rfl, hO⟩, hB⟩
  have HO := Aside0.mk hO
  have HB := Aside0.mk hB
  clear hO hB
  go_wp2_with (fail)
  refine (sort_any HO.out HB.out.size HL.out).mono ?_
  rintro e w2 ⟨rfl, hO, hB⟩
  have HO2 := Aside0.mk hO
  have HB2 := Aside0.mk hB
  clear hO hB
  go_wp2
  go_ret
  exact ⟨⟨_, rfl, HO2.out⟩, HB.out.trans HB2.out⟩
end Go.Proofs.Ytaedbjjjdafabaa.Tb
