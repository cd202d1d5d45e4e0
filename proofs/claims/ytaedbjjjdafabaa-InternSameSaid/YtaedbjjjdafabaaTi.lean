/- slices.Grow at nil and slices.Concat of rows that are read: a new row of all their values. Conditions: at most a million values. -/
import Derived.Test.YtaedbjjjdafabaaTe
namespace Go.Proofs.Ytaedbjjjdafabaa.Tb
open Go.RowKit Go.Proofs.YtaedbjjjdafabaaW.PrintWords Go.Proofs.YtaedbjjjdafabaaW.PrintLast Go.Proofs.YtaedbjjjdafabaaW.PrintMore Go.Proofs.YtaedbjjjdafabaaW.PrintWords.Kd Go.Maps Go.Proofs.Ytaedbjjjdafabaa.PInternFull
attribute [local go_sem] max2_int min2_int max_two min_two max_three min_three max_four min_four
set_option linter.unusedVariables false
set_option linter.unusedSimpArgs false
variable {w w1 : World} {b gt : Nat} {A : Option Addr} {n c bm m : Nat} {X : List (List (Int × Int))} {D : DataW Unit}
def Own (w : World) (b : Nat) (v : Value) (l : List (Int × Int)) : Prop := Kd.R kV 40 w b (fun k => b ≤ k) v l
set_option maxHeartbeats 4000000 in
set_option maxRecDepth 100000 in
theorem grow_nil (s : Int) (h1 : 0 ≤ s) (h2 : s ≤ 1000000) (w : World) :
    Calls Try.prog 24 #[.slice none 0 0, .int .i64 s] w fun e w' => (∃ A c, e = .returned (.slice A 0 c) ∧ Own w' w.heap.size (.slice A 0 c) []) ∧ Below w.heap.size w w' := by
  have HB := Aside0.mk (Below.refl w.heap.size w)
  by_cases c0 : 0 < s
  · have d1 : decide (s < 0) = false := decide_eq_false (by omega)
    have d2 : decide (0 < s) = true := decide_eq_true c0
    have H1 := Aside0.mk h1
    have H2 := Aside0.mk h2
    go_enter Try.func24, Try.ntmps24
    go_wp2_with (at_builtin; refine Kd.R_append_zeros kV (w0 := w) w.heap.size rfl _ _ 36 3 40 (.agg #[.int .i64 0, .int .i64 0]) 16 rfl Try.underlying36 Try.underlying3 info40 rfl (by decide) (by omega) (.slice none 0 0) [] (0, 0) s (fun k => w.heap.size ≤ k) rfl rfl ⟨[.int .i64 0], [.int .i64 0], rfl, rfl, rfl⟩ (fun _ h => h) (R_nil _ _ _ _ _) H1.out (Below.refl _ _) (Nat.le_refl _) ?side ?_; (case side => have := H2.out; simp; omega); intro v1 w1 hR hb hg hat; obtain ⟨A1, c1, e1⟩ := R_slice hR; subst e1; have HR1 := Aside0.mk hR; have HB1 := Aside0.mk hb; clear hR hb hg hat)
    go_ret
    exact ⟨⟨A1, c1, rfl, by have := R_take (m := 0) HR1.out (by simp); rw [List.take_zero] at this; exact this⟩, HB1.out⟩
  · have d1 : decide (s < 0) = false := decide_eq_false (by omega)
    have d2 : decide (0 < s) = false := decide_eq_false c0
    go_enter Try.func24, Try.ntmps24
    go_wp2
    go_ret
    exact ⟨⟨none, 0, rfl, R_nil _ _ _ _ _⟩, HB.out⟩
/-- Row k of what is read. -/
theorem row_at (h : (Kd.slice 40 kV).C w A n X) (k : Nat) (hk : k < n) : ∃ ad Ae ce, A = some ad ∧ w.cell? (ad.add k) = some (.slice Ae (X.getD k []).length ce) ∧ (X.getD k []).length ≤ ce ∧ kV.C w Ae (X.getD k []).length (X.getD k []) := by
  obtain ⟨ad, cs, e, _, ⟨Ae, ce, rfl, hl, hC⟩, hc⟩ := ReadsRow.get_ h ([] : List (Int × Int)) k (by omega) (by omega)
  have := hc 0 _ rfl
  rw [show (Kd.slice 40 kV).sz = 1 from rfl, Nat.mul_one, Nat.add_zero, Int.toNat_natCast] at this
  exact ⟨ad, Ae, ce, e, this, hl, hC⟩
theorem flat_succ (X : List (List (Int × Int))) (k : Nat) (hk : k < X.length) : (X.take (k + 1)).flatten = (X.take k).flatten ++ X.getD k [] := by
  rw [List.take_add_one, List.flatten_append, List.getD_eq_getElem?_getD]
  simp [List.getElem?_eq_getElem hk]
theorem flat_le (X : List (List (Int × Int))) (k : Nat) : (X.take k).flatten.length ≤ X.flatten.length := by
  have h := congrArg List.length (congrArg List.flatten (List.take_append_drop k X))
  rw [List.flatten_append, List.length_append] at h
  omega
/-- How many values the first k rows hold. -/
def tot (X : List (List (Int × Int))) (k : Nat) : Nat := (X.take k).flatten.length
theorem tot_succ (X : List (List (Int × Int))) (k : Nat) (hk : k < X.length) : tot X (k + 1) = tot X k + (X.getD k []).length := by
  unfold tot
  rw [flat_succ X k hk, List.length_append]
theorem tot_le (X : List (List (Int × Int))) (k : Nat) : tot X k ≤ X.flatten.length := flat_le X k
theorem tot_all (X : List (List (Int × Int))) : tot X X.length = X.flatten.length := by unfold tot; rw [List.take_of_length_le (Nat.le_refl _)]
set_option maxHeartbeats 4000000 in
set_option maxRecDepth 100000 in
theorem concat_any (h : (Kd.slice 40 kV).C w A n X) (hlt : X.flatten.length ≤ 1000000) (hn : n ≤ 1000000) :
    Calls Try.prog 18 #[.slice A n c] w fun e w' => (∃ A c, e = .returned (.slice A X.flatten.length c) ∧ Own w' w.heap.size (.slice A X.flatten.length c) X.flatten) ∧ Below w.heap.size w w' := by
  have hXl : X.length = n := h.1
  have HC := Aside0.mk h
  have HX := Aside0.mk hXl
  have HL := Aside0.mk hlt
  have HN := Aside0.mk hn
  clear h hlt hXl hn
  go_enter Try.func18, Try.ntmps18
  go_wp2
  go_loop [3, 11] (fun v i => ∃ k : Nat, k ≤ n ∧ i = .int .i64 k ∧ v = .int .i64 (tot X k)) (fun _ i => n - (intOf i).toNat)
  case atStart => exact ⟨0, Nat.zero_le _, rfl, rfl⟩
  case round =>
    obtain ⟨k, hk, rfl, rfl⟩ := hrel
    by_cases hlt : k < n
    · obtain ⟨ad, Ae, ce, rfl, hc, hle, hC⟩ := row_at HC.out k hlt
      have hf := tot_succ X k (by have := HX.out; omega)
      have hb := tot_le X (k + 1)
      rw [hf] at hb
      have hb2 := HL.out
      have HF := Aside0.mk hf
      generalize X.getD k [] = l at *
      have s1 : ((tot X k : Nat) : Int) + (l.length : Nat) < 1000001 := by omega
      clear hf hb hb2 hle hC
      have hn := HN.out
      have s2 : ¬ ((tot X k : Nat) : Int) + (l.length : Nat) < 0 := by omega
      have s3 := eq_false s2
      have s4 : decide (((tot X k : Nat) : Int) + (l.length : Nat) < 0) = false := decide_eq_false s2
      clear s2
      go_wp2
      go_round
      case rel => exact ⟨k + 1, by omega, by go_num, by rw [HF.out]; go_num⟩
      case measure => simp [intOf]; omega
    · obtain rfl : k = n := by omega
      obtain ⟨T, hT⟩ : ∃ T, T = X.flatten.length := ⟨_, rfl⟩
      rw [show tot X k = T from by rw [← HX.out, hT]; exact tot_all X]
      have hbd := HL.out
      rw [← hT] at hbd
      have HT := Aside0.mk hT
      clear hT
      have h0 : (0 : Int) ≤ (T : Nat) := by omega
      have G := Aside0.mk (fun w => grow_nil (T : Nat) (by omega) (by omega) w)
      go_wp2_with (go_at_call 24; refine (G.out _).mono ?_; rintro e w3 ⟨⟨A3, c3, rfl, hO⟩, hB⟩; have HO := Aside0.mk hO; have HB := Aside0.mk hB; clear hO hB)
      have HB0 := Aside0.mk hbd
      clear hbd h0 G
      go_loopw [6, 27] (fun v i wr => ∃ (j : Nat) (A6 : Option Addr) (c6 : Nat), j ≤ k ∧ i = .int .i64 j ∧ v = .slice A6 (tot X j) c6 ∧ Aside0 (Own wr w.heap.size (.slice A6 (tot X j) c6) (X.take j).flatten) ∧ Aside0 (Below w.heap.size w wr)) (fun _ i _ => k - (intOf i).toNat)
      case atStart => exact ⟨0, A3, c3, Nat.zero_le _, rfl, rfl, HO, HB⟩
      case round =>
        obtain ⟨j, A6, c6, hj, rfl, rfl, HO6, HB6⟩ := hrel
        by_cases hlt : j < k
        · obtain ⟨ad, Ae, ce, rfl, hc, hle, hC⟩ := row_at (C_below HC.out HB6.out) j hlt
          have hf := tot_succ X j (by have := HX.out; omega)
          have hb := tot_le X (j + 1)
          rw [hf] at hb
          have hfl := flat_succ X j (by have := HX.out; omega)
          have HFL := Aside0.mk hfl
          have HF := Aside0.mk hf
          have hxl : (X.take j).flatten.length = tot X j := rfl
          have HXL := Aside0.mk hxl
          have HB7 := Aside0.mk (show (tot X j + (X.getD j []).length) * 16 ≤ 140737488355328 from by have := HL.out; omega)
          generalize X.getD j [] = l at *
          have HCl := Aside0.mk hC
          clear hf hb hle hC hfl hxl
          have hn := HN.out
          go_wp2_with (at_builtin; refine Kd.R_append_rows kV (Rr := kV.K wr) (w0 := w) w.heap.size rfl _ _ 36 40 (.agg #[.int .i64 0, .int .i64 0]) 16 rfl Try.underlying36 info40 rfl (by decide) (by omega) (.slice A6 (tot X j) c6) (X.take j).flatten l Ae l.length ce (fun k_ => w.heap.size ≤ k_) (fun _ => False) rfl rfl HO6.out HCl.out (fun _ _ h => h) (fun _ h => h.elim) (fun k_ hk => Nat.le_trans HB6.out.size hk) HB6.out HB6.out.size (by rw [HXL.out]; exact HB7.out) ?_; intro v1 w7 hR hb hg hat; rw [← HFL.out] at hR; obtain ⟨A7, c7, e7⟩ := (show ∃ A c, v1 = .slice A (tot X (j + 1)) c from R_slice hR); subst e7; have HR7 := Aside0.mk hR; have HB8 := Aside0.mk hb; clear hR hb hg hat)
          go_roundw
          case rel => exact ⟨j + 1, A7, c7, by omega, by go_num, rfl, HR7, HB8⟩
          case measure => simp [intOf]; omega
        · obtain rfl : j = k := by omega
          have e : tot X j = X.flatten.length := by rw [← HX.out]; exact tot_all X
          have e2 : X.take j = X := List.take_of_length_le (by have := HX.out; omega)
          rw [e, e2] at HO6
          rw [e]
          clear e e2
          go_wp2
          go_ret
          exact ⟨⟨A6, c6, rfl, HO6.out⟩, HB6.out⟩
end Go.Proofs.Ytaedbjjjdafabaa.Tb
