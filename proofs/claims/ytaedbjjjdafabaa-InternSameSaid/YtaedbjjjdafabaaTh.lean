/- The law InternFull returns true for any two numbers. Conditions: the numbers are of their kind. -/
import Derived.Test.YtaedbjjjdafabaaTg
namespace Go.Proofs.Ytaedbjjjdafabaa.Tb
open Go.RowKit Go.Proofs.YtaedbjjjdafabaaW.PrintWords Go.Proofs.YtaedbjjjdafabaaW.PrintLast Go.Proofs.YtaedbjjjdafabaaW.PrintMore Go.Proofs.YtaedbjjjdafabaaW.PrintWords.Kd Go.Maps Go.Proofs.Ytaedbjjjdafabaa.PInternFull
attribute [local go_sem] max2_int min2_int max_two min_two max_three min_three max_four min_four
set_option linter.unusedVariables false
set_option linter.unusedSimpArgs false
theorem many1 (n : Int) (h0 : n < 0) : ∃ N : Nat, wrap64 (4090 + -(n + 1).tmod 10) = (N : Int) ∧ 4090 ≤ N ∧ N < 4100 := by
  rw [← Int.neg_tmod]
  have h1 := Int.tmod_nonneg 10 (show 0 ≤ -(n + 1) by omega)
  have h2 := Int.tmod_lt_of_pos (-(n + 1)) (show (0 : Int) < 10 by omega)
  generalize (-(n + 1)).tmod 10 = u at *
  refine ⟨(4090 + u).toNat, ?_, by omega, by omega⟩
  unfold wrap64
  omega
theorem many2 (n : Int) (h0 : 0 ≤ n) : ∃ N : Nat, 4090 + n % 10 = (N : Int) ∧ 4090 ≤ N ∧ N < 4100 := ⟨(4090 + n % 10).toNat, by omega, by omega, by omega⟩
theorem nat_succ (i : Nat) : Value.int .i64 ((i : Int) + 1) = .int .i64 ((i + 1 : Nat) : Int) := by rw [Int.natCast_add]; rfl
set_option maxHeartbeats 8000000 in
set_option maxRecDepth 100000 in
theorem full_any (s n : Int) (hs : -9223372036854775808 ≤ s) (hs2 : s < 9223372036854775808) (hn : -9223372036854775808 ≤ n) (hn2 : n < 9223372036854775808) (w : World) :
    Calls Try.prog 3 #[.int .i64 s, .int .i64 n] w fun e w' => e = .returned (.bool true) ∧ Below w.heap.size w w' := by
  have HB := Aside0.mk (Below.refl w.heap.size w)
  obtain ⟨r, hr⟩ := pick_some s
  obtain ⟨r1, r2⟩ := pick_bd s r hr hs hs2
  have HP := Aside0.mk hr
  have R1 := Aside0.mk r1
  have R2 := Aside0.mk r2
  obtain ⟨S, rfl⟩ : ∃ S : Nat, r = S := ⟨r.toNat, by omega⟩
  have S1 := Aside0.mk (show 1 ≤ S by omega)
  have S2 := Aside0.mk (show S ≤ 16 by omega)
  clear hr r1 r2 hs hs2
  have he := @neq_code
  by_cases c1 : n < 0
  all_goals
    go_enter Try.func3, Try.ntmps3
    go_wp2_with (first
      | (go_at_call 7; refine (up_any _).mono ?_; rintro e w1 ⟨rfl, hB⟩; have HB1 := Aside0.mk hB; clear hB)
      | (go_at_call 8; refine (fettlelaw10_pick.calls s S _ HP.out).mono ?_; rintro e w2 ⟨rfl, hB⟩; have HB2 := Aside0.mk (below_step HB1.out hB.below); clear hB)
      | (go_at_call 9; refine (new_any S R1.out R2.out _).mono ?_; rintro e w3 ⟨⟨gt, A, c, bm, rfl, hT⟩, hB⟩; have HT := Aside0.mk hT; have HB3 := Aside0.mk (below_step HB2.out hB); have HB0 := Aside0.mk HB2.out.size; have HBN := Aside0.mk hB; clear hT hB))
  rotate_left
  · obtain ⟨N, hN, N1, N2⟩ := many2 n c1
    rw [hN]
    have HN1 := Aside0.mk N1
    have HN2 := Aside0.mk N2
    clear hN N1 N2 hn hn2 c1
    have n1 : 4090 ≤ N := HN1.out
    have n2 : N < 4100 := HN2.out
    have hSS : (S : Int).toNat = S := Int.toNat_natCast S
    rw [hSS] at HT
    have HT := Aside0.mk HT.out
    clear hSS
    go_loopw [8] (fun v wr => ∃ (i : Nat) (X : List (List (Int × Int))) (D : DataW Unit), v = .int .i64 i ∧ i ≤ N ∧ Aside0 (Tab wr w2.heap.size gt A S c bm (min i 4096) X D) ∧ Aside0 (Fill i X D) ∧ Aside0 (Below w2.heap.size w2 wr)) (fun v _ => N - (intOf v).toNat)
    case atStart => exact ⟨0, _, _, rfl, Nat.zero_le _, HT, ⟨fill_zero S⟩, HBN⟩
    case round =>
      obtain ⟨i, X, D, rfl, hi, HT4, HF, HB4⟩ := hrel
      clear HT HBN
      by_cases hlt : i < N
      · by_cases h4 : i < 4096
        · have f1 : decide ((i : Int) < 4096) = true := decide_eq_true (by omega)
          have f2 : decide ((4096 : Int) ≤ (i : Int)) = false := decide_eq_false (by omega)
          go_wp2_with (fail)
          refine (put_new HT4.out HB4.out.size 1 i rfl wf1 (wfn i (by omega)) (HF.out.no i (by omega) (by omega)) (by rw [HF.out.size]; omega) S1.out S2.out (by unfold maxLen; omega) (by have := HF.out.len (drw 1 i S).toNat; omega)).mono ?_
          rintro e w5 ⟨rfl, hB, hT⟩
          have HT5 := Aside0.mk hT
          have HB5 := Aside0.mk (HB4.out.trans hB)
          clear hT hB
          go_wp2
          go_roundw
          case rel => exact ⟨i + 1, _, _, nat_succ i, by omega, ⟨by rw [show min (i + 1) 4096 = min i 4096 + 1 by omega]; exact HT5.out⟩, ⟨fill_step i h4 HF.out (HT4.out.map.tidy law40) S _⟩, HB5⟩
          case measure => simp [intOf]; omega
        · have f1 : decide ((i : Int) < 4096) = false := decide_eq_false (by omega)
          have f2 : decide ((4096 : Int) ≤ (i : Int)) = true := decide_eq_true (by omega)
          go_wp2_with (fail)
          refine (put_full HT4.out 1 i rfl wf1 (wfn i (by omega)) (HF.out.no i (by omega) (by omega)) (by rw [HF.out.size]; omega)).mono ?_
          rintro e w5 ⟨rfl, hB⟩
          have HT5 := Aside0.mk (HT4.out.below hB)
          have HB5 := Aside0.mk (below_then HB4.out HB4.out.size hB)
          clear hB
          go_wp2
          go_roundw
          case rel => exact ⟨i + 1, _, _, nat_succ i, by omega, ⟨by rw [show min (i + 1) 4096 = min i 4096 by omega]; exact HT5.out⟩, ⟨fill_more i (by omega) HF.out⟩, HB5⟩
          case measure => simp [intOf]; omega
      · have e5 : Maps.has D (KL 1 5) = true := HF.out.has 5 (by omega)
        have H5 := Aside0.mk e5
        obtain ⟨q, hq, _, _⟩ := HT4.out.look wf1 (wfn 5 (by omega))
        have HQ := Aside0.mk hq
        have hle : ((Maps.size D : Nat) : Int) ≤ 4096 := by rw [HF.out.size]; omega
        have d9 := decide_eq_true hle
        have d8 := eq_true hle
        clear e5 hq hle
        go_wp2_with (fail)
        refine (put_has HT4.out 1 5 q rfl wf1 (wfn 5 (by omega)) H5.out HQ.out).mono ?_
        rintro e w5 ⟨rfl, hB⟩
        have HT5 := Aside0.mk (HT4.out.below hB)
        have HB5 := Aside0.mk (below_then HB4.out HB4.out.size hB)
        clear hB
        go_wp2_with (fail)
        refine (find_any HT5.out 1 5 wf1 (wfn 5 (by omega))).mono ?_
        rintro e w6 ⟨⟨q2, hq2, rfl⟩, hd⟩
        obtain rfl : q2 = q := by
          have e := hq2.symm.trans HQ.out
          simpa using e
        rw [H5.out]
        have HT6 := Aside0.mk (HT5.out.below hd.below)
        have HB6 := Aside0.mk (below_then HB5.out HB5.out.size hd.below)
        clear hq2 hd
        go_wp2_with (go_at_call 12; refine (len_any HT6.out).mono ?_; rintro e w7 ⟨rfl, rfl⟩)
        go_ret
        exact ⟨rfl, below_step HB2.out HB6.out⟩
  · obtain ⟨N, hN, N1, N2⟩ := many1 n c1
    rw [hN]
    have HN1 := Aside0.mk N1
    have HN2 := Aside0.mk N2
    clear hN N1 N2 hn hn2 c1
    have n1 : 4090 ≤ N := HN1.out
    have n2 : N < 4100 := HN2.out
    have hSS : (S : Int).toNat = S := Int.toNat_natCast S
    rw [hSS] at HT
    have HT := Aside0.mk HT.out
    clear hSS
    go_loopw [8] (fun v wr => ∃ (i : Nat) (X : List (List (Int × Int))) (D : DataW Unit), v = .int .i64 i ∧ i ≤ N ∧ Aside0 (Tab wr w2.heap.size gt A S c bm (min i 4096) X D) ∧ Aside0 (Fill i X D) ∧ Aside0 (Below w2.heap.size w2 wr)) (fun v _ => N - (intOf v).toNat)
    case atStart => exact ⟨0, _, _, rfl, Nat.zero_le _, HT, ⟨fill_zero S⟩, HBN⟩
    case round =>
      obtain ⟨i, X, D, rfl, hi, HT4, HF, HB4⟩ := hrel
      clear HT HBN
      by_cases hlt : i < N
      · by_cases h4 : i < 4096
        · have f1 : decide ((i : Int) < 4096) = true := decide_eq_true (by omega)
          have f2 : decide ((4096 : Int) ≤ (i : Int)) = false := decide_eq_false (by omega)
          go_wp2_with (fail)
          refine (put_new HT4.out HB4.out.size 1 i rfl wf1 (wfn i (by omega)) (HF.out.no i (by omega) (by omega)) (by rw [HF.out.size]; omega) S1.out S2.out (by unfold maxLen; omega) (by have := HF.out.len (drw 1 i S).toNat; omega)).mono ?_
          rintro e w5 ⟨rfl, hB, hT⟩
          have HT5 := Aside0.mk hT
          have HB5 := Aside0.mk (HB4.out.trans hB)
          clear hT hB
          go_wp2
          go_roundw
          case rel => exact ⟨i + 1, _, _, nat_succ i, by omega, ⟨by rw [show min (i + 1) 4096 = min i 4096 + 1 by omega]; exact HT5.out⟩, ⟨fill_step i h4 HF.out (HT4.out.map.tidy law40) S _⟩, HB5⟩
          case measure => simp [intOf]; omega
        · have f1 : decide ((i : Int) < 4096) = false := decide_eq_false (by omega)
          have f2 : decide ((4096 : Int) ≤ (i : Int)) = true := decide_eq_true (by omega)
          go_wp2_with (fail)
          refine (put_full HT4.out 1 i rfl wf1 (wfn i (by omega)) (HF.out.no i (by omega) (by omega)) (by rw [HF.out.size]; omega)).mono ?_
          rintro e w5 ⟨rfl, hB⟩
          have HT5 := Aside0.mk (HT4.out.below hB)
          have HB5 := Aside0.mk (below_then HB4.out HB4.out.size hB)
          clear hB
          go_wp2
          go_roundw
          case rel => exact ⟨i + 1, _, _, nat_succ i, by omega, ⟨by rw [show min (i + 1) 4096 = min i 4096 by omega]; exact HT5.out⟩, ⟨fill_more i (by omega) HF.out⟩, HB5⟩
          case measure => simp [intOf]; omega
      · have e5 : Maps.has D (KL 1 5) = true := HF.out.has 5 (by omega)
        have H5 := Aside0.mk e5
        obtain ⟨q, hq, _, _⟩ := HT4.out.look wf1 (wfn 5 (by omega))
        have HQ := Aside0.mk hq
        have hle : ((Maps.size D : Nat) : Int) ≤ 4096 := by rw [HF.out.size]; omega
        have d9 := decide_eq_true hle
        have d8 := eq_true hle
        clear e5 hq hle
        go_wp2_with (fail)
        refine (put_has HT4.out 1 5 q rfl wf1 (wfn 5 (by omega)) H5.out HQ.out).mono ?_
        rintro e w5 ⟨rfl, hB⟩
        have HT5 := Aside0.mk (HT4.out.below hB)
        have HB5 := Aside0.mk (below_then HB4.out HB4.out.size hB)
        clear hB
        go_wp2_with (fail)
        refine (find_any HT5.out 1 5 wf1 (wfn 5 (by omega))).mono ?_
        rintro e w6 ⟨⟨q2, hq2, rfl⟩, hd⟩
        obtain rfl : q2 = q := by
          have e := hq2.symm.trans HQ.out
          simpa using e
        rw [H5.out]
        have HT6 := Aside0.mk (HT5.out.below hd.below)
        have HB6 := Aside0.mk (below_then HB5.out HB5.out.size hd.below)
        clear hq2 hd
        go_wp2_with (go_at_call 12; refine (len_any HT6.out).mono ?_; rintro e w7 ⟨rfl, rfl⟩)
        go_ret
        exact ⟨rfl, below_step HB2.out HB6.out⟩
end Go.Proofs.Ytaedbjjjdafabaa.Tb
