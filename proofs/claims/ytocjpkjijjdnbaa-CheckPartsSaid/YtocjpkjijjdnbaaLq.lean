/- The law CheckParts returns true for any module and any number. Conditions: the number is of its kind. -/
import Derived.Test.YtocjpkjijjdnbaaLn
namespace Go.Proofs.Ytocjpkjijjdnbaa.Lk
open Go.RowKit Go.Proofs.YtocjpkjijjdnbaaW.PrintWords Go.Proofs.YtocjpkjijjdnbaaW.PrintLast Go.Proofs.YtocjpkjijjdnbaaW.PrintMore Go.Proofs.YtocjpkjijjdnbaaW.PrintWords.Kd Go.Proofs.Ytocjpkjijjdnbaa.PCheckAhead Go.Proofs.Ytocjpkjijjdnbaa.Lp
attribute [local go_sem] max2_int min2_int max_two min_two max_three min_three max_four min_four
set_option linter.unusedVariables false
set_option linter.unusedSimpArgs false
variable {w w1 : World}
theorem C_take {α : Type} {d : Kd α} {A : Option Addr} {n : Nat} {xs : List α} (h : d.C w A n xs) (k : Nat) (hk : k ≤ n) : d.C w A k (xs.take k) := by
  refine ⟨by rw [List.length_take, h.1]; omega, by have := h.2.1; omega, fun h0 => ?_⟩
  obtain ⟨ad, e, hc⟩ := h.2.2 (by omega)
  refine ⟨ad, e, fun j p hj => hc j p ?_⟩
  rw [List.getElem?_take] at hj
  by_cases hjk : j < k
  · rwa [if_pos hjk] at hj
  · rw [if_neg hjk] at hj
    cases hj
/-! ### The plain law -/
def callsI (n : Int) (x : In) : Bool := x.f0 == 17 && decide (n ≤ x.f4)
def callsB (n : Int) (b : Bk) : Bool := b.f1.any (callsI n)
def callsF (n : Int) (f : Fn) : Bool := f.f3.any (callsB n)
theorem any_take {α : Type} {l : List α} {p : α → Bool} {z : α} {k : Nat} (hk : k < l.length) : (l.take (k + 1)).any p = ((l.take k).any p || p (l.getD k z)) := by
  rw [List.take_succ_eq_append_getElem hk, List.any_append, ← getD_at l k z hk]
  simp
theorem getD_take {α : Type} (l : List α) (N i : Nat) (z : α) (h : i < N) : (l.take N).getD i z = l.getD i z := by
  rw [List.getD_eq_getElem?_getD, List.getD_eq_getElem?_getD, List.getElem?_take, if_pos h]
theorem arity_take (m : List Fn) (N : Nat) (hN : N ≤ m.length) (x : In) (h : callsI N x = false) (hc : x.f0 = 17 → (arityV m x).2.2 = none) : arityV (m.take N) x = arityV m x := by
  unfold arityV at hc ⊢
  by_cases h17 : x.f0 = 17
  · have hlt : x.f4 < N := by
      unfold callsI at h
      rw [h17] at h
      simpa using h
    have ha : (argsV 17).2 = false := rfl
    have hc := hc h17
    rw [h17, ha, if_neg Bool.false_ne_true, if_neg (by omega), if_neg (by omega), if_neg (by omega), if_neg (by omega), if_pos rfl] at hc
    rw [h17, ha, if_neg Bool.false_ne_true, if_neg Bool.false_ne_true]
    by_cases h0 : x.f4 < 0
    · rw [if_pos h0] at hc
      exact absurd hc (by simp)
    · rw [if_neg h0, if_neg h0, List.length_take, if_pos (show x.f4 < ((min N m.length : Nat) : Int) by omega), if_pos (show x.f4 < (m.length : Int) by omega)]
      have e : rd_T25 (m.take N) x.f4 = rd_T25 m x.f4 := getD_take m N x.f4.toNat _ (by omega)
      rw [e]
  · rw [if_neg h17, if_neg h17]
theorem fits_take (m : List Fn) (f : Fn) (N : Nat) (x : In) (h : callsI N x = false) (h0 : x.f0 = 17 → 0 ≤ x.f4) : fitsB (m.take N) f x = fitsB m f x := by
  unfold fitsB
  by_cases h17 : x.f0 = 17
  · have hlt : x.f4 < N := by
      unfold callsI at h
      rw [h17] at h
      simpa using h
    have h0 := h0 h17
    have e : rd_T25 (m.take N) x.f4 = rd_T25 m x.f4 := getD_take m N x.f4.toNat _ (by omega)
    rw [e]
  · simp only [if_neg h17]
theorem instr_take (m : List Fn) (f : Fn) (N : Nat) (hN : N ≤ m.length) (x : In) (hx : instrE m f x = none) : (instrE (m.take N) f x = none) ↔ callsI N x = false := by
  have hok : (arityV m x).2.2 = none := by
    unfold instrE at hx
    by_cases h : (arityV m x).2.2 = none
    · exact h
    · rw [if_neg h] at hx; exact hx
  constructor
  · intro h
    cases hc : callsI N x with
    | false => rfl
    | true =>
      unfold callsI at hc
      simp only [Bool.and_eq_true, beq_iff_eq, decide_eq_true_eq] at hc
      have ha : (argsV 17).2 = false := rfl
      have e : (arityV (m.take N) x).2.2 = some 4 := by
        unfold arityV
        rw [hc.1, ha, if_neg Bool.false_ne_true, if_neg (by omega), if_neg (by omega), if_neg (by omega), if_neg (by omega), if_pos rfl]
        by_cases h0 : x.f4 < 0
        · rw [if_pos h0]
        · rw [if_neg h0, if_neg (by rw [List.length_take]; omega)]
      unfold instrE at h
      rw [if_neg (by rw [e]; simp), e] at h
      exact absurd h (by simp)
  · intro h
    have e1 := arity_take m N hN x h (fun _ => hok)
    have e2 : fitsB (m.take N) f x = fitsB m f x := fits_take m f N x h (fun h17 => by
      have ha : (argsV 17).2 = false := rfl
      unfold arityV at hok
      rw [h17, ha, if_neg Bool.false_ne_true, if_neg (by omega), if_neg (by omega), if_neg (by omega), if_neg (by omega), if_pos rfl] at hok
      by_cases h0 : x.f4 < 0
      · rw [if_pos h0] at hok
        exact absurd hok (by simp)
      · omega)
    unfold instrE at hx ⊢
    rw [e1, e2]
    exact hx
theorem block_take (m : List Fn) (f : Fn) (N : Nat) (hN : N ≤ m.length) (b : Bk) (hb : blockE m f b = none) : (blockE (m.take N) f b = none) ↔ callsB N b = false := by
  have h1 : b.f0.findSome? (phiE f) = none := by
    unfold blockE at hb
    cases h : b.f0.findSome? (phiE f) with
    | none => rfl
    | some c => rw [h] at hb; exact absurd hb (by simp)
  have h2 : b.f1.findSome? (instrE m f) = none := by
    unfold blockE at hb
    rw [h1] at hb
    dsimp only at hb
    cases h : b.f1.findSome? (instrE m f) with
    | none => rfl
    | some c => rw [h] at hb; exact absurd hb (by simp)
  have h3 : endE f b.f2 = none := by rw [← blockE_C h1 h2]; exact hb
  have h4 : (b.f1.findSome? (instrE (m.take N) f) = none) ↔ callsB N b = false := by
    rw [List.findSome?_eq_none_iff]
    rw [List.findSome?_eq_none_iff] at h2
    unfold callsB
    rw [List.any_eq_false]
    constructor
    · intro h x hx
      rw [(instr_take m f N hN x (h2 x hx)).mp (h x hx)]
      simp
    · intro h x hx
      exact (instr_take m f N hN x (h2 x hx)).mpr (by simpa using h x hx)
  rw [← h4]
  constructor
  · intro h
    cases e : b.f1.findSome? (instrE (m.take N) f) with
    | none => rfl
    | some c => rw [blockE_B h1 e] at h; exact absurd h (by simp)
  · intro h
    rw [blockE_C h1 h]
    exact h3
theorem func_take (m : List Fn) (N : Nat) (hN : N ≤ m.length) (i : Nat) (hi : i < N) (h : funcE m i = none) : (funcE (m.take N) i = none) ↔ callsF N (m.getD i z25) = false := by
  have e : rd_T25 (m.take N) (i : Int) = rd_T25 m (i : Int) := getD_take m N i _ hi
  have e2 : rd_T25 m (i : Int) = m.getD i z25 := rfl
  unfold funcE at h ⊢
  rw [e2] at h
  rw [e, e2]
  clear e e2
  generalize m.getD i z25 = f at *
  rw [if_neg (by omega), if_neg (by omega)] at h
  rw [if_neg (by omega), if_neg (by rw [List.length_take]; omega)]
  by_cases c1 : smallB f.f2 f.f3 = true
  rotate_left
  · rw [if_neg c1] at h; exact absurd h (by simp)
  rw [if_pos c1] at h ⊢
  by_cases c2 : typedB f = true
  rotate_left
  · rw [if_neg c2] at h; exact absurd h (by simp)
  rw [if_pos c2] at h ⊢
  by_cases c3 : f.f3.all (fun b => endsB f.f3.length b.f2) = true
  rotate_left
  · rw [if_neg c3] at h; exact absurd h (by simp)
  rw [if_pos c3] at h ⊢
  by_cases c4 : (List.range f.f3.length).all (phiOk f.f3) = true
  rotate_left
  · rw [if_neg c4] at h; exact absurd h (by simp)
  rw [if_pos c4] at h ⊢
  rw [List.findSome?_eq_none_iff] at h ⊢
  unfold callsF
  rw [List.any_eq_false]
  constructor
  · intro g b hb
    rw [(block_take m f N hN b (h b hb)).mp (g b hb)]
    simp
  · intro g b hb
    exact (block_take m f N hN b (h b hb)).mpr (by simpa using g b hb)
theorem mod_take (m : List Fn) (N : Nat) (hN : N ≤ m.length) (h : modE m = none) : modE (m.take N) = none ↔ (m.take N).any (callsF N) = false := by
  unfold modE at h ⊢
  by_cases c : 32 < m.length
  · rw [if_pos c] at h; exact absurd h (by simp)
  rw [if_neg c] at h
  rw [if_neg (by rw [List.length_take]; omega), List.length_take, Nat.min_eq_left hN]
  rw [List.findSome?_eq_none_iff] at h ⊢
  have hf : ∀ i, i < m.length → funcE m (i : Int) = none := fun i hi => by
    have := h i (List.mem_range.mpr hi)
    simpa using this
  rw [List.any_eq_false]
  constructor
  · intro g f hf2
    obtain ⟨i, hi, rfl⟩ := mem_getD z25 hf2
    rw [List.length_take] at hi
    rw [getD_take m N i _ (by omega)]
    have := g i (List.mem_range.mpr (by omega))
    rw [(func_take m N hN i (by omega) (hf i (by omega))).mp (by simpa using this)]
    simp
  · intro g i hi
    have hi := List.mem_range.mp hi
    have := g _ (getD_mem (m.take N) i z25 (by rw [List.length_take]; omega))
    rw [getD_take m N i _ hi] at this
    rw [(func_take m N hN i hi (hf i (by omega))).mpr (by simpa using this)]
    rfl
/-! ### The walk -/
theorem i64_neg (n : Int) (h : -9223372036854775808 ≤ n) (h0 : n < 0) : 0 ≤ -(n + 1) ∧ -(n + 1) ≤ 9223372036854775807 := by omega
set_option maxHeartbeats 16000000 in
set_option maxRecDepth 100000 in
theorem parts_any (m : List Fn) (Am : Option Addr) (cm : Nat) (hm : Kd.C k25 w Am m.length m) (hcm : m.length ≤ cm) (n : Int) (hn : -9223372036854775808 ≤ n) (hn2 : n < 9223372036854775808) :
    Calls Try.prog 4 #[.agg #[.slice Am m.length cm], .int .i64 n] w fun e w' => e = .returned (.bool true) ∧ Below w.heap.size w w' := by
  obtain ⟨sm, hsm, hok⟩ := small_mod m
  obtain ⟨ks, hks⟩ := hsm.rounds
  have HM := Aside0.mk hm
  have HCM := Aside0.mk hcm
  have HKS := Aside0.mk hks
  have HOK := Aside0.mk hok
  have HNN := Aside0.mk (And.intro hn hn2)
  clear hm hcm hks hsm hok
  go_enter Try.func4, Try.ntmps4
  go_wp2_with ((with_reducible refine gate_dst (N := 2) rfl ?_); refine box_event ?hg (N := 2) ?hd (cs := #[.slice Am m.length cm]) (t := 30) ?hr ?_; (case hd => rfl); (case hg => rfl); (case hr => first | (go_simp; done) | (go_simp; rfl)); intro gb2 hg w2 hbox hb; have BX2 := Aside0.mk hbox; have H0 := Aside0.mk hb; have HG2 := Aside0.mk hg; have HB := Aside0.mk (Below.refl w2.heap.size w2); clear hbox hb hg; have hx2_0 : w2.cell? ⟨gb2, 0, none⟩ = some (.slice Am m.length cm) := (blk_cell BX2.out 0).trans rfl)
  refine (fettlelaw02_up.calls true _ rfl).mono ?_
  rintro e w3 ⟨rfl, hb⟩
  replace HB := Aside0.mk (below_step HB.out hb)
  clear hb hx2_0
  have hx2_0 := bx_cell BX2.out HB.out 0 (v := .slice Am m.length cm) rfl
  go_wp2_with (fail)
  refine (fettleref02_Small.calls ks Am cm m sm _ (Kd.C_below (Kd.C_below HM.out H0.out) HB.out) HCM.out HKS.out).mono ?_
  rintro e w4 ⟨rfl, hb⟩
  replace HB := Aside0.mk (below_step HB.out (by first | exact hb | exact hb.below))
  clear hb hx2_0
  cases sm with
  | false =>
    go_wp2
    go_ret
    exact ⟨rfl, below_step H0.out HB.out⟩
  | true =>
    have HOM := Aside0.mk (HOK.out rfl)
    clear HOK HKS
    have hx2_0 := bx_cell BX2.out HB.out 0 (v := .slice Am m.length cm) rfl
    go_wp2_with (fail)
    refine (module_any (w := w4) m Am cm (Kd.C_below (Kd.C_below HM.out H0.out) HB.out) HCM.out (fun j hj => (HOM.out.each j hj).bd)).mono ?_
    rintro e w5 ⟨⟨v, rfl, hv⟩, hb⟩
    replace HB := Aside0.mk (below_step HB.out hb)
    clear hb hx2_0
    cases hme : modE m with
    | some ac =>
      obtain ⟨a, c⟩ := ac
      rw [hme] at hv
      clear hme
      rcases hv with ⟨rfl, rfl⟩ | ⟨_, g, _, rfl, _⟩
      all_goals
        go_wp2
        go_ret
        exact ⟨rfl, below_step H0.out HB.out⟩
    | none =>
      rw [hme] at hv
      obtain rfl : v = .nilIface := hv
      have HME := Aside0.mk hme
      clear hme
      have hx2_0 := bx_cell BX2.out HB.out 0 (v := .slice Am m.length cm) rfl
      have hml := HOM.out.n
      have key : ∃ N : Nat, N ≤ m.length ∧ ((n < 0 → (-(n + 1)) % ((m.length : Int) + 1) = N) ∧ (0 ≤ n → n % ((m.length : Int) + 1) = N)) := by
        by_cases c0 : n < 0
        · have h1 := Int.emod_nonneg (-(n + 1)) (show (m.length : Int) + 1 ≠ 0 by omega)
          have h2 := Int.emod_lt_of_pos (-(n + 1)) (show 0 < (m.length : Int) + 1 by omega)
          exact ⟨((-(n + 1)) % ((m.length : Int) + 1)).toNat, by omega, fun _ => by omega, fun h => by omega⟩
        · have h1 := Int.emod_nonneg n (show (m.length : Int) + 1 ≠ 0 by omega)
          have h2 := Int.emod_lt_of_pos n (show 0 < (m.length : Int) + 1 by omega)
          exact ⟨(n % ((m.length : Int) + 1)).toNat, by omega, fun h => by omega, fun _ => by omega⟩
      obtain ⟨N, hNm, hN1, hN2⟩ := key
      by_cases c0 : n < 0
      have d0 := decide_eq_true c0
      have hN := hN1 c0
      obtain ⟨g0, g1⟩ := i64_neg n hn c0
      have hN3 : -(n + 1).tmod ((m.length : Int) + 1) = (N : Int) := by
        rw [← Int.neg_tmod, Int.tmod_eq_emod_of_nonneg g0]
        exact hN
      have HN3 := Aside0.mk hN3
      clear hN1 hN2 hN hN3 c0
      go_wp2
      rw [HN3.out]
      clear d0 g0 g1 HN3
      rotate_left
      have d0 := decide_eq_false (show ¬ n < 0 by omega)
      have g0 : 0 ≤ n := by omega
      have HN3 := Aside0.mk (hN2 g0)
      clear hN1 hN2 c0
      go_wp2
      rw [HN3.out]
      clear d0 g0 HN3
      all_goals
        clear hml
        have HNM := Aside0.mk hNm
        go_loopw [8, 9] (fun v8 v9 wr => ∃ k : Nat, k ≤ N ∧ v8 = .bool ((m.take k).any (callsF N)) ∧ v9 = .int .i64 k ∧ Aside0 (Below w2.heap.size w2 wr)) (fun v8 v9 _ => N - (intOf v9).toNat)
        case atStart => exact ⟨0, Nat.zero_le _, rfl, rfl, HB⟩
        case round =>
          clear HB hx2_0
          obtain ⟨k, hk, rfl, rfl, HB⟩ := hrel
          have hNl := HNM.out
          have hml := HOM.out.n
          by_cases hlt : k < N
          · have e0 : decide ((k : Int) < (N : Int)) = true := decide_eq_true (by omega)
            have P0 := Aside0.mk (show 0 ≤ (k : Int) by omega)
            have Q0 := Aside0.mk (show (k : Int) < (m.length : Int) by omega)
            have HKM := Aside0.mk (show k < m.length by omega)
            have HLT := Aside0.mk hlt
            obtain ⟨f, hf⟩ : ∃ f, f = m.getD k z25 := ⟨_, rfl⟩
            have HF := Aside0.mk hf.symm
            have HFL := Aside0.mk (show f.f3.length ≤ 70 by rw [hf]; exact (HOM.out.each k (by omega)).blocks)
            obtain ⟨am, _, _, _, _, ex, _⟩ := at_T25 HM.out k P0.out Q0.out
            cases ex
            clear hf hk
            generalize hc : (m.take k).any (callsF N) = c
            have HC := Aside0.mk hc
            clear hc
            go_wp2
            go_loopw [8, 10] (fun v8 v10 wq => ∃ j : Nat, j ≤ f.f3.length ∧ v8 = .bool (c || (f.f3.take j).any (callsB N)) ∧ v10 = .int .i64 j ∧ Aside0 (Below w2.heap.size w2 wq)) (fun v8 v10 _ => f.f3.length - (intOf v10).toNat)
            case atStart => exact ⟨0, Nat.zero_le _, by simp, rfl, HB⟩
            case round =>
              clear HB
              obtain ⟨j, hj, rfl, rfl, HB⟩ := hrel
              have hx2_0 := bx_cell BX2.out HB.out 0 (v := .slice (some am) m.length cm) rfl
              have HM2 := Kd.C_below (Kd.C_below HM.out H0.out) HB.out
              obtain ⟨am', A2, c2, A3, c3, ex, hx0, hx1, hx2, hx3, hl2, hi2, hl3, hi3⟩ := at_T25 HM2 k P0.out Q0.out
              cases ex
              rw [Int.toNat_natCast] at hx0 hx1 hx2 hx3
              rw [show rd_T25 m (k : Int) = f from HF.out] at hx0 hx1 hx2 hx3 hi3
              have hfl := HFL.out
              have p1 := eq_true P0.out
              have q1 := eq_true Q0.out
              by_cases hlt2 : j < f.f3.length
              · have e1 : decide ((j : Int) < (f.f3.length : Int)) = true := decide_eq_true (by omega)
                have p0 : 0 ≤ (j : Int) := by omega
                have q0 : (j : Int) < (f.f3.length : Int) := by omega
                obtain ⟨ab, A0, c0, A1, c1, A4, c4, ex, hy0, hy1, hy2, hy3, hy4, hl0, hi0, hl1, hi1, hl4, hi4⟩ := at_T43 hi3 j p0 q0
                cases ex
                rw [Int.toNat_natCast] at hy0 hy1 hy2 hy3 hy4
                obtain ⟨b, hb⟩ : ∃ b, b = rd_T43 f.f3 (j : Int) := ⟨_, rfl⟩
                have hgb : f.f3.getD j z43 = b := by rw [hb]; rfl
                rw [← hb] at hy0 hy1 hy2 hy3 hy4 hi1
                have HB3 := Aside0.mk hgb
                have HI1 := Aside0.mk hi1
                have p2 := eq_true p0
                have q2 := eq_true q0
                clear hb hgb p0 q0 HM2 hl2 hi2 hl3 hi3 hl0 hi0 hl1 hi1 hl4 hi4
                generalize hd : (f.f3.take j).any (callsB N) = d
                have HD := Aside0.mk hd
                clear hd
                go_wp2
                have hb9 := below_alloc (Below.refl wr.heap.size wr) (.cells #[.slice A0 b.f0.length c0, .slice A1 b.f1.length c1, .int .i64 b.f2.f0, .int .i64 b.f2.f1, .slice A4 b.f2.f2.length c4] 43)
                have hx9 := blk_new wr (.cells #[.slice A0 b.f0.length c0, .slice A1 b.f1.length c1, .int .i64 b.f2.f0, .int .i64 b.f2.f1, .slice A4 b.f2.f2.length c4] 43)
                generalize wr.alloc (.cells #[.slice A0 b.f0.length c0, .slice A1 b.f1.length c1, .int .i64 b.f2.f0, .int .i64 b.f2.f1, .slice A4 b.f2.f2.length c4] 43) = w9 at hb9 hx9 ⊢
                generalize wr.heap.size = g9 at hx9 ⊢
                have HI9 := Aside0.mk (Kd.C_below HI1.out hb9)
                have HB9 := Aside0.mk (below_step HB.out hb9)
                have BX9 := Aside0.mk hx9
                clear hb9 hx9 hx2_0 hx0 hx1 hx2 hx3 hy0 hy1 hy2 hy3 hy4 HI1
                clear HB
                go_loopw [8, 12] (fun v8 v12 wq => ∃ q : Nat, q ≤ b.f1.length ∧ v8 = .bool ((c || d) || (b.f1.take q).any (callsI N)) ∧ v12 = .int .i64 q ∧ Aside0 (Below w9.heap.size w9 wq)) (fun v8 v12 _ => b.f1.length - (intOf v12).toNat)
                case atStart => exact ⟨0, Nat.zero_le _, by simp, rfl, ⟨Below.refl _ _⟩⟩
                case round =>
                  obtain ⟨q, hq, rfl, rfl, HQ⟩ := hrel
                  have hx9_1 : wr.cell? ⟨g9, 1, none⟩ = some (.slice A1 b.f1.length c1) := bx_cell BX9.out HQ.out 1 rfl
                  have hxl2 := HI9.out.2.1
                  by_cases hlt3 : q < b.f1.length
                  · have e2 : decide ((q : Int) < (b.f1.length : Int)) = true := decide_eq_true (by omega)
                    have p0 : 0 ≤ (q : Int) := by omega
                    have q0 : (q : Int) < (b.f1.length : Int) := by omega
                    obtain ⟨ai, A6, c6, ex, hy0, hy1, hy2, hy3, hy4, _⟩ := at_T45 (Kd.C_below HI9.out HQ.out) q p0 q0
                    cases ex
                    rw [Int.toNat_natCast] at hy0 hy1 hy2 hy3 hy4
                    obtain ⟨y, hy⟩ : ∃ y, y = rd_T45 b.f1 (q : Int) := ⟨_, rfl⟩
                    have hgy : b.f1.getD q z45 = y := by rw [hy]; rfl
                    rw [← hy] at hy0 hy4
                    have HY := Aside0.mk hgy
                    have p1 := eq_true p0
                    have q1 := eq_true q0
                    have HE := Aside0.mk (any_take (p := callsI N) (z := z45) hlt3)
                    clear hy hgy p0 q0 hy1 hy2 hy3
                    rw [HY.out] at HE
                    generalize (b.f1.take q).any (callsI N) = e at HE ⊢
                    cases hv : (c || d) || e with
                    | true =>
                      have HV := Aside0.mk hv
                      clear hv
                      go_wp2
                      go_roundw
                      case rel => exact ⟨q + 1, hlt3, by rw [HE.out, ← Bool.or_assoc, HV.out]; rfl, by go_num, HQ⟩
                      case measure => simp [intOf]; omega
                    | false =>
                      have HV := Aside0.mk hv
                      clear hv
                      cases h17 : (y.f0 == 17) with
                      | false =>
                        have H17 := Aside0.mk h17
                        go_wp2
                        go_roundw
                        case rel => exact ⟨q + 1, hlt3, by rw [HE.out, ← Bool.or_assoc, HV.out]; unfold callsI; rw [H17.out]; rfl, by go_num, HQ⟩
                        case measure => simp [intOf]; omega
                      | true =>
                        have H17 := Aside0.mk h17
                        cases hN4 : decide ((N : Int) ≤ y.f4) with
                        | _ =>
                          have H4 := Aside0.mk hN4
                          go_wp2
                          go_roundw
                          case rel => exact ⟨q + 1, hlt3, by rw [HE.out, ← Bool.or_assoc, HV.out]; unfold callsI; rw [H17.out, H4.out]; rfl, by go_num, HQ⟩
                          case measure => simp [intOf]; omega
                  · have e2 : decide ((q : Int) < (b.f1.length : Int)) = false := decide_eq_false (by omega)
                    obtain rfl : q = b.f1.length := by omega
                    rw [List.take_length]
                    have HE := Aside0.mk (any_take (p := callsB N) (z := z43) hlt2)
                    rw [HB3.out] at HE
                    rw [show b.f1.any (callsI N) = callsB N b from rfl]
                    have HB := Aside0.mk (below_step HB9.out HQ.out)
                    clear hxl2 hq
                    go_wp2
                    go_roundw
                    case rel => exact ⟨j + 1, hlt2, by rw [HE.out, HD.out, ← Bool.or_assoc], by go_num, HB⟩
                    case measure => simp [intOf]; omega
              · have e1 : decide ((j : Int) < (f.f3.length : Int)) = false := decide_eq_false (by omega)
                obtain rfl : j = f.f3.length := by omega
                rw [List.take_length]
                have HE := Aside0.mk (any_take (p := callsF N) (z := z25) HKM.out)
                rw [HF.out] at HE
                rw [show f.f3.any (callsB N) = callsF N f from rfl]
                clear HM2 hl2 hi2 hl3 hi3 hlt2 hj
                go_wp2
                go_roundw
                case rel => exact ⟨k + 1, HLT.out, by rw [HE.out, HC.out], by go_num, HB⟩
                case measure => have := HLT.out; simp [intOf]; omega
          · have e0 : decide ((k : Int) < (N : Int)) = false := decide_eq_false (by omega)
            obtain rfl : k = N := by omega
            have hx2_0 := bx_cell BX2.out HB.out 0 (v := .slice Am m.length cm) rfl
            have hcm := HCM.out
            have HT := Aside0.mk (mod_take m k hNl HME.out)
            have HTL := Aside0.mk (show (m.take k).length = k by rw [List.length_take]; omega)
            have hcon := module_any (w := wr) (m.take k) Am cm (by rw [HTL.out]; exact C_take (Kd.C_below (Kd.C_below HM.out H0.out) HB.out) k hNl) (by rw [HTL.out]; omega) (fun j hj => by
              rw [HTL.out] at hj
              rw [getD_take m k j _ hj]
              exact (HOM.out.each j (by omega)).bd)
            rw [HTL.out] at hcon
            cases hq : (m.take k).any (callsF k) with
            | false =>
              rw [HT.out.mpr hq] at hcon
              clear hq
              go_wp2_with (fail)
              refine hcon.mono ?_
              rintro e w6 ⟨⟨v, rfl, hv⟩, hb⟩
              obtain rfl : v = .nilIface := hv
              have HB6 := Aside0.mk (below_step HB.out hb)
              clear hb hcon
              go_wp2
              go_ret
              exact ⟨rfl, below_step H0.out HB6.out⟩
            | true =>
              cases hme2 : modE (m.take k) with
              | none => exact absurd (hq.symm.trans (HT.out.mp hme2)) (by simp)
              | some ac =>
                obtain ⟨a, c⟩ := ac
                rw [hme2] at hcon
                clear hme2 hq
                go_wp2_with (fail)
                refine hcon.mono ?_
                rintro e w6 ⟨⟨v, rfl, hv⟩, hb⟩
                have HB6 := Aside0.mk (below_step HB.out hb)
                clear hb hcon
                rcases hv with ⟨rfl, rfl⟩ | ⟨_, g, _, rfl, _⟩
                all_goals
                  go_wp2
                  go_ret
                  exact ⟨rfl, below_step H0.out HB6.out⟩
end Go.Proofs.Ytocjpkjijjdnbaa.Lk
