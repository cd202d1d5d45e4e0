/- What code.Encode answers: what is amiss, or the module's bytes. Conditions: a small module. -/
import Derived.Test.YtckebppacealeaaDoorRb
import Derived.Test.YtckebppacealeaaDoorMg
import Derived.ArgAppend
import Derived.Lib.SlBytesConst
namespace Go.Proofs.YtckebppacealeaaDoor.Rk
open Go.RowKit Go.Proofs.YtckebppacealeaaDoorW.PrintWords Go.Proofs.YtckebppacealeaaDoorW.PrintLast Go.Proofs.YtckebppacealeaaDoorW.PrintMore Go.Proofs.YtckebppacealeaaDoorW.PrintWords.Kd Go.Proofs.YtckebppacealeaaDoor.PCodeUnlike Go.Proofs.YtckebppacealeaaDoor.Lp Go.Proofs.YtckebppacealeaaDoor.Lk
attribute [local go_sem] max2_int min2_int max_two min_two max_three min_three max_four min_four
set_option linter.unusedVariables false
set_option linter.unusedSimpArgs false
variable {w w1 : World}
def encFunc (f : Lk.Fn) : List Int := numE (m64 f.f0) ++ numE (m64 f.f1) ++ listE f.f2 ++ numE (m64 f.f3.length) ++ f.f3.flatMap encBlock
def encMod (m : List Lk.Fn) : List Int := [102, 116, 108, 49] ++ numE (m64 m.length) ++ m.flatMap encFunc
theorem encBlock_len (b : Bk) (h : OkB b) : (encBlock b).length ≤ 2500000 := by
  have h1 := u64_ten b.f0.length
  have h2 := flat_len' z60 encPhi 4000 b.f0 (fun i hi => encPhi_len _ (h.pargs i hi)) b.f0.length
  have h3 := u64_ten b.f1.length
  have h4 := flat_len' z58 encIns 4000 b.f1 (fun i hi => encIns_len _ (h.args i hi)) b.f1.length
  have h5 := encTerm_len b.f2 h.tos
  have h6 := h.phis
  have h7 := h.ins
  rw [List.take_length] at h2 h4
  simp only [encBlock, List.length_append]
  omega
theorem encFunc_len (f : Lk.Fn) (h : OkF f) : (encFunc f).length ≤ 200000000 := by
  have h1 := u64_ten f.f0
  have h2 := u64_ten f.f1
  have h3 := listE_len f.f2
  have h4 := u64_ten f.f3.length
  have h5 := flat_len' z56 encBlock 2500000 f.f3 (fun i hi => encBlock_len _ (h.each i hi)) f.f3.length
  have h6 := h.blocks
  have h7 := h.regs
  rw [List.take_length] at h5
  simp only [encFunc, List.length_append]
  omega
theorem add_at0 (g k : Nat) : (⟨g, 0, none⟩ : Addr).add k = ⟨g, k, none⟩ := by cases k <;> simp [Addr.add]
def magic : Array Value := #[.int .u8 102, .int .u8 116, .int .u8 108, .int .u8 49]
/-- A number below 128 behind the magic, whose row has no room. -/
theorem first_any (w : World) (g n : Nat) (hn : n < 128) (hx : w.heap[g]? = some (.cells magic 5 (4, 5))) :
    Calls Tryd.prog 21 #[.slice (some ⟨g, 0, none⟩) 4 4, .int .u64 (n : Int)] w fun e w' => ∃ v', e = .returned v' ∧ Kd.R (Kd.int .u8) 5 w' w.heap.size (fun _ => True) v' ([102, 116, 108, 49] ++ [(n : Int)]) ∧ Below w.heap.size w w' := by
  obtain ⟨i, hi, hz⟩ := Option.map_eq_some_iff.1 info5
  simp only [Prod.mk.injEq] at hz
  obtain ⟨hz0, hz1, hz2⟩ := hz
  have d0 : decide ((128 : Int) ≤ (n : Int)) = false := decide_eq_false (by omega)
  have d1 : decide (128 ≤ n) = false := decide_eq_false (by omega)
  have hw : IntKind.u8.wrap (n : Int) = (n : Int) := by
    simp [IntKind.wrap, IntKind.bits, IntKind.signed]
    omega
  have HX := Aside0.mk hx
  have HI := Aside0.mk (And.intro hi (And.intro hz0 (And.intro hz1 hz2)))
  have HN := Aside0.mk hn
  clear hi hz0 hz1 hz2 hx hn
  go_enter Tryd.func21, Tryd.ntmps21
  go_wp2
  refine wp_loop_rounds 1 ?_
  rw [rounds_succ]
  go_wp2_with (at_builtin; refine wpList_append_grows _ rfl (.tmp 15) (.tmp 18) 27 rfl 5 i (.int .u8 0) 1 1 Tryd.underlying27 HI.out.1 HI.out.2.1 HI.out.2.2.1 HI.out.2.2.2 rfl (by omega) (some ⟨g, 0, none⟩) 4 4 magic.toList rfl (fun h => by cases h) rfl ?olds ⟨w.heap.size, 0, none⟩ 1 1 [.int .u8 (n : Int)] rfl rfl ?news ?one (by omega) (by decide) (by omega) ?_; rotate_left 3; intro v' w' hown hg; have HO := Aside0.mk hown; have HG := Aside0.mk hg; clear hown hg)
  · go_ret
    have hB : Below (w.alloc (.cells #[.int .u8 (n : Int)] 5)).heap.size (w.alloc (.cells #[.int .u8 (n : Int)] 5)) w' := ⟨HG.out.os, HG.out.tape, HG.out.output, HG.out.size, fun k hk => HG.out.block k hk (by simp)⟩
    have hB2 := below_alloc (Below.refl w.heap.size w) (.cells #[.int .u8 (n : Int)] 5)
    exact ⟨v', rfl, Kd.R_lower (Kd.R_of_own (enc := Value.int .u8) (h1 := fun _ => rfl) (xs := [102, 116, 108, 49, (n : Int)]) HO.out (fun _ _ => trivial)) hB2.size, below_step hB2 hB⟩
  · intro b hb j u hu
    cases hb
    rw [add_at0, World.cell?_alloc_lt _ _ ⟨g, j, none⟩ (blk_lt HX.out)]
    unfold World.cell?
    rw [HX.out]
    simpa using hu
  · intro j u hu
    rw [add_at0]
    cases j with
    | zero => simpa using hu
    | succ j => simp at hu
  · intro u hu
    rw [List.mem_singleton.1 hu]
    rfl
set_option maxHeartbeats 16000000 in
set_option maxRecDepth 100000 in
theorem encode_any (m : List Lk.Fn) (ok : OkM m) (Am : Option Addr) (cm : Nat) (hm : Kd.C k50 w Am m.length m) (hcm : m.length ≤ cm) :
    Calls Tryd.prog 11 #[.agg #[.slice Am m.length cm]] w fun e w' => (∃ v ev, e = .returned (.tuple #[v, ev]) ∧ IsErr w' w.heap.size (modE m) ev ∧ (modE m = none → Kd.R (Kd.int .u8) 5 w' w.heap.size (fun _ => True) v (encMod m)) ∧ (modE m ≠ none → v = .slice none 0 0)) ∧ Below w.heap.size w w' := by
  have HM := Aside0.mk hm
  have HCM := Aside0.mk hcm
  have HOM := Aside0.mk ok
  clear hm hcm ok
  go_enter Tryd.func11, Tryd.ntmps11
  go_wp2_with ((with_reducible refine gate_dst (N := 1) rfl ?_); refine box_event ?hg (N := 1) ?hd (cs := #[.slice Am m.length cm]) (t := 24) ?hr ?_; (case hd => rfl); (case hg => rfl); (case hr => first | (go_simp; done) | (go_simp; rfl)); intro gb1 hg w2 hbox hb; have BX1 := Aside0.mk hbox; have H0 := Aside0.mk hb; have HG1 := Aside0.mk hg; have HB := Aside0.mk (Below.refl w2.heap.size w2); clear hbox hb hg; have hx1_0 : w2.cell? ⟨gb1, 0, none⟩ = some (.slice Am m.length cm) := (blk_cell BX1.out 0).trans rfl)
  refine (module_any (w := w2) m Am cm (Kd.C_below HM.out H0.out) HCM.out (fun j hj => (HOM.out.each j hj).bd)).mono ?_
  rintro e w3 ⟨⟨ve, rfl, hv⟩, hb⟩
  replace HB := Aside0.mk (below_step HB.out hb)
  have HV := Aside0.mk hv
  clear hb hx1_0 hv
  cases hme : modE m with
  | some ac =>
    obtain ⟨a, c⟩ := ac
    have hv := HV.out
    rw [hme] at hv
    have hsz := H0.out.size
    have HME := Aside0.mk hme
    clear hme
    rcases hv with ⟨rfl, rfl⟩ | ⟨h0, g, h1, rfl, h2⟩
    · go_wp2
      go_ret2
      exact ⟨⟨_, _, rfl, (by rw [HME.out]; exact .inl ⟨rfl, rfl⟩), fun h => absurd (HME.out.symm.trans h) (by simp), fun _ => rfl⟩, below_step H0.out HB.out⟩
    · have HE := Aside0.mk (And.intro h0 (And.intro hsz (And.intro h1 h2)))
      clear h0 hsz h1 h2
      go_wp2
      go_ret2
      exact ⟨⟨_, _, rfl, (by rw [HME.out]; exact .inr ⟨HE.out.1, g, Nat.le_trans HE.out.2.1 HE.out.2.2.1, rfl, HE.out.2.2.2⟩), fun h => absurd (HME.out.symm.trans h) (by simp), fun _ => rfl⟩, below_step H0.out HB.out⟩
  | none =>
    have hv := HV.out
    rw [hme] at hv
    obtain rfl : ve = .nilIface := hv
    have HME := Aside0.mk hme
    clear hme HV
    have cv := fun (w : World) (C : Array Value) (n c : Nat) => Lib.run_convert_bytes_const (P := Tryd.prog) w 27 5 C n c Tryd.underlying27 Tryd.underlying5
    have HW := Aside0.mk (below_step H0.out HB.out)
    have BX3 := Aside0.mk (blk_below BX1.out HB.out)
    have hx1_0 := bx_cell BX1.out HB.out 0 (v := .slice Am m.length cm) rfl
    have hml := (modE_each HME.out).1
    have hb3 := blk_lt BX3.out
    go_wp2_with (fail)
    have hb4 := below_alloc (Below.refl w3.heap.size w3) (.cells magic 5 (4, 5))
    have hx4 := blk_new w3 (.cells magic 5 (4, 5))
    have hgoal := first_any (w3.alloc (.cells magic 5 (4, 5))) w3.heap.size m.length (by omega) hx4
    have HW4 := Aside0.mk (below_step HW.out hb4)
    have BX4 := Aside0.mk (blk_below BX3.out hb4)
    refine hgoal.mono ?_
    clear hgoal hx4 hb4
    rintro e w5 ⟨v5, rfl, hR, hb⟩
    have hmm : numE (m64 m.length) = [(m.length : Int)] := by
      have : m64 (m.length : Int) = m.length := by unfold m64; omega
      rw [this]
      unfold numE
      rw [if_pos (by omega)]
    rw [← hmm] at hR
    have OB5 := Aside0.mk (show OB w w5 v5 ([102, 116, 108, 49] ++ numE (m64 m.length)) from ⟨below_step HW4.out hb, Kd.R_tight rfl (Kd.R_lower hR HW4.out.size)⟩)
    have hx1_0 : w5.cell? ⟨gb1, 0, none⟩ = some (.slice Am m.length cm) := (blk_cell (blk_below BX4.out hb) 0).trans rfl
    have FL := Aside0.mk (fun i => flat_len' z50 encFunc 200000000 m (fun i hi => encFunc_len _ (HOM.out.each i hi)) i)
    clear hmm hR hb hb3 cv BX4 BX3 HW4
    go_wp2
    clear hx1_0 hml
    go_loopw [5, 25] (fun v5 v25 wr => ∃ (i : Nat) (vb : Value), i ≤ m.length ∧ vb = v5 ∧ v25 = .int .i64 i ∧ Aside0 (OB w wr vb ([102, 116, 108, 49] ++ numE (m64 m.length) ++ (m.take i).flatMap encFunc))) (fun v5 v25 _ => m.length - (intOf v25).toNat)
    case atStart => exact ⟨0, _, Nat.zero_le _, rfl, rfl, ⟨by simpa using OB5.out⟩⟩
    case round =>
      obtain ⟨i, vb, hi, rfl, rfl, OBr⟩ := hrel
      have hl := HOM.out.n
      by_cases hlt : i < m.length
      · have e0 : decide ((i : Int) < (m.length : Int)) = true := decide_eq_true (by omega)
        have p0 : 0 ≤ (i : Int) := by omega
        have q0 : (i : Int) < (m.length : Int) := by omega
        obtain ⟨ad, A5, c5, A6, c6, ex, hy0, hy1, hy2, hy3, hl5, hi5, hl6, hi6⟩ := at_T50 HM.out i p0 q0
        cases ex
        rw [Int.toNat_natCast] at hy0 hy1 hy2 hy3
        rw [show rd_T50 m (i : Int) = m.getD i z50 from rfl] at hy0 hy1 hy2 hy3 hl5 hi5 hl6 hi6
        have HFT := Aside0.mk (flat_take encFunc z50 m i hlt)
        have HOF := Aside0.mk (HOM.out.each i hlt)
        generalize m.getD i z50 = f at hy0 hy1 hy2 hy3 hl5 hi5 hl6 hi6 HFT HOF
        replace hy0 := (OBr.out.low.cell (World.block_lt_of_cell? w _ hy0)).trans hy0
        replace hy1 := (OBr.out.low.cell (World.block_lt_of_cell? w _ hy1)).trans hy1
        replace hy2 := (OBr.out.low.cell (World.block_lt_of_cell? w _ hy2)).trans hy2
        replace hy3 := (OBr.out.low.cell (World.block_lt_of_cell? w _ hy3)).trans hy3
        have HL5 := Aside0.mk hl5
        have HI5 := Aside0.mk hi5
        have HL6 := Aside0.mk hl6
        have HI6 := Aside0.mk hi6
        have p1 := eq_true p0
        have q1 := eq_true q0
        have HLT := Aside0.mk hlt
        clear hl5 hi5 hl6 hi6 p0 q0 hlt
        go_upto_region 8 with (fail)
        have hbz := below_alloc (Below.refl wr.heap.size wr) (.cells #[.int .i64 f.f0, .int .i64 f.f1, .slice A5 f.f2.length c5, .slice A6 f.f3.length c6] 50)
        have hxz := blk_new wr (.cells #[.int .i64 f.f0, .int .i64 f.f1, .slice A5 f.f2.length c5, .slice A6 f.f3.length c6] 50)
        have NBz := Aside0.mk OBr.out.new
        generalize wr.alloc (.cells #[.int .i64 f.f0, .int .i64 f.f1, .slice A5 f.f2.length c5, .slice A6 f.f3.length c6] 50) = wz at hbz hxz ⊢
        generalize wr.heap.size = gz at hxz NBz ⊢
        have OBk := Aside0.mk (OBr.out.below hbz)
        have GRk := Aside0.mk (Gr.refl wz vb)
        have BXz := Aside0.mk hxz
        have K2 := Aside0.mk (show ∀ W V, Gr wz vb W V → W.cell? ⟨gz, 0, none⟩ = some (.int .i64 f.f0) ∧ W.cell? ⟨gz, 1, none⟩ = some (.int .i64 f.f1) ∧ W.cell? ⟨gz, 2, none⟩ = some (.slice A5 f.f2.length c5) from
          fun W V hW => ⟨(blk_cell (hW.blk hxz NBz.out) 0).trans rfl, (blk_cell (hW.blk hxz NBz.out) 1).trans rfl, (blk_cell (hW.blk hxz NBz.out) 2).trans rfl⟩)
        have LN := Aside0.mk (show ([102, 116, 108, 49] ++ numE (m64 m.length) ++ (m.take i).flatMap encFunc ++ encFunc f).length ≤ 9000000000000 by
          have h2 := u64_ten m.length
          have h3 := FL.out i
          have h4 := encFunc_len f HOF.out
          simp only [List.length_append, List.length_cons, List.length_nil]
          omega)
        clear hbz hxz hy0 hy1 hy2 hy3 e0 p1 q1 OBr
        generalize hys : ([102, 116, 108, 49] ++ numE (m64 m.length) ++ (m.take i).flatMap encFunc : List Int) = ys at OBk LN
        have HYS := Aside0.mk hys
        clear hys
        have LE := Aside0.mk (show ys.length ≤ 9000000000000 ∧ (ys ++ numE (m64 f.f0)).length ≤ 9000000000000 ∧ (ys ++ numE (m64 f.f0) ++ numE (m64 f.f1)).length ≤ 9000000000000 ∧ (ys ++ numE (m64 f.f0) ++ numE (m64 f.f1) ++ listE f.f2).length ≤ 9000000000000 by
          have h1 := LN.out
          simp only [encFunc, List.length_append] at h1 ⊢
          omega)
        have HRG := Aside0.mk HOF.out.regs
        go_region_held3 (fun W => W.cell? ⟨gz, 0, none⟩ = some (.int .i64 f.f0) ∧ W.cell? ⟨gz, 1, none⟩ = some (.int .i64 f.f1) ∧ W.cell? ⟨gz, 2, none⟩ = some (.slice A5 f.f2.length c5))
          (exact K2.out _ _ (by repeat (with_reducible first | exact GRk.out | apply Gr.drew | apply Gr.drewN)))
          (first
            | (go_at_call 21; refine (number_any (w0 := w) (by repeat (with_reducible first | exact OBk.out | apply OB.drew | apply OB.drewN)) _ (by first | exact Nat.le_trans LE.out.1 (by omega) | exact Nat.le_trans LE.out.2.1 (by omega))).mono ?_; rintro e w6 ⟨v6, rfl, hO, hG⟩; replace OBk := Aside0.mk hO; replace GRk := Aside0.mk (Gr.trans (by repeat (with_reducible first | exact GRk.out | apply Gr.drew | apply Gr.drewN)) hG); clear hO hG)
            | (go_at_call 22; refine (list_any (w0 := w) (by repeat (with_reducible first | exact OBk.out | apply OB.drew | apply OB.drewN)) (Nat.le_trans HRG.out (by omega)) (Nat.le_trans LE.out.2.2.1 (by omega)) A5 c5 HI5.out HL5.out).mono ?_; rintro e w7 ⟨v7, rfl, hO, hG⟩; replace OBk := Aside0.mk hO; replace GRk := Aside0.mk (Gr.trans (by repeat (with_reducible first | exact GRk.out | apply Gr.drew | apply Gr.drewN)) hG); clear hO hG))
        have hz3 : w7.cell? ⟨gz, 3, none⟩ = some (.slice A6 f.f3.length c6) := (blk_cell (GRk.out.blk BXz.out NBz.out) 3).trans rfl
        go_wp2_with (fail)
        refine (number_any (w0 := w) OBk.out _ (Nat.le_trans LE.out.2.2.2 (by omega))).mono ?_
        rintro e w8 ⟨v8, rfl, hO, hG⟩
        replace OBk := Aside0.mk hO
        replace GRk := Aside0.mk (GRk.out.trans hG)
        clear hO hG hz3
        have hz3 : w8.cell? ⟨gz, 3, none⟩ = some (.slice A6 f.f3.length c6) := (blk_cell (GRk.out.blk BXz.out NBz.out) 3).trans rfl
        go_wp2
        clear hz3 GRk BXz NBz K2
        have hol := OBk
        go_loopw [5, 50] (fun v5 v50 wr => ∃ (j : Nat) (vc : Value), j ≤ f.f3.length ∧ vc = v5 ∧ v50 = .int .i64 j ∧ Aside0 (OB w wr vc (ys ++ numE (m64 f.f0) ++ numE (m64 f.f1) ++ listE f.f2 ++ numE (m64 f.f3.length) ++ (f.f3.take j).flatMap encBlock))) (fun v5 v50 _ => f.f3.length - (intOf v50).toNat)
        case atStart => exact ⟨0, _, Nat.zero_le _, rfl, rfl, ⟨by simpa using hol.out⟩⟩
        case round =>
          obtain ⟨j, vc, hj, rfl, rfl, OBr⟩ := hrel
          have hl := HOF.out.blocks
          by_cases hlt : j < f.f3.length
          · have e0 : decide ((j : Int) < (f.f3.length : Int)) = true := decide_eq_true (by omega)
            have p0 : 0 ≤ (j : Int) := by omega
            have q0 : (j : Int) < (f.f3.length : Int) := by omega
            obtain ⟨ab, A0, c0, A1, c1, A4, c4, ex, hy0, hy1, hy2, hy3, hy4, hl0, hi0, hl1, hi1, hl4, hi4⟩ := at_T56 HI6.out j p0 q0
            cases ex
            rw [Int.toNat_natCast] at hy0 hy1 hy2 hy3 hy4
            rw [show rd_T56 f.f3 (j : Int) = f.f3.getD j z56 from rfl] at hy0 hy1 hy2 hy3 hy4 hl0 hi0 hl1 hi1 hl4 hi4
            have HFB := Aside0.mk (flat_take encBlock z56 f.f3 j hlt)
            have HOB := Aside0.mk (HOF.out.each j hlt)
            have HBL := Aside0.mk (flat_len' z56 encBlock 2500000 f.f3 (fun i hi => encBlock_len _ (HOF.out.each i hi)) j)
            generalize f.f3.getD j z56 = b at hy0 hy1 hy2 hy3 hy4 hl0 hi0 hl1 hi1 hl4 hi4 HFB HOB
            replace hy0 := (OBr.out.low.cell (World.block_lt_of_cell? w _ hy0)).trans hy0
            replace hy1 := (OBr.out.low.cell (World.block_lt_of_cell? w _ hy1)).trans hy1
            replace hy2 := (OBr.out.low.cell (World.block_lt_of_cell? w _ hy2)).trans hy2
            replace hy3 := (OBr.out.low.cell (World.block_lt_of_cell? w _ hy3)).trans hy3
            replace hy4 := (OBr.out.low.cell (World.block_lt_of_cell? w _ hy4)).trans hy4
            have HI := Aside0.mk (And.intro hi0 (And.intro hi1 (And.intro hi4 hl4)))
            have p1 := eq_true p0
            have q1 := eq_true q0
            have HLTj := Aside0.mk hlt
            have LB := Aside0.mk (show (ys ++ numE (m64 f.f0) ++ numE (m64 f.f1) ++ listE f.f2 ++ numE (m64 f.f3.length) ++ (f.f3.take j).flatMap encBlock).length ≤ 10000000000000 by
              have h1 := LE.out.2.2.2
              have h2 := u64_ten f.f3.length
              have h3 := HBL.out
              rw [List.length_append, List.length_append]
              omega)
            clear hl0 hi0 hl1 hi1 hl4 hi4 p0 q0 hlt
            go_wp2_with (fail)
            refine (block_any (w0 := w) (OBr.out.below (below_alloc (Below.refl _ _) _)) b HOB.out LB.out A0 A1 A4 c0 c1 c4 HI.out.1 HI.out.2.1 HI.out.2.2.1 HI.out.2.2.2).mono ?_
            rintro e w9 ⟨v9, rfl, hO, hG⟩
            have OBn := Aside0.mk hO
            have hl := HOF.out.blocks
            clear hO hG hy0 hy1 hy2 hy3 hy4 OBr
            go_wp2
            go_roundw
            case rel =>
              refine ⟨j + 1, _, HLTj.out, rfl, by go_num, ⟨?_⟩⟩
              rw [HFB.out, ← List.append_assoc]
              exact OBn.out
            case measure => have := HLTj.out; simp [intOf]; omega
          · have e0 : decide ((j : Int) < (f.f3.length : Int)) = false := decide_eq_false (by omega)
            obtain rfl : j = f.f3.length := by omega
            have hob := OBr.out
            rw [List.take_length] at hob
            have OBf := Aside0.mk hob
            have hl2 := HOM.out.n
            have hlt2 := HLT.out
            clear hob OBr hol OBk hj hlt
            go_wp2
            go_roundw
            case rel =>
              refine ⟨i + 1, _, HLT.out, rfl, by go_num, ⟨?_⟩⟩
              rw [HFT.out]
              have := OBf.out
              rw [← HYS.out] at this
              simpa only [encFunc, List.append_assoc] using this
            case measure => simp [intOf]; omega
      · have e0 : decide ((i : Int) < (m.length : Int)) = false := decide_eq_false (by omega)
        obtain rfl : i = m.length := by omega
        have hob := OBr.out
        rw [List.take_length] at hob
        have OBf := Aside0.mk hob
        clear hob OBr hi hlt
        go_wp2
        go_ret2
        exact ⟨⟨_, _, rfl, (by rw [HME.out]; rfl), fun _ => Kd.R_mono OBf.out.row (fun _ _ => trivial), fun h => absurd HME.out h⟩, OBf.out.low⟩
end Go.Proofs.YtckebppacealeaaDoor.Rk
