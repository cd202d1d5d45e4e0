/- What code.block writes. Conditions: a small block that lay before the bytes were made. -/
import Derived.Test.YtckebppacealeaaDoorRa
import Derived.Test.YtckebppacealeaaDoorLc
namespace Go.Proofs.YtckebppacealeaaDoor.Rk
open Go.RowKit Go.Proofs.YtckebppacealeaaDoorW.PrintWords Go.Proofs.YtckebppacealeaaDoorW.PrintLast Go.Proofs.YtckebppacealeaaDoorW.PrintMore Go.Proofs.YtckebppacealeaaDoorW.PrintWords.Kd Go.Proofs.YtckebppacealeaaDoor.PCodeUnlike Go.Proofs.YtckebppacealeaaDoor.Lp Go.Proofs.YtckebppacealeaaDoor.Lk
attribute [local go_sem] max2_int min2_int max_two min_two max_three min_three max_four min_four
set_option linter.unusedVariables false
set_option linter.unusedSimpArgs false
variable {w w1 : World}
def encPhi (p : Ph) : List Int := numE (m64 p.f0) ++ listE p.f1
def encIns (x : In) : List Int := numE (m64 x.f0) ++ numE (m64 (wrap64 (x.f1 + 1))) ++ listE x.f2 ++ signE x.f3 ++ numE (m64 x.f4)
def encTerm (t : Tm) : List Int := numE (m64 t.f0) ++ numE (m64 (wrap64 (t.f1 + 1))) ++ listE t.f2
def encBlock (b : Bk) : List Int := numE (m64 b.f0.length) ++ b.f0.flatMap encPhi ++ numE (m64 b.f1.length) ++ b.f1.flatMap encIns ++ encTerm b.f2
theorem encPhi_len (p : Ph) (h : p.f1.length ≤ 300) : (encPhi p).length ≤ 4000 := by
  have := u64_ten p.f0
  have := listE_len p.f1
  simp only [encPhi, List.length_append]
  omega
theorem encIns_len (x : In) (h : x.f2.length ≤ 300) : (encIns x).length ≤ 4000 := by
  have := u64_ten x.f0
  have := u64_ten (wrap64 (x.f1 + 1))
  have := listE_len x.f2
  have := u64_ten (zig x.f3)
  have := u64_ten x.f4
  simp only [encIns, signE, List.length_append]
  omega
theorem encTerm_len (t : Tm) (h : t.f2.length ≤ 70) : (encTerm t).length ≤ 4000 := by
  have := u64_ten t.f0
  have := u64_ten (wrap64 (t.f1 + 1))
  have := listE_len t.f2
  simp only [encTerm, List.length_append]
  omega
theorem flat_len' {α : Type} (z : α) (g : α → List Int) (c : Nat) (l : List α) (h : ∀ i, i < l.length → (g (l.getD i z)).length ≤ c) (i : Nat) : ((l.take i).flatMap g).length ≤ l.length * c := by
  have h2 := flat_len g c (l.take i) (fun x hx => by
    obtain ⟨j, hj, rfl⟩ := mem_getD z (List.mem_of_mem_take hx)
    exact h j hj)
  rw [List.length_take] at h2
  exact Nat.le_trans h2 (Nat.mul_le_mul_right c (Nat.min_le_right _ _))
theorem OB.below {w0 w W : World} {v : Value} {xs : List Int} (h : OB w0 w v xs) (hb : Below w.heap.size w W) : OB w0 W v xs := ⟨below_step h.low hb, Kd.R_below h.row hb⟩
theorem OB.drew {w0 w : World} {v : Value} {xs : List Int} (h : OB w0 w v xs) : OB w0 w.drew v xs := h.below (below_drew (Below.refl _ _))
theorem OB.drewN {w0 w : World} {v : Value} {xs : List Int} (n : Nat) (h : OB w0 w v xs) : OB w0 (w.drewN n) v xs := h.below (pw_below_drewN (Below.refl _ _) n)
theorem Gr.below {w W U : World} {v V : Value} (h : Gr w v W V) (hb : Below W.heap.size W U) : Gr w v U V := ⟨h.kept.below hb, h.own⟩
theorem Gr.drew {w W : World} {v V : Value} (h : Gr w v W V) : Gr w v W.drew V := h.below (below_drew (Below.refl _ _))
theorem Gr.drewN {w W : World} {v V : Value} (n : Nat) (h : Gr w v W V) : Gr w v (W.drewN n) V := h.below (pw_below_drewN (Below.refl _ _) n)
theorem OB.new {w0 w : World} {v : Value} {xs : List Int} (h : OB w0 w v xs) : v.ownBlock ≠ some w.heap.size := fun e => Nat.lt_irrefl _ (Kd.R_lt h.row _ e)
set_option maxHeartbeats 16000000 in
set_option maxRecDepth 100000 in
theorem block_any {w0 : World} {v : Value} {xs : List Int} (h : OB w0 w v xs) (b : Bk) (ok : OkB b) (hx : xs.length ≤ 10000000000000) (A0 A1 A4 : Option Addr) (c0 c1 c4 : Nat)
    (h0 : Kd.C k60 w0 A0 b.f0.length b.f0) (h1 : Kd.C k58 w0 A1 b.f1.length b.f1) (h4 : Kd.C (Kd.int .i64) w0 A4 b.f2.f2.length b.f2.f2) (l4 : b.f2.f2.length ≤ c4) :
    Calls Tryd.prog 23 #[v, .agg #[.slice A0 b.f0.length c0, .slice A1 b.f1.length c1, .int .i64 b.f2.f0, .int .i64 b.f2.f1, .slice A4 b.f2.f2.length c4]] w fun e w' => ∃ v', e = .returned v' ∧ OB w0 w' v' (xs ++ encBlock b) ∧ Gr w v w' v' := by
  have HO := Aside0.mk h
  have OKB := Aside0.mk ok
  have C0 := Aside0.mk h0
  have C1 := Aside0.mk h1
  have C4 := Aside0.mk h4
  have L4 := Aside0.mk l4
  have XL := Aside0.mk hx
  have P1 := Aside0.mk (flat_len' z60 encPhi 4000 b.f0 (fun i hi => encPhi_len _ (ok.pargs i hi)))
  have P2 := Aside0.mk (flat_len' z58 encIns 4000 b.f1 (fun i hi => encIns_len _ (ok.args i hi)))
  clear h h0 h1 h4 l4 ok hx
  go_enter Tryd.func23, Tryd.ntmps23
  go_wp2_with ((with_reducible refine gate_dst (N := 3) rfl ?_); refine box_event ?hg (N := 3) ?hd (cs := #[.slice A0 b.f0.length c0, .slice A1 b.f1.length c1, .int .i64 b.f2.f0, .int .i64 b.f2.f1, .slice A4 b.f2.f2.length c4]) (t := 56) ?hr ?_; (case hd => rfl); (case hg => rfl); (case hr => first | (go_simp; done) | (go_simp; rfl)); intro gb3 hg w2 hbox hb; have BX3 := Aside0.mk hbox; have H0 := Aside0.mk hb; have HG3 := Aside0.mk hg; have HB := Aside0.mk (Below.refl w2.heap.size w2); clear hbox hb hg; have hx3_0 : w2.cell? ⟨gb3, 0, none⟩ = some (.slice A0 b.f0.length c0) := (blk_cell BX3.out 0).trans rfl; have hx3_1 : w2.cell? ⟨gb3, 1, none⟩ = some (.slice A1 b.f1.length c1) := (blk_cell BX3.out 1).trans rfl; have hx3_2 : w2.cell? ⟨gb3, 2, none⟩ = some (.int .i64 b.f2.f0) := (blk_cell BX3.out 2).trans rfl; have hx3_3 : w2.cell? ⟨gb3, 3, none⟩ = some (.int .i64 b.f2.f1) := (blk_cell BX3.out 3).trans rfl; have hx3_4 : w2.cell? ⟨gb3, 4, none⟩ = some (.slice A4 b.f2.f2.length c4) := (blk_cell BX3.out 4).trans rfl)
  have OB2 := HO.out.below H0.out
  have NB := Aside0.mk (show v.ownBlock ≠ some gb3 by rw [HG3.out]; exact HO.out.new)
  have G02 := Aside0.mk (show Gr w v w2 v from (Gr.refl w v).below H0.out)
  refine (number_any OB2 _ (by have := XL.out; omega)).mono ?_
  rintro e w3 ⟨v3, rfl, hO, hG⟩
  have OB3 := Aside0.mk hO
  have GR := Aside0.mk hG
  clear hO hG OB2 hx3_0 hx3_1 hx3_2 hx3_3 hx3_4 HB
  have hx3_0 : w3.cell? ⟨gb3, 0, none⟩ = some (.slice A0 b.f0.length c0) := (blk_cell (GR.out.blk BX3.out NB.out) 0).trans rfl
  go_wp2
  clear hx3_0
  go_loopw [0, 18] (fun v0 v18 wr => ∃ (i : Nat) (vb : Value), i ≤ b.f0.length ∧ vb = v0 ∧ v18 = .int .i64 i ∧ Aside0 (OB w0 wr vb (xs ++ numE (m64 b.f0.length) ++ (b.f0.take i).flatMap encPhi)) ∧ Aside0 (Gr w2 v wr vb)) (fun v0 v18 _ => b.f0.length - (intOf v18).toNat)
  case atStart => exact ⟨0, _, Nat.zero_le _, rfl, rfl, ⟨by simpa using OB3.out⟩, GR⟩
  case round =>
    clear GR
    obtain ⟨i, vb, hi, rfl, rfl, OBr, GR⟩ := hrel
    have hl := OKB.out.phis
    by_cases hlt : i < b.f0.length
    · have e0 : decide ((i : Int) < (b.f0.length : Int)) = true := decide_eq_true (by omega)
      have p0 : 0 ≤ (i : Int) := by omega
      have q0 : (i : Int) < (b.f0.length : Int) := by omega
      obtain ⟨ad, A5, c5, ex, hy0, hy1, hl5, hi5⟩ := at_T60 C0.out i p0 q0
      cases ex
      rw [Int.toNat_natCast] at hy0 hy1
      rw [show rd_T60 b.f0 (i : Int) = b.f0.getD i z60 from rfl] at hy0 hy1 hl5 hi5
      have HFT := Aside0.mk (flat_take encPhi z60 b.f0 i hlt)
      have HPA := Aside0.mk (OKB.out.pargs i hlt)
      generalize b.f0.getD i z60 = p at hy0 hy1 hl5 hi5 HFT HPA
      replace hy0 := (OBr.out.low.cell (World.block_lt_of_cell? w0 _ hy0)).trans hy0
      replace hy1 := (OBr.out.low.cell (World.block_lt_of_cell? w0 _ hy1)).trans hy1
      have HL5 := Aside0.mk hl5
      have HI5 := Aside0.mk hi5
      have p1 := eq_true p0
      have q1 := eq_true q0
      have HLT := Aside0.mk hlt
      clear hl5 hi5 p0 q0 hlt
      go_upto_region 5 with (fail)
      have hbz := below_alloc (Below.refl wr.heap.size wr) (.cells #[.int .i64 p.f0, .slice A5 p.f1.length c5] 60)
      have hxz := blk_new wr (.cells #[.int .i64 p.f0, .slice A5 p.f1.length c5] 60)
      have NBz := Aside0.mk OBr.out.new
      generalize wr.alloc (.cells #[.int .i64 p.f0, .slice A5 p.f1.length c5] 60) = wz at hbz hxz ⊢
      generalize wr.heap.size = gz at hxz NBz ⊢
      have OBk := Aside0.mk (OBr.out.below hbz)
      have GRz := Aside0.mk (GR.out.below hbz)
      have GRk := Aside0.mk (Gr.refl wz vb)
      have K2 := Aside0.mk (show ∀ W V, Gr wz vb W V → W.cell? ⟨gz, 0, none⟩ = some (.int .i64 p.f0) ∧ W.cell? ⟨gz, 1, none⟩ = some (.slice A5 p.f1.length c5) from
        fun W V hW => ⟨(blk_cell (hW.blk hxz NBz.out) 0).trans rfl, (blk_cell (hW.blk hxz NBz.out) 1).trans rfl⟩)
      have LN := Aside0.mk (show (xs ++ numE (m64 b.f0.length) ++ (b.f0.take i).flatMap encPhi).length ≤ 20000000000000 ∧ (xs ++ numE (m64 b.f0.length) ++ (b.f0.take i).flatMap encPhi ++ numE (m64 p.f0)).length ≤ 20000000000000 by
        have h1 := XL.out
        have h2 := u64_ten b.f0.length
        have h3 := P1.out i
        have h4 := u64_ten p.f0
        simp only [List.length_append]
        omega)
      clear hbz hxz hy0 hy1 e0 p1 q1 OBr GR
      go_region_held3 (fun W => W.cell? ⟨gz, 0, none⟩ = some (.int .i64 p.f0) ∧ W.cell? ⟨gz, 1, none⟩ = some (.slice A5 p.f1.length c5))
        (exact K2.out _ _ (by repeat (with_reducible first | exact GRk.out | apply Gr.drew | apply Gr.drewN)))
        (first
          | (go_at_call 21; refine (number_any (w0 := w0) (by repeat (with_reducible first | exact OBk.out | apply OB.drew | apply OB.drewN)) p.f0 (Nat.le_trans LN.out.1 (by omega))).mono ?_; rintro e w6 ⟨v6, rfl, hO, hG⟩; (try rw [i64_w] at hO); replace OBk := Aside0.mk hO; replace GRk := Aside0.mk (Gr.trans (by repeat (with_reducible first | exact GRk.out | apply Gr.drew | apply Gr.drewN)) hG); clear hO hG)
          | (go_at_call 22; refine (list_any (w0 := w0) (by repeat (with_reducible first | exact OBk.out | apply OB.drew | apply OB.drewN)) (Nat.le_trans HPA.out (by omega)) (Nat.le_trans LN.out.2 (by omega)) A5 c5 HI5.out HL5.out).mono ?_; rintro e w7 ⟨v7, rfl, hO, hG⟩; replace OBk := Aside0.mk hO; replace GRk := Aside0.mk (Gr.trans (by repeat (with_reducible first | exact GRk.out | apply Gr.drew | apply Gr.drewN)) hG); clear hO hG))
      go_wp2
      have hl := OKB.out.phis
      go_roundw
      case rel =>
        refine ⟨i + 1, _, HLT.out, rfl, by go_num, ⟨?_⟩, ⟨GRz.out.trans GRk.out⟩⟩
        rw [HFT.out]
        have := OBk.out
        simpa only [encPhi, List.append_assoc] using this
      case measure => have := HLT.out; simp [intOf]; omega
    · have e0 : decide ((i : Int) < (b.f0.length : Int)) = false := decide_eq_false (by omega)
      obtain rfl : i = b.f0.length := by omega
      have hob := OBr.out
      rw [List.take_length] at hob
      have OB4 := Aside0.mk hob
      clear hob OBr hi hlt OB3
      have hx3_1 : wr.cell? ⟨gb3, 1, none⟩ = some (.slice A1 b.f1.length c1) := (blk_cell (GR.out.blk BX3.out NB.out) 1).trans rfl
      go_wp2_with (fail)
      refine (number_any OB4.out _ (by have h1 := XL.out; have h2 := u64_ten b.f0.length; have h3 := P1.out b.f0.length; rw [List.take_length] at h3; simp only [List.length_append]; omega)).mono ?_
      rintro e w5 ⟨v5, rfl, hO, hG⟩
      have OB5 := Aside0.mk hO
      replace GR := Aside0.mk (GR.out.trans hG)
      clear hO hG OB4 hx3_1 e0 hl
      have hx3_1 : w5.cell? ⟨gb3, 1, none⟩ = some (.slice A1 b.f1.length c1) := (blk_cell (GR.out.blk BX3.out NB.out) 1).trans rfl
      go_wp2
      clear hx3_1
      go_loopw [0, 40] (fun v0 v40 wr => ∃ (i : Nat) (vb : Value), i ≤ b.f1.length ∧ vb = v0 ∧ v40 = .int .i64 i ∧ Aside0 (OB w0 wr vb (xs ++ numE (m64 b.f0.length) ++ b.f0.flatMap encPhi ++ numE (m64 b.f1.length) ++ (b.f1.take i).flatMap encIns)) ∧ Aside0 (Gr w2 v wr vb)) (fun v0 v40 _ => b.f1.length - (intOf v40).toNat)
      case atStart => exact ⟨0, _, Nat.zero_le _, rfl, rfl, ⟨by simpa using OB5.out⟩, GR⟩
      case round =>
        clear GR
        obtain ⟨i, vb, hi, rfl, rfl, OBr, GR⟩ := hrel
        have hl := OKB.out.ins
        by_cases hlt : i < b.f1.length
        · have e0 : decide ((i : Int) < (b.f1.length : Int)) = true := decide_eq_true (by omega)
          have p0 : 0 ≤ (i : Int) := by omega
          have q0 : (i : Int) < (b.f1.length : Int) := by omega
          obtain ⟨ad, A5, c5, ex, hy0, hy1, hy2, hy3, hy4, hl5, hi5⟩ := at_T58 C1.out i p0 q0
          cases ex
          rw [Int.toNat_natCast] at hy0 hy1 hy2 hy3 hy4
          rw [show rd_T58 b.f1 (i : Int) = b.f1.getD i z58 from rfl] at hy0 hy1 hy2 hy3 hy4 hl5 hi5
          have HFT := Aside0.mk (flat_take encIns z58 b.f1 i hlt)
          have HPA := Aside0.mk (OKB.out.args i hlt)
          generalize b.f1.getD i z58 = x at hy0 hy1 hy2 hy3 hy4 hl5 hi5 HFT HPA
          replace hy0 := (OBr.out.low.cell (World.block_lt_of_cell? w0 _ hy0)).trans hy0
          replace hy1 := (OBr.out.low.cell (World.block_lt_of_cell? w0 _ hy1)).trans hy1
          replace hy2 := (OBr.out.low.cell (World.block_lt_of_cell? w0 _ hy2)).trans hy2
          replace hy3 := (OBr.out.low.cell (World.block_lt_of_cell? w0 _ hy3)).trans hy3
          replace hy4 := (OBr.out.low.cell (World.block_lt_of_cell? w0 _ hy4)).trans hy4
          have HL5 := Aside0.mk hl5
          have HI5 := Aside0.mk hi5
          have p1 := eq_true p0
          have q1 := eq_true q0
          have HLT := Aside0.mk hlt
          clear hl5 hi5 p0 q0 hlt
          go_upto_region 11 with (fail)
          have hbz := below_alloc (Below.refl wr.heap.size wr) (.cells #[.int .i64 x.f0, .int .i64 x.f1, .slice A5 x.f2.length c5, .int .i64 x.f3, .int .i64 x.f4] 58)
          have hxz := blk_new wr (.cells #[.int .i64 x.f0, .int .i64 x.f1, .slice A5 x.f2.length c5, .int .i64 x.f3, .int .i64 x.f4] 58)
          have NBz := Aside0.mk OBr.out.new
          generalize wr.alloc (.cells #[.int .i64 x.f0, .int .i64 x.f1, .slice A5 x.f2.length c5, .int .i64 x.f3, .int .i64 x.f4] 58) = wz at hbz hxz ⊢
          generalize wr.heap.size = gz at hxz NBz ⊢
          have OBk := Aside0.mk (OBr.out.below hbz)
          have GRz := Aside0.mk (GR.out.below hbz)
          have GRk := Aside0.mk (Gr.refl wz vb)
          have BXz := Aside0.mk hxz
          have K2 := Aside0.mk (show ∀ W V, Gr wz vb W V → W.cell? ⟨gz, 0, none⟩ = some (.int .i64 x.f0) ∧ W.cell? ⟨gz, 1, none⟩ = some (.int .i64 x.f1) ∧ W.cell? ⟨gz, 2, none⟩ = some (.slice A5 x.f2.length c5) from
            fun W V hW => ⟨(blk_cell (hW.blk hxz NBz.out) 0).trans rfl, (blk_cell (hW.blk hxz NBz.out) 1).trans rfl, (blk_cell (hW.blk hxz NBz.out) 2).trans rfl⟩)
          have K3 := Aside0.mk (show ∀ W V, Gr wz vb W V → W.cell? ⟨gz, 3, none⟩ = some (.int .i64 x.f3) ∧ W.cell? ⟨gz, 4, none⟩ = some (.int .i64 x.f4) from
            fun W V hW => ⟨(blk_cell (hW.blk hxz NBz.out) 3).trans rfl, (blk_cell (hW.blk hxz NBz.out) 4).trans rfl⟩)
          have LN := Aside0.mk (show (xs ++ numE (m64 b.f0.length) ++ b.f0.flatMap encPhi ++ numE (m64 b.f1.length) ++ (b.f1.take i).flatMap encIns ++ encIns x).length ≤ 20000000000000 by
            have h1 := XL.out
            have h2 := u64_ten b.f0.length
            have h3 := P1.out b.f0.length
            have h4 := u64_ten b.f1.length
            have h5 := P2.out i
            have h6 := encIns_len x HPA.out
            have h7 := OKB.out.phis
            rw [List.take_length] at h3
            simp only [List.length_append]
            omega)
          clear hbz hxz hy0 hy1 hy2 hy3 hy4 e0 p1 q1 OBr GR
          generalize hys : xs ++ numE (m64 b.f0.length) ++ b.f0.flatMap encPhi ++ numE (m64 b.f1.length) ++ (b.f1.take i).flatMap encIns = ys at OBk LN
          have HYS := Aside0.mk hys
          clear hys
          have LE := Aside0.mk (show ys.length ≤ 20000000000000 ∧ (ys ++ numE (m64 x.f0)).length ≤ 20000000000000 ∧ (ys ++ numE (m64 x.f0) ++ numE (m64 (wrap64 (x.f1 + 1)))).length ≤ 20000000000000 ∧ (ys ++ numE (m64 x.f0) ++ numE (m64 (wrap64 (x.f1 + 1))) ++ listE x.f2).length ≤ 20000000000000 ∧ (ys ++ numE (m64 x.f0) ++ numE (m64 (wrap64 (x.f1 + 1))) ++ listE x.f2 ++ signE x.f3).length ≤ 20000000000000 by
            have h1 := LN.out
            simp only [encIns, List.length_append] at h1 ⊢
            omega)
          go_region_held3 (fun W => W.cell? ⟨gz, 0, none⟩ = some (.int .i64 x.f0) ∧ W.cell? ⟨gz, 1, none⟩ = some (.int .i64 x.f1) ∧ W.cell? ⟨gz, 2, none⟩ = some (.slice A5 x.f2.length c5))
            (exact K2.out _ _ (by repeat (with_reducible first | exact GRk.out | apply Gr.drew | apply Gr.drewN)))
            (first
              | (go_at_call 21; refine (number_any (w0 := w0) (by repeat (with_reducible first | exact OBk.out | apply OB.drew | apply OB.drewN)) _ (by first | exact Nat.le_trans LE.out.1 (by omega) | exact Nat.le_trans LE.out.2.1 (by omega))).mono ?_; rintro e w6 ⟨v6, rfl, hO, hG⟩; (try rw [i64_w] at hO); replace OBk := Aside0.mk hO; replace GRk := Aside0.mk (Gr.trans (by repeat (with_reducible first | exact GRk.out | apply Gr.drew | apply Gr.drewN)) hG); clear hO hG)
              | (go_at_call 22; refine (list_any (w0 := w0) (by repeat (with_reducible first | exact OBk.out | apply OB.drew | apply OB.drewN)) (Nat.le_trans HPA.out (by omega)) (Nat.le_trans LE.out.2.2.1 (by omega)) A5 c5 HI5.out HL5.out).mono ?_; rintro e w7 ⟨v7, rfl, hO, hG⟩; replace OBk := Aside0.mk hO; replace GRk := Aside0.mk (Gr.trans (by repeat (with_reducible first | exact GRk.out | apply Gr.drew | apply Gr.drewN)) hG); clear hO hG))
          go_upto_region 12 with (fail)
          replace K3 := Aside0.mk (show ∀ W V, Gr w7 v7 W V → W.cell? ⟨gz, 3, none⟩ = some (.int .i64 x.f3) ∧ W.cell? ⟨gz, 4, none⟩ = some (.int .i64 x.f4) from
            fun W V hW => K3.out W V (GRk.out.trans hW))
          have GR7 := Aside0.mk (GRz.out.trans GRk.out)
          replace GRk := Aside0.mk (Gr.refl w7 v7)
          go_region_held3 (fun W => W.cell? ⟨gz, 3, none⟩ = some (.int .i64 x.f3) ∧ W.cell? ⟨gz, 4, none⟩ = some (.int .i64 x.f4))
            (exact K3.out _ _ (by repeat (with_reducible first | exact GRk.out | apply Gr.drew | apply Gr.drewN)))
            (first
              | (go_at_call 42; refine (signed_any (w0 := w0) (by repeat (with_reducible first | exact OBk.out | apply OB.drew | apply OB.drewN)) _ (Nat.le_trans LE.out.2.2.2.1 (by omega))).mono ?_; rintro e w8 ⟨v8, rfl, hO, hG⟩; replace OBk := Aside0.mk hO; replace GRk := Aside0.mk (Gr.trans (by repeat (with_reducible first | exact GRk.out | apply Gr.drew | apply Gr.drewN)) hG); clear hO hG)
              | (go_at_call 21; refine (number_any (w0 := w0) (by repeat (with_reducible first | exact OBk.out | apply OB.drew | apply OB.drewN)) _ (Nat.le_trans LE.out.2.2.2.2 (by omega))).mono ?_; rintro e w9 ⟨v9, rfl, hO, hG⟩; replace OBk := Aside0.mk hO; replace GRk := Aside0.mk (Gr.trans (by repeat (with_reducible first | exact GRk.out | apply Gr.drew | apply Gr.drewN)) hG); clear hO hG))
          go_wp2
          have hl := OKB.out.ins
          go_roundw
          case rel =>
            refine ⟨i + 1, _, HLT.out, rfl, by go_num, ⟨?_⟩, ⟨GR7.out.trans GRk.out⟩⟩
            rw [HFT.out]
            have := OBk.out
            rw [← HYS.out] at this
            simpa only [encIns, List.append_assoc] using this
          case measure => have := HLT.out; simp [intOf]; omega
        · have e0 : decide ((i : Int) < (b.f1.length : Int)) = false := decide_eq_false (by omega)
          obtain rfl : i = b.f1.length := by omega
          have hob := OBr.out
          rw [List.take_length] at hob
          have OBk := Aside0.mk hob
          have GR0 := Aside0.mk (G02.out.trans GR.out)
          have GRk := Aside0.mk (Gr.refl wr vb)
          have K4 := Aside0.mk (show ∀ W V, Gr wr vb W V → W.cell? ⟨gb3, 2, none⟩ = some (.int .i64 b.f2.f0) ∧ W.cell? ⟨gb3, 3, none⟩ = some (.int .i64 b.f2.f1) ∧ W.cell? ⟨gb3, 4, none⟩ = some (.slice A4 b.f2.f2.length c4) from
            fun W V hW => ⟨(blk_cell ((GR.out.trans hW).blk BX3.out NB.out) 2).trans rfl, (blk_cell ((GR.out.trans hW).blk BX3.out NB.out) 3).trans rfl, (blk_cell ((GR.out.trans hW).blk BX3.out NB.out) 4).trans rfl⟩)
          have HTO := Aside0.mk OKB.out.tos
          have LE := Aside0.mk (show (xs ++ numE (m64 b.f0.length) ++ b.f0.flatMap encPhi ++ numE (m64 b.f1.length) ++ b.f1.flatMap encIns).length ≤ 20000000000000 ∧ (xs ++ numE (m64 b.f0.length) ++ b.f0.flatMap encPhi ++ numE (m64 b.f1.length) ++ b.f1.flatMap encIns ++ numE (m64 b.f2.f0)).length ≤ 20000000000000 ∧ (xs ++ numE (m64 b.f0.length) ++ b.f0.flatMap encPhi ++ numE (m64 b.f1.length) ++ b.f1.flatMap encIns ++ numE (m64 b.f2.f0) ++ numE (m64 (wrap64 (b.f2.f1 + 1)))).length ≤ 20000000000000 by
            have h1 := XL.out
            have h2 := u64_ten b.f0.length
            have h3 := P1.out b.f0.length
            have h4 := u64_ten b.f1.length
            have h5 := P2.out b.f1.length
            have h6 := u64_ten b.f2.f0
            have h8 := u64_ten (wrap64 (b.f2.f1 + 1))
            have h7 := OKB.out.phis
            have h9 := OKB.out.ins
            rw [List.take_length] at h3 h5
            simp only [List.length_append]
            omega)
          clear hob OBr GR hi hlt e0 hl OB5
          go_upto_region 14 with (fail)
          go_region_held3 (fun W => W.cell? ⟨gb3, 2, none⟩ = some (.int .i64 b.f2.f0) ∧ W.cell? ⟨gb3, 3, none⟩ = some (.int .i64 b.f2.f1) ∧ W.cell? ⟨gb3, 4, none⟩ = some (.slice A4 b.f2.f2.length c4))
            (exact K4.out _ _ (by repeat (with_reducible first | exact GRk.out | apply Gr.drew | apply Gr.drewN)))
            (first
              | (go_at_call 21; refine (number_any (w0 := w0) (by repeat (with_reducible first | exact OBk.out | apply OB.drew | apply OB.drewN)) _ (by first | exact Nat.le_trans LE.out.1 (by omega) | exact Nat.le_trans LE.out.2.1 (by omega))).mono ?_; rintro e w6 ⟨v6, rfl, hO, hG⟩; (try rw [i64_w] at hO); replace OBk := Aside0.mk hO; replace GRk := Aside0.mk (Gr.trans (by repeat (with_reducible first | exact GRk.out | apply Gr.drew | apply Gr.drewN)) hG); clear hO hG)
              | (go_at_call 22; refine (list_any (w0 := w0) (by repeat (with_reducible first | exact OBk.out | apply OB.drew | apply OB.drewN)) (Nat.le_trans HTO.out (by omega)) (Nat.le_trans LE.out.2.2 (by omega)) A4 c4 C4.out L4.out).mono ?_; rintro e w7 ⟨v7, rfl, hO, hG⟩; replace OBk := Aside0.mk hO; replace GRk := Aside0.mk (Gr.trans (by repeat (with_reducible first | exact GRk.out | apply Gr.drew | apply Gr.drewN)) hG); clear hO hG))
          go_wp2
          go_ret
          refine ⟨v7, rfl, ?_, GR0.out.trans GRk.out⟩
          have := OBk.out
          simpa only [encBlock, encTerm, List.append_assoc] using this
end Go.Proofs.YtckebppacealeaaDoor.Rk
