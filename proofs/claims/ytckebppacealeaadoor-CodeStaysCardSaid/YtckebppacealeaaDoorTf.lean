/- The reader of code.Decode: a function. Conditions: the reader stands; bytes are bytes. -/
import Derived.Test.YtckebppacealeaaDoorTe
namespace Go.Proofs.YtckebppacealeaaDoor.Rk
open Go.RowKit Go.Proofs.YtckebppacealeaaDoorW.PrintWords Go.Proofs.YtckebppacealeaaDoorW.PrintLast Go.Proofs.YtckebppacealeaaDoorW.PrintMore Go.Proofs.YtckebppacealeaaDoorW.PrintWords.Kd Go.Proofs.YtckebppacealeaaDoor.PCodeUnlike Go.Proofs.YtckebppacealeaaDoor.Lp Go.Proofs.YtckebppacealeaaDoor.Lk
attribute [local go_sem] max2_int min2_int max_two min_two max_three min_three max_four min_four
set_option linter.unusedVariables false
set_option linter.unusedSimpArgs false
variable {w w1 w0 W : World} {br : Nat} {A : Option Addr} {c : Nat} {bs : List Int} {st : St}
theorem infoB : (Tryd.prog.info? 56).map (fun i => (i.zero, i.size, i.bytes)) = some (some (.agg #[.slice none 0 0, .slice none 0 0, .int .i64 0, .int .i64 0, .slice none 0 0]), 5, 88) := by kernel_rfl
def dFunc (bs : List Int) (st : St) : Lk.Fn × St :=
  let p := dInt bs st
  let r := dInt bs p.2
  let l := dList bs r.2
  let b := dMany bs 64 (dBlock bs) l.2
  (⟨p.1, r.1, l.1, b.1⟩, b.2)
theorem dFunc_pos (h : st.pos ≤ bs.length) : (dFunc bs st).2.pos ≤ bs.length := by
  unfold dFunc
  dsimp only
  exact dMany_pos (f := dBlock bs) (fun _ => dBlock_pos) (dList_pos (dInt_pos (dInt_pos h)))
set_option maxHeartbeats 8000000 in
set_option maxRecDepth 100000 in
theorem rfunc_any (h : Rdr w0 w br A c bs st) (hC : Kd.C (Kd.int .u8) w0 A bs.length bs) (hby : ∀ a ∈ bs, Byte a) (hl : bs.length ≤ 100000000000) (hp : st.pos ≤ bs.length) :
    Calls Tryd.prog 31 #[.pointer (some ⟨br, 0, none⟩)] w fun e w' => ∃ cs, e = .returned (.agg cs.toArray) ∧ k50.M w' w0.heap.size (fun k => w.heap.size ≤ k) (dFunc bs st).1 cs ∧ Rdr w0 w' br A c bs (dFunc bs st).2 ∧ Keeps br w w' := by
  have HA := Aside0.mk (At.of h)
  have HCB := Aside0.mk hC
  have HBY := Aside0.mk hby
  have HL := Aside0.mk hl
  have HP := Aside0.mk hp
  clear h hC hby hl hp
  go_enter Tryd.func31, Tryd.ntmps31
  go_wp2_with (fail)
  have hx := blk_new w (.cells #[.int .i64 0, .int .i64 0, .slice none 0 0, .slice none 0 0] 50)
  have hA := HA.out.alloc (.cells #[.int .i64 0, .int .i64 0, .slice none 0 0, .slice none 0 0] 50)
  generalize w.alloc (.cells #[.int .i64 0, .int .i64 0, .slice none 0 0, .slice none 0 0] 50) = w2 at hx hA ⊢
  refine (rint_any hA.rdr HCB.out HBY.out HL.out HP.out).mono ?_
  rintro e w3 ⟨rfl, hR, hK⟩
  have HY := Aside0.mk (hA.blk (st' := st) hK hx (Nat.le_refl _))
  replace HA := Aside0.mk (hA.call hR hK)
  replace HP := Aside0.mk (dInt_pos HP.out)
  clear hA hR hK hx
  generalize e1 : dInt bs st = D1 at HP HA ⊢
  obtain ⟨a1, s1⟩ := D1
  have E1 := Aside0.mk e1
  clear e1
  dsimp only at HP HA ⊢
  go_wp2_with (fail)
  have hx := blk_new w3 (.cells #[.int .i64 (a1 : Int), .int .i64 0, .slice none 0 0, .slice none 0 0] 50)
  have hy := blk_alloc HY.out (.cells #[.int .i64 (a1 : Int), .int .i64 0, .slice none 0 0, .slice none 0 0] 50)
  have hA := HA.out.alloc (.cells #[.int .i64 (a1 : Int), .int .i64 0, .slice none 0 0, .slice none 0 0] 50)
  generalize w3.alloc (.cells #[.int .i64 (a1 : Int), .int .i64 0, .slice none 0 0, .slice none 0 0] 50) = w4 at hx hy hA ⊢
  have HG := Aside0.mk (show w.heap.size ≤ w3.heap.size ∧ w.heap.size ≠ w3.heap.size from ⟨HA.out.keep.1, Nat.ne_of_lt (blk_lt HY.out)⟩)
  have HG2 := Aside0.mk (show br < w3.heap.size ∧ w.heap.size < w3.heap.size from ⟨Nat.lt_of_lt_of_le HA.out.lt HA.out.keep.1, blk_lt HY.out⟩)
  generalize w3.heap.size = gx at hx HG HG2 ⊢
  refine (rint_any hA.rdr HCB.out HBY.out HL.out HP.out).mono ?_
  rintro e w5 ⟨rfl, hR, hK⟩
  replace HY := Aside0.mk (hA.blk (st' := st) hK hy (Nat.le_refl _))
  have HX := Aside0.mk (hA.blk (st' := st) hK hx HG.out.1)
  replace HA := Aside0.mk (hA.call hR hK)
  replace HP := Aside0.mk (dInt_pos HP.out)
  clear hA hR hK hx hy
  generalize e2 : dInt bs s1 = D2 at HP HA ⊢
  obtain ⟨a2, s2⟩ := D2
  have E2 := Aside0.mk e2
  clear e2
  dsimp only at HP HA ⊢
  have hf := blk_frozen HX.out 1
  have hc : w5.cell? ⟨gx, 1, none⟩ = some (.int .i64 0) := (blk_cell HX.out 1).trans rfl
  go_wp2_with (fail)
  have hx := blk_put HX.out 1 (.int .i64 (a2 : Int)) (cs' := #[.int .i64 (a1 : Int), .int .i64 (a2 : Int), .slice none 0 0, .slice none 0 0]) rfl
  have hA := HA.out.set (i := 1) (v := .int .i64 (a2 : Int)) HX.out (by decide) HG.out.1
  have hy := blk_far HY.out (p := ⟨gx, 1, none⟩) HG.out.2 (.int .i64 (a2 : Int))
  generalize w5.setCell ⟨gx, 1, none⟩ (.int .i64 (a2 : Int)) = w6 at hx hA hy ⊢
  clear hc hf
  refine (rlist_any hA.rdr HCB.out HBY.out HL.out HP.out).mono ?_
  rintro e w7 ⟨v3, rfl, hV, hR, hK⟩
  replace HY := Aside0.mk (hA.blk (st' := st) hK hy (Nat.le_refl _))
  replace HX := Aside0.mk (hA.blk (st' := st) hK hx HG.out.1)
  have HGL := Aside0.mk (And.intro (blk_lt hx) (blk_lt hy))
  replace HA := Aside0.mk (hA.call hR hK)
  replace HP := Aside0.mk (dList_pos HP.out)
  clear hA hR hK hx hy
  generalize w6.heap.size = gl at HGL hV
  generalize e3 : dList bs s2 = D3 at HP HA hV ⊢
  obtain ⟨a3, s3⟩ := D3
  have E3 := Aside0.mk e3
  clear e3
  dsimp only at HP HA hV ⊢
  obtain ⟨A3, c3, rfl⟩ := Kd.R_slice hV
  have hf := blk_frozen HX.out 2
  have hc : w7.cell? ⟨gx, 2, none⟩ = some (.slice none 0 0) := (blk_cell HX.out 2).trans rfl
  have HV := Aside0.mk (R_far (g := gx) (i := 2) (u := .slice A3 a3.length c3) hV (Nat.not_le.mpr HGL.out.1))
  clear hV
  go_wp2_with (fail)
  have hx := blk_put HX.out 2 (.slice A3 a3.length c3) (cs' := #[.int .i64 (a1 : Int), .int .i64 (a2 : Int), .slice A3 a3.length c3, .slice none 0 0]) rfl
  have hA := HA.out.set (i := 2) (v := .slice A3 a3.length c3) HX.out (by decide) HG.out.1
  have hy := blk_far HY.out (p := ⟨gx, 2, none⟩) HG.out.2 (.slice A3 a3.length c3)
  generalize w7.setCell ⟨gx, 2, none⟩ (.slice A3 a3.length c3) = w8 at hx hA hy HV ⊢
  clear hc hf
  refine (rcount_any hA.rdr HCB.out HBY.out HL.out HP.out 64).mono ?_
  rintro e w9 ⟨rfl, hR, hK⟩
  replace HV := Aside0.mk (R_keeps HV.out hK (fun k hk => by have := HG2.out.1; have := HGL.out.1; omega))
  replace HY := Aside0.mk (hA.blk (st' := st) hK hy (Nat.le_refl _))
  replace HX := Aside0.mk (hA.blk (st' := st) hK hx HG.out.1)
  replace HA := Aside0.mk (hA.call hR hK)
  have hm := dCount_le bs 64 s3
  replace HP := Aside0.mk (dCount_pos (most := 64) HP.out)
  clear hA hR hK hx hy
  generalize e4 : dCount bs 64 s3 = D4 at hm HP HA ⊢
  obtain ⟨n4, s4⟩ := D4
  have E4 := Aside0.mk e4
  clear e4
  dsimp only at hm HP HA ⊢
  have HS := Aside0.mk (show gx < w9.heap.size ∧ w.heap.size < w9.heap.size from ⟨blk_lt HX.out, blk_lt HY.out⟩)
  have HB := Aside0.mk (Nat.lt_of_lt_of_le HA.out.lt HA.out.keep.1)
  go_upto_block 0 with (fail)
  go_cut [] (fun wx => ∃ (xs : List Bk) (s2 : St) (A2 : Option Addr) (c2 : Nat), Aside0 (dRep (dBlock bs) n4 s4 = (xs, s2)) ∧ Aside0 (s2.pos ≤ bs.length) ∧ Aside0 (Kd.R k56 56 wx w0.heap.size (fun k => w9.heap.size ≤ k) (.slice A2 xs.length c2) xs) ∧ Aside0 (Kept w9 wx (fun k => k = br ∨ k = gx)) ∧ Aside0 (wx.heap[gx]? = some (.cells #[.int .i64 (a1 : Int), .int .i64 (a2 : Int), .slice A3 a3.length c3, .slice A2 xs.length c2] 50 (0, 0))) ∧ Aside0 (At w0 w wx br A c bs s2))
  case first =>
    go_wp2_with (fail)
    go_loopw [4] (fun vn wr => ∃ (m : Nat) (xs : List Bk) (s2 : St) (A2 : Option Addr) (c2 : Nat), xs.length + m ≤ 64 ∧ vn = .int .i64 m ∧ Aside0 (dRep (dBlock bs) n4 s4 = (xs ++ (dRep (dBlock bs) m s2).1, (dRep (dBlock bs) m s2).2)) ∧ Aside0 (s2.pos ≤ bs.length) ∧ Aside0 (Kd.R k56 56 wr w0.heap.size (fun k => w9.heap.size ≤ k) (.slice A2 xs.length c2) xs) ∧ Aside0 (Kept w9 wr (fun k => k = br ∨ k = gx)) ∧ Aside0 (wr.heap[gx]? = some (.cells #[.int .i64 (a1 : Int), .int .i64 (a2 : Int), .slice A3 a3.length c3, .slice A2 xs.length c2] 50 (0, 0))) ∧ Aside0 (At w0 w wr br A c bs s2)) (fun vn _ => (intOf vn).toNat)
    case atStart => exact ⟨n4, [], s4, none, 0, by simpa using hm, rfl, ⟨rfl⟩, HP, ⟨R_nil _ _ _ _ _⟩, ⟨Kept.refl _ _⟩, HX, HA⟩
    case round =>
      clear HA HP HX hm
      obtain ⟨m, xs, s2, A2, c2, hm, rfl, HD, HP, HW, HK, HX, HA⟩ := hrel
      obtain ⟨pos, err⟩ := s2
      obtain ⟨_, _, ev, hb, hev⟩ := HA.out.rdr
      dsimp only at hb hev
      have hc2 : wr.cell? ⟨br, 2, none⟩ = some ev := (blk_cell hb 2).trans rfl
      clear hb
      have HLEN := Aside0.mk hm
      by_cases cz : m = 0
      · subst cz
        have HR1 := Aside0.mk HD.out
        rw [dRep, List.append_nil] at HR1
        clear hev HD hm
        go_wp2
        go_meet
        case rel => exact ⟨_, _, _, _, HR1, HP, HW, HK, HX, HA⟩
      obtain ⟨q, hq⟩ : ∃ q, m = q + 1 := ⟨m - 1, by omega⟩
      have d1 : decide (0 < m) = true := decide_eq_true (by omega)
      have d2 : decide ((0 : Int) < (m : Int)) = true := decide_eq_true (by omega)
      have HQ := Aside0.mk hq
      match err, ev, hev with
      | some (p0, c0), _, ⟨g, g1, rfl, g3⟩ =>
        have hr := HD.out
        rw [dRep_err (dBlock bs) m _ rfl, List.append_nil] at hr
        have HR1 := Aside0.mk hr
        clear g1 g3 hr HD hq cz hm
        go_wp2
        go_meet
        case rel => exact ⟨_, _, _, _, HR1, HP, HW, HK, HX, HA⟩
      | none, _, hev =>
        obtain rfl := hev
        have hr := HD.out
        rw [hq, dRep_none] at hr
        have HR1 := Aside0.mk hr
        clear hr HD hq cz hm
        go_upto_region 7 with (fail)
        have HA1 := Aside0.mk (HA.out.below (below_drew1 (Below.refl wr.heap.size wr)))
        have HSR := Aside0.mk (show w9.heap.size ≤ wr.heap.size ∧ gx < wr.heap.size from ⟨HK.out.1, blk_lt HX.out⟩)
        have HOW := Aside0.mk (Kd.R_lt HW.out)
        have hxr : wr.cell? ⟨gx, 3, none⟩ = some (.slice A2 xs.length c2) := (blk_cell HX.out 3).trans rfl
        have HPP := Aside0.mk (dBlock_pos (bs := bs) (st := ⟨pos, none⟩) HP.out)
        generalize e6 : dBlock bs ⟨pos, none⟩ = D6 at HR1 HPP
        obtain ⟨x, sb⟩ := D6
        dsimp only at HR1 HPP
        have E6 := Aside0.mk e6
        clear e6 hc2
        go_region_law (first
          | (go_simp; go_at_call 54; refine (rblock_any HA1.out.rdr HCB.out HBY.out HL.out HP.out).mono ?_; rintro e wb ⟨cs6, rfl, hM, hR, hK⟩; rw [E6.out] at hM hR; obtain ⟨q0, q1, q4, rfl, i0, i1, i4⟩ := k56_openM hM; obtain ⟨B0, b0, rfl⟩ := Kd.R_slice i0; obtain ⟨B1, b1, rfl⟩ := Kd.R_slice i1; obtain ⟨B4, b4, rfl⟩ := Kd.R_slice i4; have hI := And.intro i0 (And.intro i1 i4); clear i0 i1 i4; have HX6 := Aside0.mk (HA1.out.blk (st' := sb) hK (blk_drew HX.out) HG.out.1); have HA6 := Aside0.mk (HA1.out.call hR hK); have HI := Aside0.mk hI; have HW6 := Aside0.mk (R_keeps (Kd.R_below HW.out (below_drew1 (Below.refl wr.heap.size wr))) hK (fun k hk => by have := HB.out; omega)); have HK6 := Aside0.mk (Kept.then_ (Kept.drew HK.out) hK (fun k hk => .inl (.inl hk))); have hx6 : wb.cell? ⟨gx, 3, none⟩ = some (.slice A2 xs.length c2) := (blk_cell HX6.out 3).trans rfl; have hx6b := pw_cell_below (below_alloc (Below.refl wb.heap.size wb) (.cells #[.slice B0 x.f0.length b0, .slice B1 x.f1.length b1, .int .i64 x.f2.f0, .int .i64 x.f2.f1, .slice B4 x.f2.f2.length b4] 56)) hx6; clear hM hR hK hI)
          | (refine Kd.R_append_step k56 (w0 := w0) (W := wb) w0.heap.size ?aW (.tmp 28) (.tmp 31) 48 56 (.agg #[.slice none 0 0, .slice none 0 0, .int .i64 0, .int .i64 0, .slice none 0 0]) 88 ?aV Tryd.underlying48 infoB rfl (by decide) (by omega) (.slice A2 xs.length c2) xs x [.slice B0 x.f0.length b0, .slice B1 x.f1.length b1, .int .i64 x.f2.f0, .int .i64 x.f2.f1, .slice B4 x.f2.f2.length b4] (fun k_ => w9.heap.size ≤ k_) (fun k_ => wr.heap.size ≤ k_) ?aX ?aY ?aP ?aK ?aF ?aO ?aB ?aS ?aL ?_; (case aW => first | rfl | simp [Region.wanted]); (case aV => rfl); (case aX => rfl); (case aY => first | rfl | (simp; done)); (case aP => exact k56_mkM _ _ _ x HI.out.1 HI.out.2.1 HI.out.2.2); (case aK => exact (fun k_ hk_ => ⟨Nat.le_trans HSR.out.1 hk_, fun e_ => Nat.lt_irrefl _ (Nat.lt_of_lt_of_le (HOW.out k_ e_.symm) hk_)⟩)); (case aF => exact (fun k_ hk_ => Nat.le_trans HK6.out.1 hk_)); (case aO => exact HW6.out); (case aB => exact HA6.out.rdr.low); (case aS => exact HA6.out.rdr.low.size); (case aL => have := HLEN.out; omega); intro v9 w9z ho hb hg hat; obtain ⟨xs9, hxs⟩ : ∃ l, l = xs ++ [x] := ⟨_, rfl⟩; rw [← hxs] at ho; have HXS := Aside0.mk hxs; clear hxs; obtain ⟨A9, c9, rfl⟩ := Kd.R_slice ho; have HA9 := Aside0.mk (At.grown (e := 56) HA6.out HW6.out (fun k_ hk_ => Nat.le_trans (Nat.le_of_lt HS.out.2) hk_) (Nat.ne_of_beq_eq_false rfl) (Nat.ne_of_beq_eq_false rfl) hg hb); have HX9 := Aside0.mk (blk_grown HX6.out hg (R_own_ne HW6.out (Nat.not_le.mpr HS.out.1))); have HK9 := Aside0.mk (Kept.of_grown (S := fun k_ => k_ = br ∨ k_ = gx) hg HK6.out (fun k_ e_ => .inr (HW6.out.1 k_ e_))); have HW9 := Aside0.mk ho; have hx9 : w9z.cell? ⟨gx, 3, none⟩ = some (.slice A2 xs.length c2) := (blk_cell HX9.out 3).trans rfl; have hf9 := blk_frozen HX9.out 3; clear ho hb hg hat))
        all_goals
          go_wp2_with (fail)
          have HA := Aside0.mk (HA9.out.set (i := 3) (v := .slice A9 xs9.length c9) HX9.out (by decide) HG.out.1)
          have HX := Aside0.mk (blk_put HX9.out 3 (.slice A9 xs9.length c9) (cs' := #[.int .i64 (a1 : Int), .int .i64 (a2 : Int), .slice A3 a3.length c3, .slice A9 xs9.length c9]) rfl)
          have HK := Aside0.mk (Kept.setCell HK9.out (p := ⟨gx, 3, none⟩) (.inl (.inr rfl)) (.slice A9 xs9.length c9))
          have HW := Aside0.mk (R_far (g := gx) (i := 3) (u := .slice A9 xs9.length c9) HW9.out (Nat.not_le.mpr HS.out.1))
          have hw : wrap64 ((m : Int) - 1) = (q : Int) := by have := HLEN.out; have := HQ.out; unfold wrap64; omega
          clear HA9 HX9 HK9 HW9
          go_roundw
          case rel =>
            refine ⟨q, _, sb, A9, c9, ?_, by simp only [hw], ⟨?_⟩, HPP, HW, HK, HX, HA⟩
            · have := HLEN.out
              have := HQ.out
              rw [HXS.out]
              simp only [List.length_append, List.length_cons, List.length_nil]
              omega
            · rw [HR1.out, HXS.out]
              simp
          case measure => have := HQ.out; simp only [intOf, hw]; omega
  case rest =>
    clear HA HP HX hm
    obtain ⟨bl, s5, A2, c2, E5, HP, HW, HK, HX, HA⟩ := hcut
    replace HY := Aside0.mk ((HK.out.2 _ (blk_lt HY.out) (fun e => by have := HA.out.lt; have := HG.out.2; rcases e with e | e <;> omega)).trans HY.out)
    replace HV := Aside0.mk (R_step HV.out (fun k hk hlt => HK.out.2 k hlt (fun e => by have := HG2.out.1; have := HGL.out.1; rcases e with e | e <;> omega)))
    have hx := HX.out
    have hy := HY.out
    have hx0 : wc.cell? ⟨gx, 0, none⟩ = some (.int .i64 (a1 : Int)) := (blk_cell hx 0).trans rfl
    have hx1 : wc.cell? ⟨gx, 1, none⟩ = some (.int .i64 (a2 : Int)) := (blk_cell hx 1).trans rfl
    have hx2 : wc.cell? ⟨gx, 2, none⟩ = some (.slice A3 a3.length c3) := (blk_cell hx 2).trans rfl
    have hx3 : wc.cell? ⟨gx, 3, none⟩ = some (.slice A2 bl.length c2) := (blk_cell hx 3).trans rfl
    have hy0 : wc.cell? ⟨w.heap.size, 0, none⟩ = some (.int .i64 0) := (blk_cell hy 0).trans rfl
    have hy1 : wc.cell? ⟨w.heap.size, 1, none⟩ = some (.int .i64 0) := (blk_cell hy 1).trans rfl
    have hy2 : wc.cell? ⟨w.heap.size, 2, none⟩ = some (.slice none 0 0) := (blk_cell hy 2).trans rfl
    have hy3 : wc.cell? ⟨w.heap.size, 3, none⟩ = some (.slice none 0 0) := (blk_cell hy 3).trans rfl
    have hf0 := blk_frozen hy 0
    have hf1 := blk_frozen hy 1
    have hf2 := blk_frozen hy 2
    have hf3 := blk_frozen hy 3
    clear HK hx hy
    go_wp2_with (fail)
    have hR : dFunc bs st = (⟨(a1 : Int), (a2 : Int), a3, bl⟩, s5) := by
      unfold dFunc dMany
      dsimp only
      rw [E1.out]
      dsimp only
      rw [E2.out]
      dsimp only
      rw [E3.out]
      dsimp only
      rw [E4.out]
      dsimp only
      rw [E5.out]
    have HRR := Aside0.mk hR
    clear hR hx0 hx1 hx2 hx3
    have hz := setAll_blk [.int .i64 (a1 : Int), .int .i64 (a2 : Int), .slice A3 a3.length c3, .slice A2 bl.length c2] 0 _ _ HY.out rfl
    replace HV := Aside0.mk (R_all (g := w.heap.size) (Nat.not_le.mpr HGL.out.2) [.int .i64 (a1 : Int), .int .i64 (a2 : Int), .slice A3 a3.length c3, .slice A2 bl.length c2] 0 _ HV.out)
    replace HW := Aside0.mk (R_all (g := w.heap.size) (Nat.not_le.mpr HS.out.2) [.int .i64 (a1 : Int), .int .i64 (a2 : Int), .slice A3 a3.length c3, .slice A2 bl.length c2] 0 _ HW.out)
    replace HA := Aside0.mk (At.all (by decide) (Nat.le_refl _) [.int .i64 (a1 : Int), .int .i64 (a2 : Int), .slice A3 a3.length c3, .slice A2 bl.length c2] 0 _ _ HA.out HY.out)
    dsimp only [setAll] at hz HV HW HA
    generalize (((wc.setCell ⟨w.heap.size, 0, none⟩ (.int .i64 (a1 : Int))).setCell ⟨w.heap.size, 1, none⟩ (.int .i64 (a2 : Int))).setCell ⟨w.heap.size, 2, none⟩ (.slice A3 a3.length c3)).setCell ⟨w.heap.size, 3, none⟩ (.slice A2 bl.length c2) = wz at hz HV HW HA ⊢
    clear hy0 hy1 hy2 hy3 hf0 hf1 hf2 hf3 HY HX
    have hz0 : wz.cell? ⟨w.heap.size, 0, none⟩ = some (.int .i64 (a1 : Int)) := (blk_cell hz 0).trans rfl
    have hz1 : wz.cell? ⟨w.heap.size, 1, none⟩ = some (.int .i64 (a2 : Int)) := (blk_cell hz 1).trans rfl
    have hz2 : wz.cell? ⟨w.heap.size, 2, none⟩ = some (.slice A3 a3.length c3) := (blk_cell hz 2).trans rfl
    have hz3 : wz.cell? ⟨w.heap.size, 3, none⟩ = some (.slice A2 bl.length c2) := (blk_cell hz 3).trans rfl
    refine bodyPost_ret (v := .agg #[.int .i64 (a1 : Int), .int .i64 (a2 : Int), .slice A3 a3.length c3, .slice A2 bl.length c2]) (by simp [results, Tryd.results31, go_sem, hz0, hz1, hz2, hz3]; try rfl) rfl ?_
    rw [HRR.out]
    exact ⟨_, rfl, k50_mkM _ _ _ (⟨(a1 : Int), (a2 : Int), a3, bl⟩ : Lk.Fn) (R_mono HV.out (fun k hk => Nat.le_trans (Nat.le_of_lt HGL.out.2) hk)) (R_mono HW.out (fun k hk => Nat.le_trans (Nat.le_of_lt HS.out.2) hk)), HA.out.rdr, HA.out.keep⟩
end Go.Proofs.YtckebppacealeaaDoor.Rk
