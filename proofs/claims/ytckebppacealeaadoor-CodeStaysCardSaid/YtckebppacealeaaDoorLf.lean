/- Whether an instruction's types fit, as the checker tells it. Conditions: its registers and its callee are there, and as many arguments as there should be. -/
import Derived.Test.YtckebppacealeaaDoorLe
import Derived.Deep.RegionWith
namespace Go.Proofs.YtckebppacealeaaDoor.Lk
open Go.RowKit Go.Proofs.YtckebppacealeaaDoorW.PrintWords Go.Proofs.YtckebppacealeaaDoorW.PrintLast Go.Proofs.YtckebppacealeaaDoorW.PrintMore Go.Proofs.YtckebppacealeaaDoorW.PrintWords.Kd Go.Proofs.YtckebppacealeaaDoor.PCodeUnlike
attribute [local go_sem] max2_int min2_int max_two min_two max_three min_three max_four min_four
set_option linter.unusedVariables false
set_option linter.unusedSimpArgs false
variable {w w1 : World} {bl : Nat} {m : List Fn} {f : Fn} {Am : Option Addr} {cm : Nat} {Ar : Option Addr} {cr : Nat} {Ab : Option Addr} {cb : Nat}
/-- What is needed ahead of 'fits'. -/
structure Fit (m : List Fn) (f : Fn) (x : In) : Prop where
  args : hasB f x.f2 = true
  dst : (arityV m x).2.1 ≠ 0 → hasB f [x.f1] = true
  ok : (arityV m x).2.2 = none
  len : (x.f2.length : Int) = (arityV m x).1
theorem Fit.at_call {x : In} (h : Fit m f x) (e : x.f0 = 17) : 0 ≤ x.f4 ∧ x.f4 < m.length ∧ (arityV m x).1 = (rd_T50 m x.f4).f0 ∧ (arityV m x).2.1 = (rd_T50 m x.f4).f1 := by
  have ho := h.ok
  have ha : (argsV 17).2 = false := rfl
  unfold arityV at ho ⊢
  rw [e, ha, if_neg (by simp), if_neg (by omega), if_neg (by omega), if_neg (by omega), if_neg (by omega), if_pos rfl] at ho ⊢
  by_cases c0 : x.f4 < 0
  · rw [if_pos c0] at ho
    exact absurd ho (by simp)
  rw [if_neg c0] at ho ⊢
  by_cases c1 : x.f4 < (m.length : Int)
  · rw [if_pos c1]
    exact ⟨by omega, c1, rfl, rfl⟩
  rw [if_neg c1] at ho
  exact absurd ho (by simp)
theorem Fit.one {x : In} (h : Fit m f x) (e : x.f0 = 2 ∨ x.f0 = 14) : x.f2.length = 1 := by
  have hl := h.len
  unfold arityV at hl
  rcases e with e | e
  · have ha : argsV 2 = (1, true) := rfl
    rw [e, ha, if_pos rfl] at hl
    exact Int.ofNat.inj hl
  · have ha : argsV 14 = (1, true) := rfl
    rw [e, ha, if_pos rfl] at hl
    exact Int.ofNat.inj hl
theorem Fit.dst_of {x : In} (h : Fit m f x) (e : x.f0 ≠ 18) (e2 : x.f0 ≠ 16) (e3 : x.f0 ≠ 17) : hasB f [x.f1] = true := by
  refine h.dst ?_
  have ho := h.ok
  unfold arityV at ho ⊢
  by_cases h1 : (argsV x.f0).2 = true
  · rw [if_pos h1]
    simp
  rw [if_neg h1] at ho ⊢
  by_cases h2 : x.f0 = 1
  · rw [if_pos h2]
    simp
  rw [if_neg h2] at ho ⊢
  by_cases h3 : x.f0 = 15
  · rw [if_pos h3]
    simp
  rw [if_neg h3, if_neg e, if_neg e2, if_neg e3] at ho
  exact absurd ho (by simp)
def fitsB (m : List Fn) (f : Fn) (x : In) : Bool :=
  if x.f0 = 1 then (rd f.f2 x.f1 == 1 || x.f3 == 0 || x.f3 == 1)
  else if x.f0 = 2 then areB f (rd f.f2 (rd x.f2 0)) [x.f1]
  else if x.f0 = 12 then areB f 1 x.f2 && areB f 2 [x.f1]
  else if x.f0 = 13 then areB f 1 x.f2 && areB f 2 [x.f1]
  else if x.f0 = 14 then areB f 2 [rd x.f2 0, x.f1]
  else if x.f0 = 18 then areB f 1 x.f2
  else if x.f0 = 16 then areB f 1 x.f2
  else if x.f0 = 17 then callB f (rd_T50 m x.f4) x.f2 x.f1
  else areB f 1 x.f2 && areB f 1 [x.f1]
theorem row_drew (w : World) (xs : List Int) (hl : xs.length < 1000) (t : TypeId) : Kd.C (Kd.int .i64) (w.alloc (.cells (xs.map (Value.int .i64)).toArray t)).drew (some ⟨w.heap.size, 0, none⟩) xs.length xs := Kd.C_below (row_new w xs hl t) (below_drew1 (Below.refl _ _))
theorem hasB_reg {f : Fn} {r : Int} (h : hasB f [r] = true) : 0 ≤ r ∧ r < (f.f2.length : Int) := by
  rw [hasB_one] at h
  have hp : hasP f r = false := by simpa using h
  unfold hasP at hp
  simp at hp
  omega
theorem hasB_two {f : Fn} {r s : Int} (h : hasB f [r] = true) (g : hasB f [s] = true) : hasB f [r, s] = true := by
  rw [hasB_one] at h g
  simp at h g
  simp [hasB, h, g]
set_option maxHeartbeats 8000000 in
set_option maxRecDepth 100000 in
theorem fits2_any (h : Lk w bl m f Am cm Ar cr Ab cb) (x : In) (A : Option Addr) (c : Nat) (hr : Kd.C (Kd.int .i64) w A x.f2.length x.f2) (hf : Fit m f x) (ho : x.f0 = 2) :
    Calls Tryd.prog 86 #[.pointer (some ⟨bl, 0, none⟩), .agg #[.int .i64 x.f0, .int .i64 x.f1, .slice A x.f2.length c, .int .i64 x.f3, .int .i64 x.f4]] w fun e w' => e = .returned (.bool (areB f (rd f.f2 (rd x.f2 0)) [x.f1])) ∧ Below w.heap.size w w' := by
  have h1 := hf.one (.inl ho)
  have hreg := hasB_reg (hasB_at hf.args (k := 0) (by omega))
  have hd := hf.dst_of (by omega) (by omega) (by omega)
  clear hf
  obtain ⟨op, dst, xs, imm, fn⟩ := x
  dsimp only at *
  subst ho
  generalize hrx : rd xs (0 : Int) = rx at hreg ⊢
  generalize hav : areB f (rd f.f2 rx) [dst] = av
  have HV := Aside0.mk hav
  have HX := Aside0.mk hrx
  have HL := Aside0.mk h
  have HR := Aside0.mk hr
  have H1 := Aside0.mk h1
  have HD := Aside0.mk hd
  have HG := Aside0.mk hreg
  clear h hr h1 hd hreg hrx hav
  go_enter Tryd.func86, Tryd.ntmps86
  go_wp2_with ((with_reducible refine gate_dst (N := 3) rfl ?_); refine box_event ?hg (N := 3) ?hd (cs := #[.int .i64 2, .int .i64 dst, .slice A xs.length c, .int .i64 imm, .int .i64 fn]) (t := 58) ?hr ?_; (case hd => rfl); (case hg => rfl); (case hr => first | (go_simp; done) | (go_simp; rfl)); intro gb3 hg w2 hbox hb; have BX3 := Aside0.mk hbox; have H0 := Aside0.mk hb; have HG3 := Aside0.mk hg; have HB := Aside0.mk (Below.refl w2.heap.size w2); clear hbox hb hg; have hx3_0 : w2.cell? ⟨gb3, 0, none⟩ = some (.int .i64 2) := (blk_cell BX3.out 0).trans rfl; have hx3_1 : w2.cell? ⟨gb3, 1, none⟩ = some (.int .i64 dst) := (blk_cell BX3.out 1).trans rfl; have hx3_2 : w2.cell? ⟨gb3, 2, none⟩ = some (.slice A xs.length c) := (blk_cell BX3.out 2).trans rfl; have hx3_3 : w2.cell? ⟨gb3, 3, none⟩ = some (.int .i64 imm) := (blk_cell BX3.out 3).trans rfl; have hx3_4 : w2.cell? ⟨gb3, 4, none⟩ = some (.int .i64 fn) := (blk_cell BX3.out 4).trans rfl)
  have hl2 := HL.out.below H0.out
  have hc := (blk_cell hl2.blk 3).trans (show _ = some (.slice Ar f.f2.length cr) from rfl)
  obtain ⟨ar, er, hxr⟩ := Kd.at_int hl2.regs rx HG.out.1 HG.out.2
  obtain ⟨ax, ex, hxx⟩ := Kd.at_int (Kd.C_below HR.out H0.out) 0 (by omega) (by rw [H1.out]; decide)
  cases er
  cases ex
  rw [HX.out] at hxx
  have hxx : w2.cell? ax = some (.int .i64 rx) := by simpa [Addr.add] using hxx
  have hx1 := H1.out
  have p1 := eq_true HG.out.1
  have q1 := eq_true HG.out.2
  have b0 := World.block_lt_of_cell? w2 _ hxr
  have b1 := World.block_lt_of_cell? w2 _ hc
  have b2 := World.block_lt_of_cell? w2 _ hx3_0
  have b3 := World.block_lt_of_cell? w2 _ hxx
  clear hl2
  have K2 := Aside0.mk (show ∀ W, Below w2.heap.size w2 W → W.cell? ⟨bl, 3, none⟩ = some (.slice (some ar) f.f2.length cr) ∧ W.cell? ⟨gb3, 1, none⟩ = some (.int .i64 dst) ∧ W.cell? ⟨gb3, 2, none⟩ = some (.slice (some ax) xs.length c) ∧ W.cell? ax = some (.int .i64 rx) ∧ W.cell? (ar.add rx.toNat) = some (.int .i64 (rd f.f2 rx)) from
    fun W hW => ⟨(hW.cell (World.block_lt_of_cell? w2 _ hc)).trans hc, (hW.cell (World.block_lt_of_cell? w2 _ hx3_1)).trans hx3_1, (hW.cell (World.block_lt_of_cell? w2 _ hx3_2)).trans hx3_2, (hW.cell (World.block_lt_of_cell? w2 _ hxx)).trans hxx, (hW.cell (World.block_lt_of_cell? w2 _ hxr)).trans hxr⟩)
  clear hc hxr hxx hx3_0 hx3_1 hx3_2 hx3_3 hx3_4 b0 b1 b2 b3
  go_region_held3 (fun W => W.cell? ⟨bl, 3, none⟩ = some (.slice (some ar) f.f2.length cr) ∧ W.cell? ⟨gb3, 1, none⟩ = some (.int .i64 dst) ∧ W.cell? ⟨gb3, 2, none⟩ = some (.slice (some ax) xs.length c) ∧ W.cell? ax = some (.int .i64 rx) ∧ W.cell? (ar.add rx.toNat) = some (.int .i64 (rd f.f2 rx)))
    (first | exact K2.out _ HB6.out | exact K2.out _ (by repeat (with_reducible first | exact HB.out | apply below_alloc | apply pw_below_drewN | apply below_drew1)))
    (first | (go_at_call 84; refine (are_any ((HL.out.below H0.out).below (below_drew1 (below_alloc HB.out _))) (rd f.f2 rx) [dst] _ _ (row_drew w2 [dst] (by simp) _) HD.out).mono ?_; rw [HV.out]; rintro e w6 ⟨rfl, hb⟩; have HB6 := Aside0.mk (below_step (below_drew1 (below_alloc HB.out _)) hb); clear hb))
  go_wp2
  go_ret
  exact ⟨rfl, below_step H0.out HB6.out⟩
set_option maxHeartbeats 8000000 in
set_option maxRecDepth 100000 in
theorem fits1_any (h : Lk w bl m f Am cm Ar cr Ab cb) (x : In) (A : Option Addr) (c : Nat) (hr : Kd.C (Kd.int .i64) w A x.f2.length x.f2) (hf : Fit m f x) (ho : x.f0 = 1) :
    Calls Tryd.prog 86 #[.pointer (some ⟨bl, 0, none⟩), .agg #[.int .i64 x.f0, .int .i64 x.f1, .slice A x.f2.length c, .int .i64 x.f3, .int .i64 x.f4]] w fun e w' => e = .returned (.bool (rd f.f2 x.f1 == 1 || x.f3 == 0 || x.f3 == 1)) ∧ Below w.heap.size w w' := by
  have hreg := hasB_reg (hf.dst_of (by omega) (by omega) (by omega))
  clear hf
  obtain ⟨op, dst, xs, imm, fn⟩ := x
  dsimp only at *
  subst ho
  have HL := Aside0.mk h
  have HG := Aside0.mk hreg
  clear h hr hreg
  have key : ∀ b1, (rd f.f2 dst == 1) = b1 → ∀ b2, (imm == 0) = b2 → ∀ b3, (imm == 1) = b3 → Calls Tryd.prog 86 #[.pointer (some ⟨bl, 0, none⟩), .agg #[.int .i64 1, .int .i64 dst, .slice A xs.length c, .int .i64 imm, .int .i64 fn]] w fun e w' => e = .returned (.bool (b1 || b2 || b3)) ∧ Below w.heap.size w w' := by
    intro b1 h1 b2 h2 b3 h3
    have H1 := Aside0.mk h1
    have H2 := Aside0.mk h2
    have H3 := Aside0.mk h3
    clear h1 h2 h3
    go_enter Tryd.func86, Tryd.ntmps86
    go_wp2_with ((with_reducible refine gate_dst (N := 3) rfl ?_); refine box_event ?hg (N := 3) ?hd (cs := #[.int .i64 1, .int .i64 dst, .slice A xs.length c, .int .i64 imm, .int .i64 fn]) (t := 58) ?hr ?_; (case hd => rfl); (case hg => rfl); (case hr => first | (go_simp; done) | (go_simp; rfl)); intro gb3 hg w2 hbox hb; have BX3 := Aside0.mk hbox; have H0 := Aside0.mk hb; have HG3 := Aside0.mk hg; have HB := Aside0.mk (Below.refl w2.heap.size w2); clear hbox hb hg; have hx3_0 : w2.cell? ⟨gb3, 0, none⟩ = some (.int .i64 1) := (blk_cell BX3.out 0).trans rfl; have hx3_1 : w2.cell? ⟨gb3, 1, none⟩ = some (.int .i64 dst) := (blk_cell BX3.out 1).trans rfl; have hx3_2 : w2.cell? ⟨gb3, 2, none⟩ = some (.slice A xs.length c) := (blk_cell BX3.out 2).trans rfl; have hx3_3 : w2.cell? ⟨gb3, 3, none⟩ = some (.int .i64 imm) := (blk_cell BX3.out 3).trans rfl; have hx3_4 : w2.cell? ⟨gb3, 4, none⟩ = some (.int .i64 fn) := (blk_cell BX3.out 4).trans rfl)
    have hl2 := HL.out.below H0.out
    have hc := (blk_cell hl2.blk 3).trans (show _ = some (.slice Ar f.f2.length cr) from rfl)
    obtain ⟨ar, er, hxr⟩ := Kd.at_int hl2.regs dst HG.out.1 HG.out.2
    cases er
    have p1 := eq_true HG.out.1
    have q1 := eq_true HG.out.2
    have h1 := H1.out
    have h2 := H2.out
    have h3 := H3.out
    clear hl2
    generalize rd f.f2 dst = y at *
    cases b1
    · cases b2
      · go_quiet (fail)
        go_wp2
        go_ret
        exact ⟨by simp [H3.out], pw_below_drewN H0.out _⟩
      · go_quiet (fail)
        go_wp2
        go_ret
        exact ⟨by simp, pw_below_drewN H0.out _⟩
    · go_quiet (fail)
      go_wp2
      go_ret
      exact ⟨by simp, pw_below_drewN H0.out _⟩
  exact key _ rfl _ rfl _ rfl
set_option maxHeartbeats 8000000 in
set_option maxRecDepth 100000 in
theorem fits12_any (h : Lk w bl m f Am cm Ar cr Ab cb) (x : In) (A : Option Addr) (c : Nat) (hr : Kd.C (Kd.int .i64) w A x.f2.length x.f2) (hf : Fit m f x) (ho : x.f0 = 12) :
    Calls Tryd.prog 86 #[.pointer (some ⟨bl, 0, none⟩), .agg #[.int .i64 x.f0, .int .i64 x.f1, .slice A x.f2.length c, .int .i64 x.f3, .int .i64 x.f4]] w fun e w' => e = .returned (.bool (areB f 1 x.f2 && areB f 2 [x.f1])) ∧ Below w.heap.size w w' := by
  have hd := hf.dst_of (by omega) (by omega) (by omega)
  have ha := hf.args
  clear hf
  obtain ⟨op, dst, xs, imm, fn⟩ := x
  dsimp only at *
  subst ho
  have HL := Aside0.mk h
  have HR := Aside0.mk hr
  have HD := Aside0.mk hd
  have HA := Aside0.mk ha
  clear h hr hd ha
  have key : ∀ b1, areB f 1 xs = b1 → ∀ b2, areB f 2 [dst] = b2 → Calls Tryd.prog 86 #[.pointer (some ⟨bl, 0, none⟩), .agg #[.int .i64 12, .int .i64 dst, .slice A xs.length c, .int .i64 imm, .int .i64 fn]] w fun e w' => e = .returned (.bool (b1 && b2)) ∧ Below w.heap.size w w' := by
    intro b1 h1 b2 h2
    have H1 := Aside0.mk h1
    have H2 := Aside0.mk h2
    clear h1 h2
    go_enter Tryd.func86, Tryd.ntmps86
    go_wp2_with ((with_reducible refine gate_dst (N := 3) rfl ?_); refine box_event ?hg (N := 3) ?hd (cs := #[.int .i64 12, .int .i64 dst, .slice A xs.length c, .int .i64 imm, .int .i64 fn]) (t := 58) ?hr ?_; (case hd => rfl); (case hg => rfl); (case hr => first | (go_simp; done) | (go_simp; rfl)); intro gb3 hg w2 hbox hb; have BX3 := Aside0.mk hbox; have H0 := Aside0.mk hb; have HG3 := Aside0.mk hg; have HB := Aside0.mk (Below.refl w2.heap.size w2); clear hbox hb hg; have hx3_0 : w2.cell? ⟨gb3, 0, none⟩ = some (.int .i64 12) := (blk_cell BX3.out 0).trans rfl; have hx3_1 : w2.cell? ⟨gb3, 1, none⟩ = some (.int .i64 dst) := (blk_cell BX3.out 1).trans rfl; have hx3_2 : w2.cell? ⟨gb3, 2, none⟩ = some (.slice A xs.length c) := (blk_cell BX3.out 2).trans rfl; have hx3_3 : w2.cell? ⟨gb3, 3, none⟩ = some (.int .i64 imm) := (blk_cell BX3.out 3).trans rfl; have hx3_4 : w2.cell? ⟨gb3, 4, none⟩ = some (.int .i64 fn) := (blk_cell BX3.out 4).trans rfl)
    refine (are_any (HL.out.below H0.out) 1 xs _ _ (Kd.C_below HR.out H0.out) HA.out).mono ?_
    rw [H1.out]
    rintro e w3 ⟨rfl, hb⟩
    have HB := Aside0.mk hb
    clear hb
    cases b1
    · go_wp2
      go_ret
      exact ⟨rfl, below_step H0.out HB.out⟩
    · have hz1 := bx_cell BX3.out HB.out 1 (v := .int .i64 dst) rfl
      go_wp2_with (fail)
      refine (are_any ((HL.out.below H0.out).below (below_alloc HB.out _)) 2 [dst] _ _ (row_new _ [dst] (by simp) _) HD.out).mono ?_
      rw [H2.out]
      rintro e w4 ⟨rfl, hb⟩
      have HB4 := Aside0.mk (below_step (below_alloc HB.out _) hb)
      clear hb
      go_wp2
      go_ret
      exact ⟨rfl, below_step H0.out HB4.out⟩
  exact key _ rfl _ rfl
set_option maxHeartbeats 8000000 in
set_option maxRecDepth 100000 in
theorem fits13_any (h : Lk w bl m f Am cm Ar cr Ab cb) (x : In) (A : Option Addr) (c : Nat) (hr : Kd.C (Kd.int .i64) w A x.f2.length x.f2) (hf : Fit m f x) (ho : x.f0 = 13) :
    Calls Tryd.prog 86 #[.pointer (some ⟨bl, 0, none⟩), .agg #[.int .i64 x.f0, .int .i64 x.f1, .slice A x.f2.length c, .int .i64 x.f3, .int .i64 x.f4]] w fun e w' => e = .returned (.bool (areB f 1 x.f2 && areB f 2 [x.f1])) ∧ Below w.heap.size w w' := by
  have hd := hf.dst_of (by omega) (by omega) (by omega)
  have ha := hf.args
  clear hf
  obtain ⟨op, dst, xs, imm, fn⟩ := x
  dsimp only at *
  subst ho
  have HL := Aside0.mk h
  have HR := Aside0.mk hr
  have HD := Aside0.mk hd
  have HA := Aside0.mk ha
  clear h hr hd ha
  have key : ∀ b1, areB f 1 xs = b1 → ∀ b2, areB f 2 [dst] = b2 → Calls Tryd.prog 86 #[.pointer (some ⟨bl, 0, none⟩), .agg #[.int .i64 13, .int .i64 dst, .slice A xs.length c, .int .i64 imm, .int .i64 fn]] w fun e w' => e = .returned (.bool (b1 && b2)) ∧ Below w.heap.size w w' := by
    intro b1 h1 b2 h2
    have H1 := Aside0.mk h1
    have H2 := Aside0.mk h2
    clear h1 h2
    go_enter Tryd.func86, Tryd.ntmps86
    go_wp2_with ((with_reducible refine gate_dst (N := 3) rfl ?_); refine box_event ?hg (N := 3) ?hd (cs := #[.int .i64 13, .int .i64 dst, .slice A xs.length c, .int .i64 imm, .int .i64 fn]) (t := 58) ?hr ?_; (case hd => rfl); (case hg => rfl); (case hr => first | (go_simp; done) | (go_simp; rfl)); intro gb3 hg w2 hbox hb; have BX3 := Aside0.mk hbox; have H0 := Aside0.mk hb; have HG3 := Aside0.mk hg; have HB := Aside0.mk (Below.refl w2.heap.size w2); clear hbox hb hg; have hx3_0 : w2.cell? ⟨gb3, 0, none⟩ = some (.int .i64 13) := (blk_cell BX3.out 0).trans rfl; have hx3_1 : w2.cell? ⟨gb3, 1, none⟩ = some (.int .i64 dst) := (blk_cell BX3.out 1).trans rfl; have hx3_2 : w2.cell? ⟨gb3, 2, none⟩ = some (.slice A xs.length c) := (blk_cell BX3.out 2).trans rfl; have hx3_3 : w2.cell? ⟨gb3, 3, none⟩ = some (.int .i64 imm) := (blk_cell BX3.out 3).trans rfl; have hx3_4 : w2.cell? ⟨gb3, 4, none⟩ = some (.int .i64 fn) := (blk_cell BX3.out 4).trans rfl)
    refine (are_any (HL.out.below H0.out) 1 xs _ _ (Kd.C_below HR.out H0.out) HA.out).mono ?_
    rw [H1.out]
    rintro e w3 ⟨rfl, hb⟩
    have HB := Aside0.mk hb
    clear hb
    cases b1
    · go_wp2
      go_ret
      exact ⟨rfl, below_step H0.out HB.out⟩
    · have hz1 := bx_cell BX3.out HB.out 1 (v := .int .i64 dst) rfl
      go_wp2_with (fail)
      refine (are_any ((HL.out.below H0.out).below (below_alloc HB.out _)) 2 [dst] _ _ (row_new _ [dst] (by simp) _) HD.out).mono ?_
      rw [H2.out]
      rintro e w4 ⟨rfl, hb⟩
      have HB4 := Aside0.mk (below_step (below_alloc HB.out _) hb)
      clear hb
      go_wp2
      go_ret
      exact ⟨rfl, below_step H0.out HB4.out⟩
  exact key _ rfl _ rfl
set_option maxHeartbeats 8000000 in
set_option maxRecDepth 100000 in
theorem fitsE_any (h : Lk w bl m f Am cm Ar cr Ab cb) (x : In) (A : Option Addr) (c : Nat) (hr : Kd.C (Kd.int .i64) w A x.f2.length x.f2) (hf : Fit m f x) (o1 : x.f0 ≠ 1) (o2 : x.f0 ≠ 2) (o12 : x.f0 ≠ 12) (o13 : x.f0 ≠ 13) (o14 : x.f0 ≠ 14) (o18 : x.f0 ≠ 18) (o16 : x.f0 ≠ 16) (o17 : x.f0 ≠ 17) :
    Calls Tryd.prog 86 #[.pointer (some ⟨bl, 0, none⟩), .agg #[.int .i64 x.f0, .int .i64 x.f1, .slice A x.f2.length c, .int .i64 x.f3, .int .i64 x.f4]] w fun e w' => e = .returned (.bool (areB f 1 x.f2 && areB f 1 [x.f1])) ∧ Below w.heap.size w w' := by
  have hd := hf.dst_of o18 o16 o17
  have ha := hf.args
  clear hf
  obtain ⟨op, dst, xs, imm, fn⟩ := x
  dsimp only at *
  replace o1 : (op == 1) = false := beq_eq_false_iff_ne.mpr o1
  replace o2 : (op == 2) = false := beq_eq_false_iff_ne.mpr o2
  replace o12 : (op == 12) = false := beq_eq_false_iff_ne.mpr o12
  replace o13 : (op == 13) = false := beq_eq_false_iff_ne.mpr o13
  replace o14 : (op == 14) = false := beq_eq_false_iff_ne.mpr o14
  replace o18 : (op == 18) = false := beq_eq_false_iff_ne.mpr o18
  replace o16 : (op == 16) = false := beq_eq_false_iff_ne.mpr o16
  replace o17 : (op == 17) = false := beq_eq_false_iff_ne.mpr o17
  have HL := Aside0.mk h
  have HR := Aside0.mk hr
  have HD := Aside0.mk hd
  have HA := Aside0.mk ha
  clear h hr hd ha
  have key : ∀ b1, areB f 1 xs = b1 → ∀ b2, areB f 1 [dst] = b2 → Calls Tryd.prog 86 #[.pointer (some ⟨bl, 0, none⟩), .agg #[.int .i64 op, .int .i64 dst, .slice A xs.length c, .int .i64 imm, .int .i64 fn]] w fun e w' => e = .returned (.bool (b1 && b2)) ∧ Below w.heap.size w w' := by
    intro b1 h1 b2 h2
    have H1 := Aside0.mk h1
    have H2 := Aside0.mk h2
    clear h1 h2
    go_enter Tryd.func86, Tryd.ntmps86
    go_wp2_with ((with_reducible refine gate_dst (N := 3) rfl ?_); refine box_event ?hg (N := 3) ?hd (cs := #[.int .i64 op, .int .i64 dst, .slice A xs.length c, .int .i64 imm, .int .i64 fn]) (t := 58) ?hr ?_; (case hd => rfl); (case hg => rfl); (case hr => first | (go_simp; done) | (go_simp; rfl)); intro gb3 hg w2 hbox hb; have BX3 := Aside0.mk hbox; have H0 := Aside0.mk hb; have HG3 := Aside0.mk hg; have HB := Aside0.mk (Below.refl w2.heap.size w2); clear hbox hb hg; have hx3_0 : w2.cell? ⟨gb3, 0, none⟩ = some (.int .i64 op) := (blk_cell BX3.out 0).trans rfl; have hx3_1 : w2.cell? ⟨gb3, 1, none⟩ = some (.int .i64 dst) := (blk_cell BX3.out 1).trans rfl; have hx3_2 : w2.cell? ⟨gb3, 2, none⟩ = some (.slice A xs.length c) := (blk_cell BX3.out 2).trans rfl; have hx3_3 : w2.cell? ⟨gb3, 3, none⟩ = some (.int .i64 imm) := (blk_cell BX3.out 3).trans rfl; have hx3_4 : w2.cell? ⟨gb3, 4, none⟩ = some (.int .i64 fn) := (blk_cell BX3.out 4).trans rfl)
    refine (are_any (HL.out.below H0.out) 1 xs _ _ (Kd.C_below HR.out H0.out) HA.out).mono ?_
    rw [H1.out]
    rintro e w3 ⟨rfl, hb⟩
    have HB := Aside0.mk hb
    clear hb
    cases b1
    · go_wp2
      go_ret
      exact ⟨rfl, below_step H0.out HB.out⟩
    · have hz1 := bx_cell BX3.out HB.out 1 (v := .int .i64 dst) rfl
      go_wp2_with (fail)
      refine (are_any ((HL.out.below H0.out).below (below_alloc HB.out _)) 1 [dst] _ _ (row_new _ [dst] (by simp) _) HD.out).mono ?_
      rw [H2.out]
      rintro e w4 ⟨rfl, hb⟩
      have HB4 := Aside0.mk (below_step (below_alloc HB.out _) hb)
      clear hb
      go_wp2
      go_ret
      exact ⟨rfl, below_step H0.out HB4.out⟩
  exact key _ rfl _ rfl
set_option maxHeartbeats 8000000 in
set_option maxRecDepth 100000 in
theorem fits18_any (h : Lk w bl m f Am cm Ar cr Ab cb) (x : In) (A : Option Addr) (c : Nat) (hr : Kd.C (Kd.int .i64) w A x.f2.length x.f2) (hf : Fit m f x) (ho : x.f0 = 18) :
    Calls Tryd.prog 86 #[.pointer (some ⟨bl, 0, none⟩), .agg #[.int .i64 x.f0, .int .i64 x.f1, .slice A x.f2.length c, .int .i64 x.f3, .int .i64 x.f4]] w fun e w' => e = .returned (.bool (areB f 1 x.f2)) ∧ Below w.heap.size w w' := by
  have ha := hf.args
  clear hf
  obtain ⟨op, dst, xs, imm, fn⟩ := x
  dsimp only at *
  subst ho
  have HL := Aside0.mk h
  have HR := Aside0.mk hr
  have HA := Aside0.mk ha
  clear h hr ha
  go_enter Tryd.func86, Tryd.ntmps86
  go_wp2_with ((with_reducible refine gate_dst (N := 3) rfl ?_); refine box_event ?hg (N := 3) ?hd (cs := #[.int .i64 18, .int .i64 dst, .slice A xs.length c, .int .i64 imm, .int .i64 fn]) (t := 58) ?hr ?_; (case hd => rfl); (case hg => rfl); (case hr => first | (go_simp; done) | (go_simp; rfl)); intro gb3 hg w2 hbox hb; have BX3 := Aside0.mk hbox; have H0 := Aside0.mk hb; have HG3 := Aside0.mk hg; have HB := Aside0.mk (Below.refl w2.heap.size w2); clear hbox hb hg; have hx3_0 : w2.cell? ⟨gb3, 0, none⟩ = some (.int .i64 18) := (blk_cell BX3.out 0).trans rfl; have hx3_1 : w2.cell? ⟨gb3, 1, none⟩ = some (.int .i64 dst) := (blk_cell BX3.out 1).trans rfl; have hx3_2 : w2.cell? ⟨gb3, 2, none⟩ = some (.slice A xs.length c) := (blk_cell BX3.out 2).trans rfl; have hx3_3 : w2.cell? ⟨gb3, 3, none⟩ = some (.int .i64 imm) := (blk_cell BX3.out 3).trans rfl; have hx3_4 : w2.cell? ⟨gb3, 4, none⟩ = some (.int .i64 fn) := (blk_cell BX3.out 4).trans rfl)
  refine (are_any (HL.out.below H0.out) 1 xs _ _ (Kd.C_below HR.out H0.out) HA.out).mono ?_
  rintro e w3 ⟨rfl, hb⟩
  have HB := Aside0.mk hb
  clear hb
  go_wp2
  go_ret
  exact ⟨rfl, below_step H0.out HB.out⟩
set_option maxHeartbeats 8000000 in
set_option maxRecDepth 100000 in
theorem fits16_any (h : Lk w bl m f Am cm Ar cr Ab cb) (x : In) (A : Option Addr) (c : Nat) (hr : Kd.C (Kd.int .i64) w A x.f2.length x.f2) (hf : Fit m f x) (ho : x.f0 = 16) :
    Calls Tryd.prog 86 #[.pointer (some ⟨bl, 0, none⟩), .agg #[.int .i64 x.f0, .int .i64 x.f1, .slice A x.f2.length c, .int .i64 x.f3, .int .i64 x.f4]] w fun e w' => e = .returned (.bool (areB f 1 x.f2)) ∧ Below w.heap.size w w' := by
  have ha := hf.args
  clear hf
  obtain ⟨op, dst, xs, imm, fn⟩ := x
  dsimp only at *
  subst ho
  have HL := Aside0.mk h
  have HR := Aside0.mk hr
  have HA := Aside0.mk ha
  clear h hr ha
  go_enter Tryd.func86, Tryd.ntmps86
  go_wp2_with ((with_reducible refine gate_dst (N := 3) rfl ?_); refine box_event ?hg (N := 3) ?hd (cs := #[.int .i64 16, .int .i64 dst, .slice A xs.length c, .int .i64 imm, .int .i64 fn]) (t := 58) ?hr ?_; (case hd => rfl); (case hg => rfl); (case hr => first | (go_simp; done) | (go_simp; rfl)); intro gb3 hg w2 hbox hb; have BX3 := Aside0.mk hbox; have H0 := Aside0.mk hb; have HG3 := Aside0.mk hg; have HB := Aside0.mk (Below.refl w2.heap.size w2); clear hbox hb hg; have hx3_0 : w2.cell? ⟨gb3, 0, none⟩ = some (.int .i64 16) := (blk_cell BX3.out 0).trans rfl; have hx3_1 : w2.cell? ⟨gb3, 1, none⟩ = some (.int .i64 dst) := (blk_cell BX3.out 1).trans rfl; have hx3_2 : w2.cell? ⟨gb3, 2, none⟩ = some (.slice A xs.length c) := (blk_cell BX3.out 2).trans rfl; have hx3_3 : w2.cell? ⟨gb3, 3, none⟩ = some (.int .i64 imm) := (blk_cell BX3.out 3).trans rfl; have hx3_4 : w2.cell? ⟨gb3, 4, none⟩ = some (.int .i64 fn) := (blk_cell BX3.out 4).trans rfl)
  refine (are_any (HL.out.below H0.out) 1 xs _ _ (Kd.C_below HR.out H0.out) HA.out).mono ?_
  rintro e w3 ⟨rfl, hb⟩
  have HB := Aside0.mk hb
  clear hb
  go_wp2
  go_ret
  exact ⟨rfl, below_step H0.out HB.out⟩
set_option maxHeartbeats 8000000 in
set_option maxRecDepth 100000 in
theorem fits17_any (h : Lk w bl m f Am cm Ar cr Ab cb) (x : In) (A : Option Addr) (c : Nat) (hr : Kd.C (Kd.int .i64) w A x.f2.length x.f2) (hf : Fit m f x) (ho : x.f0 = 17) :
    Calls Tryd.prog 86 #[.pointer (some ⟨bl, 0, none⟩), .agg #[.int .i64 x.f0, .int .i64 x.f1, .slice A x.f2.length c, .int .i64 x.f3, .int .i64 x.f4]] w fun e w' => e = .returned (.bool (callB f (rd_T50 m x.f4) x.f2 x.f1)) ∧ Below w.heap.size w w' := by
  have hc := hf.at_call ho
  have hcon := fun W (hW : Below w.heap.size w W) => call_any (w := W) (h.below hW) x A c (Kd.C_below hr hW) hc.1 hc.2.1 hf.args (by rw [hf.len]; exact hc.2.2.1) (by rw [← hc.2.2.2]; exact hf.dst)
  clear h hr hf hc
  obtain ⟨op, dst, xs, imm, fn⟩ := x
  dsimp only at *
  subst ho
  have HC := Aside0.mk hcon
  clear hcon
  go_enter Tryd.func86, Tryd.ntmps86
  go_wp2_with ((with_reducible refine gate_dst (N := 3) rfl ?_); refine box_event ?hg (N := 3) ?hd (cs := #[.int .i64 17, .int .i64 dst, .slice A xs.length c, .int .i64 imm, .int .i64 fn]) (t := 58) ?hr ?_; (case hd => rfl); (case hg => rfl); (case hr => first | (go_simp; done) | (go_simp; rfl)); intro gb3 hg w2 hbox hb; have BX3 := Aside0.mk hbox; have H0 := Aside0.mk hb; have HG3 := Aside0.mk hg; have HB := Aside0.mk (Below.refl w2.heap.size w2); clear hbox hb hg; have hx3_0 : w2.cell? ⟨gb3, 0, none⟩ = some (.int .i64 17) := (blk_cell BX3.out 0).trans rfl; have hx3_1 : w2.cell? ⟨gb3, 1, none⟩ = some (.int .i64 dst) := (blk_cell BX3.out 1).trans rfl; have hx3_2 : w2.cell? ⟨gb3, 2, none⟩ = some (.slice A xs.length c) := (blk_cell BX3.out 2).trans rfl; have hx3_3 : w2.cell? ⟨gb3, 3, none⟩ = some (.int .i64 imm) := (blk_cell BX3.out 3).trans rfl; have hx3_4 : w2.cell? ⟨gb3, 4, none⟩ = some (.int .i64 fn) := (blk_cell BX3.out 4).trans rfl)
  refine (HC.out _ H0.out).mono ?_
  rintro e w3 ⟨rfl, hb⟩
  have HB := Aside0.mk hb
  clear hb
  go_wp2
  go_ret
  exact ⟨rfl, below_step H0.out HB.out⟩
set_option maxHeartbeats 8000000 in
set_option maxRecDepth 100000 in
theorem fits14_any (h : Lk w bl m f Am cm Ar cr Ab cb) (x : In) (A : Option Addr) (c : Nat) (hr : Kd.C (Kd.int .i64) w A x.f2.length x.f2) (hf : Fit m f x) (ho : x.f0 = 14) :
    Calls Tryd.prog 86 #[.pointer (some ⟨bl, 0, none⟩), .agg #[.int .i64 x.f0, .int .i64 x.f1, .slice A x.f2.length c, .int .i64 x.f3, .int .i64 x.f4]] w fun e w' => e = .returned (.bool (areB f 2 [rd x.f2 0, x.f1])) ∧ Below w.heap.size w w' := by
  have h1 := hf.one (.inr ho)
  have hd := hasB_two (hasB_at hf.args (k := 0) (by omega)) (hf.dst_of (by omega) (by omega) (by omega))
  clear hf
  obtain ⟨op, dst, xs, imm, fn⟩ := x
  dsimp only at *
  subst ho
  rw [show ((0 : Nat) : Int) = 0 from rfl] at hd
  generalize hrx : rd xs (0 : Int) = rx at hd ⊢
  have HX := Aside0.mk hrx
  have HL := Aside0.mk h
  have HR := Aside0.mk hr
  have H1 := Aside0.mk h1
  have HD := Aside0.mk hd
  clear h hr h1 hd hrx
  go_enter Tryd.func86, Tryd.ntmps86
  go_wp2_with ((with_reducible refine gate_dst (N := 3) rfl ?_); refine box_event ?hg (N := 3) ?hd (cs := #[.int .i64 14, .int .i64 dst, .slice A xs.length c, .int .i64 imm, .int .i64 fn]) (t := 58) ?hr ?_; (case hd => rfl); (case hg => rfl); (case hr => first | (go_simp; done) | (go_simp; rfl)); intro gb3 hg w2 hbox hb; have BX3 := Aside0.mk hbox; have H0 := Aside0.mk hb; have HG3 := Aside0.mk hg; have HB := Aside0.mk (Below.refl w2.heap.size w2); clear hbox hb hg; have hx3_0 : w2.cell? ⟨gb3, 0, none⟩ = some (.int .i64 14) := (blk_cell BX3.out 0).trans rfl; have hx3_1 : w2.cell? ⟨gb3, 1, none⟩ = some (.int .i64 dst) := (blk_cell BX3.out 1).trans rfl; have hx3_2 : w2.cell? ⟨gb3, 2, none⟩ = some (.slice A xs.length c) := (blk_cell BX3.out 2).trans rfl; have hx3_3 : w2.cell? ⟨gb3, 3, none⟩ = some (.int .i64 imm) := (blk_cell BX3.out 3).trans rfl; have hx3_4 : w2.cell? ⟨gb3, 4, none⟩ = some (.int .i64 fn) := (blk_cell BX3.out 4).trans rfl)
  obtain ⟨ax, ex, hxx⟩ := Kd.at_int (Kd.C_below HR.out H0.out) 0 (by omega) (by rw [H1.out]; decide)
  cases ex
  rw [HX.out] at hxx
  have hxx : w2.cell? ax = some (.int .i64 rx) := by simpa [Addr.add] using hxx
  have hx1 := H1.out
  have K2 := Aside0.mk (show ∀ W, Below w2.heap.size w2 W → W.cell? ⟨gb3, 1, none⟩ = some (.int .i64 dst) ∧ W.cell? ⟨gb3, 2, none⟩ = some (.slice (some ax) xs.length c) ∧ W.cell? ax = some (.int .i64 rx) from
    fun W hW => ⟨(hW.cell (World.block_lt_of_cell? w2 _ hx3_1)).trans hx3_1, (hW.cell (World.block_lt_of_cell? w2 _ hx3_2)).trans hx3_2, (hW.cell (World.block_lt_of_cell? w2 _ hxx)).trans hxx⟩)
  clear hxx hx3_0 hx3_1 hx3_2 hx3_3 hx3_4
  go_region_held3 (fun W => W.cell? ⟨gb3, 1, none⟩ = some (.int .i64 dst) ∧ W.cell? ⟨gb3, 2, none⟩ = some (.slice (some ax) xs.length c) ∧ W.cell? ax = some (.int .i64 rx))
    (first | exact K2.out _ HB6.out | exact K2.out _ (by repeat (with_reducible first | exact HB.out | apply below_alloc | apply pw_below_drewN | apply below_drew1)))
    (first | (go_at_call 84; refine (are_any ((HL.out.below H0.out).below (below_drew1 (below_alloc HB.out _))) 2 [rx, dst] _ _ (row_drew w2 [rx, dst] (by simp) _) HD.out).mono ?_; rintro e w6 ⟨rfl, hb⟩; have HB6 := Aside0.mk (below_step (below_drew1 (below_alloc HB.out _)) hb); clear hb))
  go_wp2
  go_ret
  exact ⟨rfl, below_step H0.out HB6.out⟩
theorem fits_any (h : Lk w bl m f Am cm Ar cr Ab cb) (x : In) (A : Option Addr) (c : Nat) (hr : Kd.C (Kd.int .i64) w A x.f2.length x.f2) (hf : Fit m f x) :
    Calls Tryd.prog 86 #[.pointer (some ⟨bl, 0, none⟩), .agg #[.int .i64 x.f0, .int .i64 x.f1, .slice A x.f2.length c, .int .i64 x.f3, .int .i64 x.f4]] w fun e w' => e = .returned (.bool (fitsB m f x)) ∧ Below w.heap.size w w' := by
  unfold fitsB
  by_cases o1 : x.f0 = 1
  · rw [if_pos o1]
    exact fits1_any h x A c hr hf o1
  rw [if_neg o1]
  by_cases o2 : x.f0 = 2
  · rw [if_pos o2]
    exact fits2_any h x A c hr hf o2
  rw [if_neg o2]
  by_cases o12 : x.f0 = 12
  · rw [if_pos o12]
    exact fits12_any h x A c hr hf o12
  rw [if_neg o12]
  by_cases o13 : x.f0 = 13
  · rw [if_pos o13]
    exact fits13_any h x A c hr hf o13
  rw [if_neg o13]
  by_cases o14 : x.f0 = 14
  · rw [if_pos o14]
    exact fits14_any h x A c hr hf o14
  rw [if_neg o14]
  by_cases o18 : x.f0 = 18
  · rw [if_pos o18]
    exact fits18_any h x A c hr hf o18
  rw [if_neg o18]
  by_cases o16 : x.f0 = 16
  · rw [if_pos o16]
    exact fits16_any h x A c hr hf o16
  rw [if_neg o16]
  by_cases o17 : x.f0 = 17
  · rw [if_pos o17]
    exact fits17_any h x A c hr hf o17
  rw [if_neg o17]
  exact fitsE_any h x A c hr hf o1 o2 o12 o13 o14 o18 o16 o17
end Go.Proofs.YtckebppacealeaaDoor.Lk
