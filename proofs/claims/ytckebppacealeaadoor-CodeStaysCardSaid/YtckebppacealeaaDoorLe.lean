/- Whether a call's types fit, as the checker tells it. Conditions: the callee and all registers are there, there are as many arguments as it has parameters. -/
import Derived.Test.YtckebppacealeaaDoorLd
namespace Go.Proofs.YtckebppacealeaaDoor.Lk
open Go.RowKit Go.Proofs.YtckebppacealeaaDoorW.PrintWords Go.Proofs.YtckebppacealeaaDoorW.PrintLast Go.Proofs.YtckebppacealeaaDoorW.PrintMore Go.Proofs.YtckebppacealeaaDoorW.PrintWords.Kd Go.Proofs.YtckebppacealeaaDoor.PCodeUnlike
attribute [local go_sem] max2_int min2_int max_two min_two max_three min_three max_four min_four
set_option linter.unusedVariables false
set_option linter.unusedSimpArgs false
variable {w w1 : World} {bl : Nat} {m : List Fn} {f : Fn} {Am : Option Addr} {cm : Nat} {Ar : Option Addr} {cr : Nat} {Ab : Option Addr} {cb : Nat}
def callAt (f g : Fn) (rs : List Int) (k : Nat) : Bool := areB f (rd g.f2 (k : Int)) [rd rs (k : Int)]
def callB (f g : Fn) (rs : List Int) (dst : Int) : Bool :=
  if g.f0 < 0 then false else if (g.f2.length : Int) < g.f0 then false else
  if (List.range rs.length).all (callAt f g rs) = true then (if g.f1 = 0 then true else areB f g.f1 [dst]) else false
theorem hasB_at {f : Fn} {rs : List Int} (h : hasB f rs = true) {k : Nat} (hk : k < rs.length) : hasB f [rd rs (k : Int)] = true := by
  rw [hasB_one]
  cases e : hasP f (rd rs (k : Int))
  · rfl
  · have := List.any_eq_true.mpr ⟨_, rd_mem hk, e⟩
    unfold hasB at h
    rw [this] at h
    exact absurd h (by simp)
set_option maxHeartbeats 8000000 in
set_option maxRecDepth 100000 in
theorem call_any (h : Lk w bl m f Am cm Ar cr Ab cb) (x : In) (A : Option Addr) (c : Nat) (hr : Kd.C (Kd.int .i64) w A x.f2.length x.f2) (h0 : 0 ≤ x.f4) (h1 : x.f4 < m.length)
    (hh : hasB f x.f2 = true) (hn : (x.f2.length : Int) = (rd_T50 m x.f4).f0) (hd : (rd_T50 m x.f4).f1 ≠ 0 → hasB f [x.f1] = true) :
    Calls Tryd.prog 90 #[.pointer (some ⟨bl, 0, none⟩), .agg #[.int .i64 x.f0, .int .i64 x.f1, .slice A x.f2.length c, .int .i64 x.f3, .int .i64 x.f4]] w fun e w' => e = .returned (.bool (callB f (rd_T50 m x.f4) x.f2 x.f1)) ∧ Below w.heap.size w w' := by
  have HL := Aside0.mk h
  have HR := Aside0.mk hr
  have HH := Aside0.mk hh
  have HN := Aside0.mk hn
  have HD := Aside0.mk hd
  have P0 := Aside0.mk h0
  have Q0 := Aside0.mk h1
  clear h hr hh hn hd h0 h1
  obtain ⟨op, dst, xs, imm, fn⟩ := x
  dsimp only at *
  obtain ⟨g, hg⟩ : ∃ g, g = rd_T50 m fn := ⟨_, rfl⟩
  rw [← hg] at HN HD ⊢
  have HG := Aside0.mk hg
  clear hg
  have key : ∀ r, callB f g xs dst = r → Calls Tryd.prog 90 #[.pointer (some ⟨bl, 0, none⟩), .agg #[.int .i64 op, .int .i64 dst, .slice A xs.length c, .int .i64 imm, .int .i64 fn]] w fun e w' => e = .returned (.bool r) ∧ Below w.heap.size w w' := by
    intro r hr
    have HV := Aside0.mk hr
    clear hr
    go_enter Tryd.func90, Tryd.ntmps90
    go_wp2_with ((with_reducible refine gate_dst (N := 3) rfl ?_); refine box_event ?hg (N := 3) ?hd (cs := #[.int .i64 op, .int .i64 dst, .slice A xs.length c, .int .i64 imm, .int .i64 fn]) (t := 58) ?hr ?_; (case hd => rfl); (case hg => rfl); (case hr => first | (go_simp; done) | (go_simp; rfl)); intro gb3 hg w2 hbox hb; have BX3 := Aside0.mk hbox; have H0 := Aside0.mk hb; have HG3 := Aside0.mk hg; have HB := Aside0.mk (Below.refl w2.heap.size w2); clear hbox hb hg; have hx3_0 : w2.cell? ⟨gb3, 0, none⟩ = some (.int .i64 op) := (blk_cell BX3.out 0).trans rfl; have hx3_1 : w2.cell? ⟨gb3, 1, none⟩ = some (.int .i64 dst) := (blk_cell BX3.out 1).trans rfl; have hx3_2 : w2.cell? ⟨gb3, 2, none⟩ = some (.slice A xs.length c) := (blk_cell BX3.out 2).trans rfl; have hx3_3 : w2.cell? ⟨gb3, 3, none⟩ = some (.int .i64 imm) := (blk_cell BX3.out 3).trans rfl; have hx3_4 : w2.cell? ⟨gb3, 4, none⟩ = some (.int .i64 fn) := (blk_cell BX3.out 4).trans rfl)
    have hl2 := HL.out.below H0.out
    have hc0 := (blk_cell hl2.blk 0).trans (show _ = some (.slice Am m.length cm) from rfl)
    obtain ⟨ad, A2, k2, A3, k3, e0, hx0, hx1, hx2, hx3, hq1, hq2, hq3, hq4⟩ := at_T50 hl2.mods fn P0.out Q0.out
    cases e0
    rw [← HG.out] at hx0 hx1 hx2 hx3 hq2
    have HA := Aside0.mk hq2
    have p1 := eq_true P0.out
    have q1 := eq_true Q0.out
    have b0 := World.block_lt_of_cell? w2 _ hx0
    have b1 := World.block_lt_of_cell? w2 _ hc0
    have b2 := World.block_lt_of_cell? w2 _ hx3_0
    clear hl2 hq1 hq2 hq3 hq4
    go_region
    have hb5 := below_drew1 (below_alloc (Below.refl w2.heap.size w2) (.cells #[.int .i64 g.f0, .int .i64 g.f1, .slice A2 g.f2.length k2, .slice A3 g.f3.length k3] 50))
    have hx5 := blk_drew (blk_new w2 (.cells #[.int .i64 g.f0, .int .i64 g.f1, .slice A2 g.f2.length k2, .slice A3 g.f3.length k3] 50))
    generalize (w2.alloc (.cells #[.int .i64 g.f0, .int .i64 g.f1, .slice A2 g.f2.length k2, .slice A3 g.f3.length k3] 50)).drew = w5 at hb5 hx5 ⊢
    generalize w2.heap.size = g5 at hx5 ⊢
    have HL5 := Aside0.mk ((HL.out.below H0.out).below hb5)
    have HR5 := Aside0.mk (Kd.C_below (Kd.C_below HR.out H0.out) hb5)
    have HA5 := Aside0.mk (Kd.C_below HA.out hb5)
    have BX3 := Aside0.mk (blk_below BX3.out hb5)
    have BX5 := Aside0.mk hx5
    have H0 := Aside0.mk (below_step H0.out hb5)
    have HB := Aside0.mk (Below.refl w5.heap.size w5)
    clear hb5 hx5 HR HA hx3_0 hx3_1 hx3_2 hx3_3 hx3_4 hx0 hx1 hx2 hx3 hc0 b0 b1 b2
    have hx5_0 := bx_cell BX5.out HB.out 0 (v := .int .i64 g.f0) rfl
    have hx5_1 := bx_cell BX5.out HB.out 1 (v := .int .i64 g.f1) rfl
    have hx5_2 := bx_cell BX5.out HB.out 2 (v := .slice A2 g.f2.length k2) rfl
    by_cases c1 : g.f0 < 0
    · have d1 := decide_eq_true c1
      have hv := HV.out
      unfold callB at hv
      rw [if_pos c1] at hv
      subst hv
      clear c1
      go_wp2
      go_ret
      exact ⟨rfl, below_step H0.out HB.out⟩
    have d1 := decide_eq_false c1
    by_cases c2 : (g.f2.length : Int) < g.f0
    · have d2 := decide_eq_true c2
      have hv := HV.out
      unfold callB at hv
      rw [if_neg c1, if_pos c2] at hv
      subst hv
      clear c1 c2
      go_wp2
      go_ret
      exact ⟨rfl, below_step H0.out HB.out⟩
    have d2 := decide_eq_false c2
    have hv := HV.out
    unfold callB at hv
    rw [if_neg c1, if_neg c2] at hv
    have HV := Aside0.mk hv
    have HLE := Aside0.mk (show xs.length ≤ g.f2.length by have := HN.out; omega)
    have HXL := Aside0.mk HR5.out.2.1
    have hz2 := bx_cell BX3.out HB.out 2 (v := .slice A xs.length c) rfl
    clear c1 c2 hv
    go_wp2
    go_loopw [31] (fun v31 wr => ∃ k : Nat, k ≤ xs.length ∧ v31 = .int .i64 k ∧ Aside0 (∀ j, j < k → callAt f g xs j = true) ∧ Aside0 (Below w5.heap.size w5 wr)) (fun v31 _ => xs.length - (intOf v31).toNat)
    case atStart => exact ⟨0, Nat.zero_le _, rfl, ⟨fun j hj => absurd hj (Nat.not_lt_zero _)⟩, HB⟩
    case round =>
      clear HB hx5_0 hx5_1 hx5_2 hz2
      obtain ⟨k, hk, rfl, HK, HB⟩ := hrel
      by_cases hlt : k < xs.length
      · have e0 : decide ((k : Int) < (xs.length : Int)) = true := decide_eq_true (by omega)
        have p0 : 0 ≤ (k : Int) := by omega
        have q0 : (k : Int) < (xs.length : Int) := by omega
        have q2 : (k : Int) < (g.f2.length : Int) := by have := HLE.out; omega
        obtain ⟨ax, ex, hxx⟩ := Kd.at_int (Kd.C_below HR5.out HB.out) k p0 q0
        obtain ⟨ag, eg, hxg⟩ := Kd.at_int (Kd.C_below HA5.out HB.out) k p0 q2
        cases ex
        cases eg
        rw [Int.toNat_natCast] at hxx hxg
        have hx5_2 := bx_cell BX5.out HB.out 2 (v := .slice (some ag) g.f2.length k2) rfl
        have p1 := eq_true p0
        have q1 := eq_true q0
        have q3 := eq_true q2
        have HLT := Aside0.mk hlt
        have hcon := fun W hW => are_any (w := W) (HL5.out.below hW) (rd g.f2 (k : Int)) [rd xs (k : Int)]
        have hs := hasB_at HH.out hlt
        have hxl := HXL.out
        clear p0 q0 q2
        cases hq : callAt f g xs k with
        | true =>
          have HQ := Aside0.mk hq
          clear hq
          go_wp2_with (fail)
          refine (hcon _ (below_alloc HB.out _) _ _ (row_new _ [rd xs (k : Int)] (by simp) _) hs).mono ?_
          rw [show areB f (rd g.f2 (k : Int)) [rd xs (k : Int)] = true from HQ.out]
          rintro e w6 ⟨rfl, hb⟩
          have HB6 := Aside0.mk (below_step (below_alloc HB.out _) hb)
          clear hb hcon hs
          go_wp2
          go_roundw
          case rel =>
            refine ⟨k + 1, HLT.out, by go_num, ⟨fun j hj => ?_⟩, HB6⟩
            by_cases e : j = k
            · subst e; exact HQ.out
            · exact HK.out j (by omega)
          case measure => have := HLT.out; simp [intOf]; omega
        | false =>
          have HQ := Aside0.mk hq
          clear hq
          go_wp2_with (fail)
          refine (hcon _ (below_alloc HB.out _) _ _ (row_new _ [rd xs (k : Int)] (by simp) _) hs).mono ?_
          rw [show areB f (rd g.f2 (k : Int)) [rd xs (k : Int)] = false from HQ.out]
          rintro e w6 ⟨rfl, hb⟩
          have HB6 := Aside0.mk (below_step (below_alloc HB.out _) hb)
          clear hb hcon hs
          have hv := HV.out
          rw [if_neg (fun h => by
            have h2 := List.all_eq_true.mp h k (List.mem_range.mpr HLT.out)
            rw [HQ.out] at h2
            exact absurd h2 (by simp))] at hv
          subst hv
          go_wp2
          go_ret
          exact ⟨rfl, below_step H0.out HB6.out⟩
      · have e0 : decide ((k : Int) < (xs.length : Int)) = false := decide_eq_false (by omega)
        obtain rfl : k = xs.length := by omega
        have hv := HV.out
        rw [if_pos (List.all_eq_true.mpr fun j hj => HK.out j (List.mem_range.mp hj))] at hv
        have hx5_1 := bx_cell BX5.out HB.out 1 (v := .int .i64 g.f1) rfl
        by_cases c1 : g.f1 = 0
        · rw [if_pos c1] at hv
          subst hv
          rw [c1] at hx5_1
          clear c1
          go_wp2
          go_ret
          exact ⟨rfl, below_step H0.out HB.out⟩
        · rw [if_neg c1] at hv
          have d1 : (g.f1 == 0) = false := beq_eq_false_iff_ne.mpr c1
          have hs := HD.out c1
          have hz1 := bx_cell BX3.out HB.out 1 (v := .int .i64 dst) rfl
          clear c1
          go_wp2_with (fail)
          refine (are_any (HL5.out.below (below_alloc HB.out _)) g.f1 [dst] _ _ (row_new _ [dst] (by simp) _) hs).mono ?_
          rw [hv]
          rintro e w6 ⟨rfl, hb⟩
          have HB6 := Aside0.mk (below_step (below_alloc HB.out _) hb)
          clear hb hs
          go_wp2
          go_ret
          exact ⟨rfl, below_step H0.out HB6.out⟩
  exact key _ rfl
end Go.Proofs.YtckebppacealeaaDoor.Lk
