/- loops.Depth: in how many loops each block is, as a list that is told by the loops alone. Conditions: what loops.Loops answers lies in range. -/
import Derived.Test.YtpionncanaamgaaSa
import Derived.Test.YtpionncanaamgaaPLoopsStaysx13
namespace Go.Proofs.Ytpionncanaamgaa.Lk
open Go.RowKit Go.Proofs.YtpionncanaamgaaW.PrintWords Go.Proofs.YtpionncanaamgaaW.PrintLast Go.Proofs.YtpionncanaamgaaW.PrintMore Go.Proofs.YtpionncanaamgaaW.PrintWords.Kd Go.Proofs.Ytpionncanaamgaa.PLoopsStays Go.Proofs.Ytpionncanaamgaa.Lp
attribute [local go_sem] max2_int min2_int max_two min_two max_three min_three max_four min_four
set_option linter.unusedVariables false
set_option linter.unusedSimpArgs false
variable {w w1 : World}
def incr (X : List Int) (b : Int) : List Int := X.set b.toNat (wrap64 (rd X b + 1))
theorem incr_len (X : List Int) (b : Int) : (incr X b).length = X.length := List.length_set
theorem incrs_len (L : List Int) : ∀ X : List Int, (L.foldl incr X).length = X.length := by
  induction L with
  | nil => intro X; rfl
  | cons b L ih => intro X; rw [List.foldl_cons, ih, incr_len]
def depthV (n : Nat) (G : List S44) : List Int := G.foldl (fun X g => g.f1.foldl incr X) (List.replicate n 0)
theorem depths_len (G : List S44) : ∀ X : List Int, (G.foldl (fun X g => g.f1.foldl incr X) X).length = X.length := by
  induction G with
  | nil => intro X; rfl
  | cons g G ih => intro X; rw [List.foldl_cons, ih, incrs_len]
theorem foldl_take {α β : Type} (f : β → α → β) (z : α) (l : List α) (b : β) (i : Nat) (h : i < l.length) : (l.take (i + 1)).foldl f b = f ((l.take i).foldl f b) (l.getD i z) := by
  rw [List.take_succ_eq_append_getElem h, List.foldl_append, ← getD_at l i z h]
  rfl
theorem at_F {w : World} {ok : Nat → Prop} {A : Option Addr} {n : Nat} {xs : List S44} (h : Kd.F k44 w ok A n xs) (i : Int) (h0 : 0 ≤ i) (h1 : i < n) : ∃ ad A1 c1 A2 c2, A = some ad ∧ w.cell? (ad.add (i.toNat * 3)) = some (.int .i64 (rd_T44 xs i).f0) ∧ w.cell? ⟨(ad.add (i.toNat * 3)).block, (ad.add (i.toNat * 3)).off + 1, none⟩ = some (.slice A1 (rd_T44 xs i).f1.length c1) ∧ w.cell? ⟨(ad.add (i.toNat * 3)).block, (ad.add (i.toNat * 3)).off + 2, none⟩ = some (.slice A2 (rd_T44 xs i).f2.length c2) ∧ (rd_T44 xs i).f1.length ≤ c1 ∧ Kd.F (Kd.int .i64) w ok A1 (rd_T44 xs i).f1.length (rd_T44 xs i).f1 := by
  obtain ⟨ad, c, e, _, hK, hc0, _⟩ := Kd.F_get h z44 i h0 h1
  have hc : ∀ j u, c[j]? = some u → w.cell? (ad.add (i.toNat * 3 + j)) = some u := hc0
  obtain ⟨A1, c1, A2, c2, rfl, l1, g1, l2, g2⟩ := k44_openF hK
  exact ⟨ad, A1, c1, A2, c2, e, hc 0 _ rfl, by rw [← add_field _ _ 1 (by omega)]; exact hc 1 _ rfl, by rw [← add_field _ _ 2 (by omega)]; exact hc 2 _ rfl, l1, g1⟩
set_option maxHeartbeats 8000000 in
set_option maxRecDepth 100000 in
theorem depth_any (f : Fn) (A2 A3 : Option Addr) (c2 c3 : Nat) (h2 : Kd.C (Kd.int .i64) w A2 f.f2.length f.f2) (l2 : f.f2.length ≤ c2) (h3 : Kd.C k52 w A3 f.f3.length f.f3) (l3 : f.f3.length ≤ c3)
    (hn : f.f3.length ≤ 70) (kg : Nat) (G : List S44) (hkg : loops_Loops.f kg f.f0 f.f1 f.f2 f.f3 = some G) (hG : G.length ≤ 70)
    (hr : ∀ q, q < G.length → (G.getD q z44).f1.length ≤ 100 ∧ ∀ j, j < (G.getD q z44).f1.length → ∃ u : Nat, (G.getD q z44).f1.getD j 0 = (u : Int) ∧ u < f.f3.length) :
    Calls Try.prog 29 #[.agg #[.int .i64 f.f0, .int .i64 f.f1, .slice A2 f.f2.length c2, .slice A3 f.f3.length c3]] w fun e w' => ∃ v, e = .returned v ∧ Kd.R (Kd.int .i64) 3 w' w.heap.size (fun _ => True) v (depthV f.f3.length G) ∧ Below w.heap.size w w' := by
  have H2 := Aside0.mk h2
  have L2 := Aside0.mk l2
  have H3 := Aside0.mk h3
  have L3 := Aside0.mk l3
  have HN := Aside0.mk hn
  have KG := Aside0.mk hkg
  have GL := Aside0.mk hG
  have HR := Aside0.mk hr
  clear h2 l2 h3 l3 hkg hG hr
  go_enter Try.func29, Try.ntmps29
  go_upto_region 2 with (first
    | ((with_reducible refine gate_dst (N := 1) rfl ?_); refine box_event ?hg (N := 1) ?hd (cs := #[.int .i64 f.f0, .int .i64 f.f1, .slice A2 f.f2.length c2, .slice A3 f.f3.length c3]) (t := 25) ?hr ?_; (case hd => rfl); (case hg => rfl); (case hr => first | (go_simp; done) | (go_simp; rfl)); intro gb1 hg w2 hbox hb; have BX1 := Aside0.mk hbox; have H0 := Aside0.mk hb; have HG1 := Aside0.mk hg; have HB := Aside0.mk (Below.refl w2.heap.size w2); clear hbox hb hg; have hx1_0 : w2.cell? ⟨gb1, 0, none⟩ = some (.int .i64 f.f0) := (blk_cell BX1.out 0).trans rfl; have hx1_1 : w2.cell? ⟨gb1, 1, none⟩ = some (.int .i64 f.f1) := (blk_cell BX1.out 1).trans rfl; have hx1_2 : w2.cell? ⟨gb1, 2, none⟩ = some (.slice A2 f.f2.length c2) := (blk_cell BX1.out 2).trans rfl; have hx1_3 : w2.cell? ⟨gb1, 3, none⟩ = some (.slice A3 f.f3.length c3) := (blk_cell BX1.out 3).trans rfl)
    | ((with_reducible refine gate_dst (N := 11) rfl ?_); refine Kd.R_make (Kd.int .i64) (w0 := w2) w2.heap.size 3 rfl (N := 11) rfl 22 _ _ rfl (f.f3.length : Int) rfl rfl Try.underlying22 (.int .i64 0) 8 info3 rfl (by decide) (by decide) (0 : Int) (ok := fun _ => True) (okp := fun _ => True) rfl (fun _ h => h) trivial (by omega) (by omega) (Below.refl _ _) (Nat.le_refl _) ?_; intro v3 w3 hv hb _ hnew; rw [Int.toNat_natCast] at hv; have HV := Aside0.mk hv; have HB3 := Aside0.mk hb; have HNW := Aside0.mk hnew; clear hv hb hnew))
  obtain ⟨Ao, co, rfl⟩ := Kd.R_slice HV.out
  obtain ⟨go, rfl⟩ : ∃ go, Ao = some ⟨go, 0, none⟩ := by
    obtain ⟨b, hb, _⟩ := HNW.out
    cases Ao with
    | none => simp [Value.ownBlock] at hb
    | some ad =>
      obtain ⟨g, rfl⟩ := Kd.R_head HV.out
      exact ⟨g, rfl⟩
  have hgo : go < w3.heap.size := Kd.R_lt HV.out go (by simp [Value.ownBlock])
  have hge : w2.heap.size ≤ go := Kd.R_base HV.out go (by simp [Value.ownBlock])
  have GO := Aside0.mk (And.intro hge hgo)
  rw [List.length_replicate]
  replace HV := Aside0.mk (show Kd.R (Kd.int .i64) 3 w3 w2.heap.size (fun _ => True) (.slice (some ⟨go, 0, none⟩) f.f3.length co) (List.replicate f.f3.length 0) from by have := HV.out; rwa [List.length_replicate] at this)
  replace HB := HB3
  clear hx1_0 hx1_1 hx1_2 hx1_3 HB3 HNW hgo hge
  have hx1_0 := bx_cell BX1.out HB.out 0 (v := .int .i64 f.f0) rfl
  have hx1_1 := bx_cell BX1.out HB.out 1 (v := .int .i64 f.f1) rfl
  have hx1_2 := bx_cell BX1.out HB.out 2 (v := .slice A2 f.f2.length c2) rfl
  have hx1_3 := bx_cell BX1.out HB.out 3 (v := .slice A3 f.f3.length c3) rfl
  go_wp2_with (fail)
  refine (loops_Loops.calls kg f.f0 f.f1 A2 c2 f.f2 A3 c3 f.f3 G w3 (Kd.C_below (Kd.C_below H2.out H0.out) HB.out) L2.out (Kd.C_below (Kd.C_below H3.out H0.out) HB.out) L3.out KG.out).mono ?_
  rintro e w4 ⟨vg, rfl, hS, hb⟩
  obtain ⟨Ag, cg, rfl⟩ := Kd.S_slice hS
  have FG := Aside0.mk (Kd.R_F (Kd.R_mono (Kd.R_bound (Kd.S_R hS)) (ok' := fun k => w3.heap.size ≤ k) (fun k hk => hk.2.1)))
  have HX := Aside0.mk (Kd.R_below HV.out hb)
  have N4 := Aside0.mk hb.size
  replace HB := Aside0.mk (below_step HB.out hb)
  have HK := Aside0.mk (show ∀ k, w3.heap.size ≤ k → k < w4.heap.size → w4.heap[k]? = w4.heap[k]? from fun _ _ _ => rfl)
  clear hb hS hx1_0 hx1_1 hx1_2 hx1_3 HV
  go_wp2
  go_loopw [15] (fun v15 wr => ∃ j : Nat, j ≤ G.length ∧ v15 = .int .i64 j ∧ Aside0 (Kd.R (Kd.int .i64) 3 wr w2.heap.size (fun _ => True) (.slice (some ⟨go, 0, none⟩) f.f3.length co) ((G.take j).foldl (fun X g => g.f1.foldl incr X) (List.replicate f.f3.length 0))) ∧ Aside0 (∀ k, w3.heap.size ≤ k → k < w4.heap.size → wr.heap[k]? = w4.heap[k]?) ∧ Aside0 (w4.heap.size ≤ wr.heap.size) ∧ Aside0 (Below w2.heap.size w2 wr)) (fun v15 _ => G.length - (intOf v15).toNat)
  case atStart => exact ⟨0, Nat.zero_le _, rfl, HX, ⟨fun _ _ _ => rfl⟩, ⟨Nat.le_refl _⟩, HB⟩
  case round =>
    clear HX HK HB
    obtain ⟨j, hj, rfl, HX, HK, HZ, HB⟩ := hrel
    have hgl := GL.out
    by_cases hlt : j < G.length
    · have e0 : decide ((j : Int) < (G.length : Int)) = true := decide_eq_true (by omega)
      have p0 : 0 ≤ (j : Int) := by omega
      have q0 : (j : Int) < (G.length : Int) := by omega
      obtain ⟨ad, A1, c1, A6, c6, ex, hy0, hy1, hy2, hl1, hF⟩ := at_F (Kd.F_step FG.out (fun k hk hlt => HK.out k hk hlt)) j p0 q0
      cases ex
      rw [Int.toNat_natCast] at hy0 hy1 hy2
      rw [show rd_T44 G (j : Int) = G.getD j z44 from rfl] at hy0 hy1 hy2 hl1 hF
      have HT := Aside0.mk (foldl_take (fun X (g : S44) => g.f1.foldl incr X) z44 G (List.replicate f.f3.length 0) j hlt)
      have HQ := Aside0.mk (HR.out j hlt)
      have HXl := Aside0.mk (show ((G.take j).foldl (fun X g => g.f1.foldl incr X) (List.replicate f.f3.length 0)).length = f.f3.length by rw [depths_len, List.length_replicate])
      have HLT := Aside0.mk hlt
      generalize hgq : G.getD j z44 = gq at hy0 hy1 hy2 hl1 hF HT HQ
      generalize hXq : (G.take j).foldl (fun X g => g.f1.foldl incr X) (List.replicate f.f3.length 0) = X at HX HT HXl
      have FL := Aside0.mk hF
      have p1 := eq_true p0
      have q1 := eq_true q0
      have hql := HQ.out.1
      clear hgq hXq hF p0 q0 hlt hl1
      go_upto_region 6 with (fail)
      have hbz := below_alloc (Below.refl wr.heap.size wr) (.cells #[.int .i64 gq.f0, .slice A1 gq.f1.length c1, .slice A6 gq.f2.length c6] 44)
      generalize wr.alloc (.cells #[.int .i64 gq.f0, .slice A1 gq.f1.length c1, .slice A6 gq.f2.length c6] 44) = wz at hbz ⊢
      have HXz := Aside0.mk (Kd.R_below HX.out hbz)
      have HKz := Aside0.mk (show ∀ k, w3.heap.size ≤ k → k < w4.heap.size → wz.heap[k]? = w4.heap[k]? from fun k h1 h2 => (hbz.block k (by have := HZ.out; omega)).trans (HK.out k h1 h2))
      have HZz := Aside0.mk (show w4.heap.size ≤ wz.heap.size from Nat.le_trans HZ.out hbz.size)
      have HBz := Aside0.mk (below_step HB.out hbz)
      have FLz := Aside0.mk (Kd.F_mono (Kd.F_bound FL.out) (ok' := fun k => w3.heap.size ≤ k ∧ k < wr.heap.size) (fun k hk => hk))
      have HWZ := Aside0.mk (show wr.heap.size ≤ wz.heap.size from hbz.size)
      have FLw := Aside0.mk (Kd.F_below FLz.out hbz)
      have hwq := HK
      clear hbz HX HK HB hy0 hy1 hy2 e0 p1 q1 hgl FL FLz hj
      go_loopw [22] (fun v22 wq => ∃ q : Nat, q ≤ gq.f1.length ∧ v22 = .int .i64 q ∧ Aside0 (Kd.R (Kd.int .i64) 3 wq w2.heap.size (fun _ => True) (.slice (some ⟨go, 0, none⟩) f.f3.length co) ((gq.f1.take q).foldl incr X)) ∧ Aside0 (∀ k, w3.heap.size ≤ k → k < wz.heap.size → wq.heap[k]? = wz.heap[k]?) ∧ Aside0 (wz.heap.size ≤ wq.heap.size) ∧ Aside0 (Below w2.heap.size w2 wq)) (fun v22 _ => gq.f1.length - (intOf v22).toNat)
      case atStart => exact ⟨0, Nat.zero_le _, rfl, HXz, ⟨fun _ _ _ => rfl⟩, ⟨Nat.le_refl _⟩, HBz⟩
      case round =>
        clear HXz HBz
        obtain ⟨q, hq, rfl, HX, HK, HY, HB⟩ := hrel
        have hql := HQ.out.1
        have hn7 := HN.out
        by_cases hlt2 : q < gq.f1.length
        · have e1 : decide ((q : Int) < (gq.f1.length : Int)) = true := decide_eq_true (by omega)
          have p2 : 0 ≤ (q : Int) := by omega
          have q2 : (q : Int) < (gq.f1.length : Int) := by omega
          obtain ⟨ax, ex, hxx⟩ := Kd.at_int (Kd.F_now (Kd.F_step FLw.out (fun k hk hlt => HK.out k hk.1 hlt))) q p2 q2
          cases ex
          rw [Int.toNat_natCast] at hxx
          obtain ⟨u, eu, hu⟩ := HQ.out.2 q hlt2
          have HT2 := Aside0.mk (foldl_take incr (0 : Int) gq.f1 X q hlt2)
          rw [show rd gq.f1 (q : Int) = (u : Int) from eu] at hxx
          rw [eu] at HT2
          generalize hYq : (gq.f1.take q).foldl incr X = Y at HX HT2
          have hYl : Y.length = f.f3.length := by rw [← hYq, incrs_len]; exact HXl.out
          have hoc := own_at_of (d := (0 : Int)) (Kd.own_of_R (show Kd.R (Kd.int .i64) 3 wr w2.heap.size (fun _ => True) (.slice (some ⟨go, 0, none⟩) Y.length co) Y by rw [hYl]; exact HX.out)) (u : Int) (by omega) (by omega)
          rw [Int.toNat_natCast] at hoc
          obtain ⟨hc, hf⟩ := hoc
          have hYu : rd Y (u : Int) = Y.getD u 0 := rfl
          have HLT2 := Aside0.mk hlt2
          have p3 := eq_true p2
          have q3 := eq_true q2
          have p4 := eq_true (show 0 ≤ (u : Int) by omega)
          have q4 := eq_true (show (u : Int) < (f.f3.length : Int) by omega)
          clear hYq eu p2 q2 hlt2
          go_wp2
          go_roundw
          case rel =>
            have hgo := GO.out
            have hp := Kd.R_putn (e := 3) HX.out (u : Int) (wrap64 (rd Y (u : Int) + 1))
            exact ⟨q + 1, HLT2.out, by go_num, ⟨by rw [HT2.out]; exact hp⟩, ⟨fun k h1 h2 => (Below.heap_setCell wr _ _ k (show k ≠ go by omega)).trans (HK.out k h1 h2)⟩, ⟨by have := HY.out; simpa using this⟩, ⟨HB.out.setCell hgo.1 _⟩⟩
          case measure => have := HLT2.out; simp [intOf]; omega
        · have e1 : decide ((q : Int) < (gq.f1.length : Int)) = false := decide_eq_false (by omega)
          obtain rfl : q = gq.f1.length := by omega
          have hx := HX.out
          rw [List.take_length] at hx
          have HXX := Aside0.mk hx
          have hlt := HLT.out
          have hgl := GL.out
          clear hx HX hlt2 hq
          go_wp2
          go_roundw
          case rel => exact ⟨j + 1, hlt, by go_num, ⟨by rw [HT.out]; exact HXX.out⟩, ⟨fun k h1 h2 => (HK.out k h1 (by have := HZz.out; omega)).trans (HKz.out k h1 h2)⟩, ⟨Nat.le_trans HZz.out HY.out⟩, HB⟩
          case measure => simp [intOf]; omega
    · have e0 : decide ((j : Int) < (G.length : Int)) = false := decide_eq_false (by omega)
      obtain rfl : j = G.length := by omega
      have hx := HX.out
      rw [List.take_length] at hx
      have HXX := Aside0.mk hx
      clear hx HX HK hlt hj
      go_wp2
      go_ret
      exact ⟨_, rfl, Kd.R_lower HXX.out H0.out.size, below_step H0.out HB.out⟩
end Go.Proofs.Ytpionncanaamgaa.Lk
