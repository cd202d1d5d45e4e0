/- What a phi's check answers. Conditions: the looker stands. -/
import Derived.Test.YtckebppacealeaaDoorLb
import Derived.Deep.RegionHeld3
namespace Go.Proofs.YtckebppacealeaaDoor.Lk
open Go.RowKit Go.Proofs.YtckebppacealeaaDoorW.PrintWords Go.Proofs.YtckebppacealeaaDoorW.PrintLast Go.Proofs.YtckebppacealeaaDoorW.PrintMore Go.Proofs.YtckebppacealeaaDoorW.PrintWords.Kd Go.Proofs.YtckebppacealeaaDoor.PCodeUnlike
attribute [local go_sem] max2_int min2_int max_two min_two max_three min_three max_four min_four
set_option linter.unusedVariables false
set_option linter.unusedSimpArgs false
variable {w w1 : World} {bl : Nat} {m : List Fn} {f : Fn} {Am : Option Addr} {cm : Nat} {Ar : Option Addr} {cr : Nat} {Ab : Option Addr} {cb : Nat}
/-- A world in which all that lay in w lies. -/
structure Far (w : World) where
  wd : World
  h : Below w.heap.size w wd
instance : Inhabited (Far w) := ⟨⟨w, Below.refl _ _⟩⟩
theorem region_far {P : Program} {id : Nat} {Q : Exit → Act → World → Prop} {a : Act} {w : World} {l : List Oper} (hm : P.follows .mixedOrders = true) (hB : Region.lexB .any l.toArray = true)
    (h : wpQuiet P l.toArray (fun w' => ∃ p : Far w, w' = p.wd) (fun a' => ∀ w', (∃ p : Far w, w' = p.wd) → Q .normal a' w') l a) : (Code.region id l.toArray true).wp P Q a w :=
  wp_region_quiet (C := fun w' => ∃ p : Far w, w' = p.wd) hm hB ⟨⟨w.drewN 1, pw_below_drewN (Below.refl _ _) 1⟩, rfl⟩ (by simpa using h)
theorem far_cell {a : Addr} {v : Value} (h : w.cell? a = some v) (p : Far w) : p.wd.cell? a = some v := (p.h.cell (World.block_lt_of_cell? w _ h)).trans h
theorem Calls.far {P : Program} {g : FuncId} {args : Array Value} {p : Far w} {v : Value} (h : Calls P g args p.wd fun e w' => e = .returned v ∧ Below p.wd.heap.size p.wd w') : Calls P g args p.wd fun e w'' => e = .returned v ∧ ∃ q : Far w, w'' = q.wd :=
  h.mono fun _ w2 ⟨he, hb⟩ => ⟨he, ⟨w2, below_step p.h hb⟩, rfl⟩
theorem bx_cell {w2 wc : World} {gb : Nat} {cs : Array Value} {t : TypeId} {v : Value} (h : w2.heap[gb]? = some (.cells cs t (0, 0))) (hb : Below w2.heap.size w2 wc) (i : Nat) (hv : cs[i]? = some v) : wc.cell? ⟨gb, i, none⟩ = some v :=
  (blk_cell (blk_below h hb) i).trans hv
theorem row_of_cells {w : World} {b : Nat} {xs : List Int} (hl : xs.length < 1000) (h : ∀ (j : Nat) (v : Int), xs[j]? = some v → w.cell? ⟨b, j, none⟩ = some (.int .i64 v)) : Kd.C (Kd.int .i64) w (some ⟨b, 0, none⟩) xs.length xs := by
  refine ⟨rfl, by omega, fun _ => ⟨_, rfl, fun j p hj => ⟨[.int .i64 p], rfl, rfl, fun i u hu => ?_⟩⟩⟩
  match i, hu with
  | 0, hu =>
    obtain rfl := Option.some.inj hu
    have := h j p hj
    show w.cell? (Addr.add ⟨b, 0, none⟩ (j * 1 + 0)) = _
    rw [Nat.mul_one, Nat.add_zero, show (Addr.add ⟨b, 0, none⟩ j) = ⟨b, j, none⟩ by cases j <;> simp [Addr.add]]
    exact this
theorem row_new (w : World) (xs : List Int) (hl : xs.length < 1000) (t : TypeId) : Kd.C (Kd.int .i64) (w.alloc (.cells (xs.map (Value.int .i64)).toArray t)) (some ⟨w.heap.size, 0, none⟩) xs.length xs :=
  row_of_cells hl fun j v hj => (blk_cell (blk_new w _) j).trans (by simp [hj])
theorem hasB_one (f : Fn) (r : Int) : hasB f [r] = !hasP f r := by simp [hasB]
def phiE (f : Fn) (p : Ph) : Option Int := if hasB f [p.f0] then (if hasB f p.f1 then (if areB f (rd f.f2 p.f0) p.f1 then none else some 3) else some 4) else some 4
set_option maxHeartbeats 4000000 in
set_option maxRecDepth 100000 in
theorem phi_any (h : Lk w bl m f Am cm Ar cr Ab cb) (p : Ph) (A : Option Addr) (c : Nat) (hr : Kd.C (Kd.int .i64) w A p.f1.length p.f1) :
    Calls Tryd.prog 77 #[.pointer (some ⟨bl, 0, none⟩), .agg #[.int .i64 p.f0, .slice A p.f1.length c]] w fun e w' => e = .returned (errW (phiE f p)) ∧ Below w.heap.size w w' := by
  have HL := Aside0.mk h
  have HR := Aside0.mk hr
  clear h hr
  obtain ⟨x, l⟩ := p
  unfold phiE
  dsimp only at *
  cases h1 : hasB f [x] with
  | false =>
    have H1 := Aside0.mk h1
    clear h1
    go_enter Tryd.func77, Tryd.ntmps77
    go_wp2_with ((with_reducible refine gate_dst (N := 3) rfl ?_); refine box_event ?hg (N := 3) ?hd (cs := #[.int .i64 x, .slice A l.length c]) (t := 60) ?hr ?_; (case hd => rfl); (case hg => rfl); (case hr => first | (go_simp; done) | (go_simp; rfl)); intro gb3 hg w2 hbox hb; have BX3 := Aside0.mk hbox; have H0 := Aside0.mk hb; have HG3 := Aside0.mk hg; have HB := Aside0.mk (Below.refl w2.heap.size w2); clear hbox hb hg; have hx3_0 : w2.cell? ⟨gb3, 0, none⟩ = some (.int .i64 x) := (blk_cell BX3.out 0).trans rfl; have hx3_1 : w2.cell? ⟨gb3, 1, none⟩ = some (.slice A l.length c) := (blk_cell BX3.out 1).trans rfl)
    refine (has_any ((HL.out.below H0.out).below (below_alloc (Below.refl _ _) _)) [x] _ _ (row_new w2 [x] (by simp) _)).mono ?_
    rw [H1.out]
    rintro e w3 ⟨rfl, hb⟩
    have HB := Aside0.mk (below_step (below_alloc HB.out _) hb)
    clear hb
    go_wp2
    go_ret
    exact ⟨rfl, below_step H0.out HB.out⟩
  | true =>
    have H1 := Aside0.mk h1
    have hh := h1
    rw [hasB_one] at hh
    have hp : hasP f x = false := by simpa using hh
    unfold hasP at hp
    have p0 : 0 ≤ x := by simp at hp; omega
    have q0 : x < (f.f2.length : Int) := by simp at hp; omega
    have P0 := Aside0.mk p0
    have Q0 := Aside0.mk q0
    clear h1 hh hp p0 q0
    have key : ∀ h2, hasB f l = h2 → ∀ h3, areB f (rd f.f2 x) l = h3 → Calls Tryd.prog 77 #[.pointer (some ⟨bl, 0, none⟩), .agg #[.int .i64 x, .slice A l.length c]] w fun e w' => e = .returned (errW (if h2 = true then (if h3 = true then none else some 3) else some 4)) ∧ Below w.heap.size w w' := by
      intro h2 e2 h3 e3
      have H2 := Aside0.mk e2
      have H3 := Aside0.mk e3
      clear e2 e3
      go_enter Tryd.func77, Tryd.ntmps77
      go_wp2_with ((with_reducible refine gate_dst (N := 3) rfl ?_); refine box_event ?hg (N := 3) ?hd (cs := #[.int .i64 x, .slice A l.length c]) (t := 60) ?hr ?_; (case hd => rfl); (case hg => rfl); (case hr => first | (go_simp; done) | (go_simp; rfl)); intro gb3 hg w2 hbox hb; have BX3 := Aside0.mk hbox; have H0 := Aside0.mk hb; have HG3 := Aside0.mk hg; have HB := Aside0.mk (Below.refl w2.heap.size w2); clear hbox hb hg; have hx3_0 : w2.cell? ⟨gb3, 0, none⟩ = some (.int .i64 x) := (blk_cell BX3.out 0).trans rfl; have hx3_1 : w2.cell? ⟨gb3, 1, none⟩ = some (.slice A l.length c) := (blk_cell BX3.out 1).trans rfl)
      refine (has_any ((HL.out.below H0.out).below (below_alloc (Below.refl _ _) _)) [x] _ _ (row_new w2 [x] (by simp) _)).mono ?_
      rw [H1.out]
      rintro e w3 ⟨rfl, hb⟩
      have HB := Aside0.mk (below_step (below_alloc HB.out _) hb)
      clear hb
      have hx3_0 := bx_cell BX3.out HB.out 0 (v := .int .i64 x) rfl
      have hx3_1 := bx_cell BX3.out HB.out 1 (v := .slice A l.length c) rfl
      go_wp2_with (fail)
      refine (has_any ((HL.out.below H0.out).below HB.out) l _ _ (Kd.C_below (Kd.C_below HR.out H0.out) HB.out)).mono ?_
      rw [H2.out]
      rintro e w4 ⟨rfl, hb⟩
      have HB := Aside0.mk (below_step HB.out hb)
      clear hb
      cases h2 with
      | false =>
        go_wp2
        go_ret
        exact ⟨rfl, below_step H0.out HB.out⟩
      | true =>
        have hx3_0 := bx_cell BX3.out HB.out 0 (v := .int .i64 x) rfl
        have hx3_1 := bx_cell BX3.out HB.out 1 (v := .slice A l.length c) rfl
        have hl4 := ((HL.out.below H0.out).below HB.out)
        have hc := (blk_cell hl4.blk 3).trans (show _ = some (.slice Ar f.f2.length cr) from rfl)
        obtain ⟨ad, e1, hx⟩ := Kd.at_int hl4.regs x P0.out Q0.out
        cases e1
        have f0 := far_cell hx3_0
        have f1 := far_cell hx3_1
        have f2 := far_cell hc
        have f3 := far_cell hx
        have p1 := eq_true P0.out
        have q1 := eq_true Q0.out
        clear hl4 hx3_0 hx3_1 hc hx
        go_wp2_with (fail)
        refine region_far (by kernel_rfl) (by kernel_rfl) ?_
        repeat (quiet_step ((go_at_call 84; refine Calls.far (are_any (((HL.out.below H0.out).below HB.out).below (Far.h _)) _ l _ _ (Kd.C_below (Kd.C_below (Kd.C_below HR.out H0.out) HB.out) (Far.h _)) H2.out))))
        refine wpQuiet_nil ?_
        rintro _ ⟨⟨w5, hb⟩, rfl⟩
        rw [H3.out]
        have HB := Aside0.mk (below_step HB.out hb)
        clear hb f0 f1 f2 f3
        cases h3
        all_goals
          go_wp2
          go_ret
          exact ⟨rfl, below_step H0.out HB.out⟩
    exact key _ rfl _ rfl
end Go.Proofs.YtckebppacealeaaDoor.Lk
