/- The checker's looker in memory, and what has and are answer. Conditions: registers that are asked for by 'are' are there. -/
import Derived.Test.YtckebppacealeaaDoorLa
import Derived.WalkSpells
namespace Go.Proofs.YtckebppacealeaaDoor.Lk
open Go.RowKit Go.Proofs.YtckebppacealeaaDoorW.PrintWords Go.Proofs.YtckebppacealeaaDoorW.PrintLast Go.Proofs.YtckebppacealeaaDoorW.PrintMore Go.Proofs.YtckebppacealeaaDoorW.PrintWords.Kd Go.Proofs.YtckebppacealeaaDoor.PCodeUnlike
attribute [local go_sem] max2_int min2_int max_two min_two max_three min_three max_four min_four
set_option linter.unusedVariables false
set_option linter.unusedSimpArgs false
abbrev Fn := S50
abbrev Bk := S56
abbrev In := S58
abbrev Ph := S60
abbrev Tm := S54
/-- A looker at block bl: of the module m, at its function f. -/
structure Lk (w : World) (bl : Nat) (m : List Fn) (f : Fn) (Am : Option Addr) (cm : Nat) (Ar : Option Addr) (cr : Nat) (Ab : Option Addr) (cb : Nat) : Prop where
  blk : w.heap[bl]? = some (.cells #[.slice Am m.length cm, .int .i64 f.f0, .int .i64 f.f1, .slice Ar f.f2.length cr, .slice Ab f.f3.length cb] 120 (0, 0))
  mods : Kd.C k50 w Am m.length m
  regs : Kd.C (Kd.int .i64) w Ar f.f2.length f.f2
  blocks : Kd.C k56 w Ab f.f3.length f.f3
  cm : m.length ≤ cm
  cr : f.f2.length ≤ cr
  cb : f.f3.length ≤ cb
variable {w w1 : World} {bl : Nat} {m : List Fn} {f : Fn} {Am : Option Addr} {cm : Nat} {Ar : Option Addr} {cr : Nat} {Ab : Option Addr} {cb : Nat}
theorem Lk.below (h : Lk w bl m f Am cm Ar cr Ab cb) (hb : Below w.heap.size w w1) : Lk w1 bl m f Am cm Ar cr Ab cb :=
  ⟨blk_below h.blk hb, Kd.C_below h.mods hb, Kd.C_below h.regs hb, Kd.C_below h.blocks hb, h.cm, h.cr, h.cb⟩
theorem Lk.lt (h : Lk w bl m f Am cm Ar cr Ab cb) : bl < w.heap.size := blk_lt h.blk
def hasP (f : Fn) (r : Int) : Bool := decide (r < 0) || decide ((f.f2.length : Int) ≤ r)
def hasB (f : Fn) (rs : List Int) : Bool := !(rs.any (hasP f))
def areP (f : Fn) (t r : Int) : Bool := !(rd f.f2 r == t)
def areB (f : Fn) (t : Int) (rs : List Int) : Bool := !(rs.any (areP f t))
theorem one_new (w : World) (v : Value) (t : TypeId) : (w.alloc (.cells #[v] t)).cell? ⟨w.heap.size, 0, none⟩ = some v := (blk_cell (blk_new w (.cells #[v] t)) 0).trans rfl
set_option maxHeartbeats 4000000 in
theorem has1_any (h : Lk w bl m f Am cm Ar cr Ab cb) (B : Nat) (hB : w.cell? ⟨B, 0, none⟩ = some (.pointer (some ⟨bl, 0, none⟩))) (r : Int) :
    Calls Tryd.prog 87 #[.int .i64 r, .pointer (some ⟨B, 0, none⟩)] w fun e w' => e = .returned (.bool (hasP f r)) ∧ Below w.heap.size w w' := by
  have HB := Aside0.mk (Below.refl w.heap.size w)
  have hc := (blk_cell h.blk 3).trans (show _ = some (.slice Ar f.f2.length cr) from rfl)
  clear h
  unfold hasP
  by_cases c1 : r < 0
  · have d1 : decide (r < 0) = true := decide_eq_true c1
    go_enter Tryd.func87, Tryd.ntmps87
    go_wp2
    go_ret
    exact ⟨by simp [d1], HB.out⟩
  · have d1 : decide (r < 0) = false := decide_eq_false c1
    go_enter Tryd.func87, Tryd.ntmps87
    go_wp2
    go_ret
    exact ⟨by simp [d1], HB.out⟩
set_option maxHeartbeats 4000000 in
theorem has_any (h : Lk w bl m f Am cm Ar cr Ab cb) (rs : List Int) (A : Option Addr) (c : Nat) (hr : Kd.C (Kd.int .i64) w A rs.length rs) :
    Calls Tryd.prog 83 #[.pointer (some ⟨bl, 0, none⟩), .slice A rs.length c] w fun e w' => e = .returned (.bool (hasB f rs)) ∧ Below w.heap.size w w' := by
  have eg : ∀ args w, (callFunc 87 args).run Tryd.prog w = .ok (.enter 87 args) w := enters_of Tryd.func87 (by kernel_rfl) rfl
  have HB := Aside0.mk (below_alloc (Below.refl w.heap.size w) (.cells #[.pointer (some ⟨bl, 0, none⟩)] 118))
  have hcon := containsF_any 87 #[.pointer (some ⟨w.heap.size, 0, none⟩)] eg rs A c (hasP f) (w.alloc (.cells #[.pointer (some ⟨bl, 0, none⟩)] 118)) (Kd.C_below hr HB.out)
    (fun x _ W hW => has1_any ((h.below HB.out).below hW) w.heap.size ((hW.cell (p := ⟨w.heap.size, 0, none⟩) (by simp)).trans (one_new w _ _)) x)
  clear h hr eg
  unfold hasB
  go_enter Tryd.func83, Tryd.ntmps83
  go_wp2_with (go_at_call 75; refine hcon.mono ?_; rintro e w' ⟨rfl, hb⟩; have HB2 := Aside0.mk hb; clear hb)
  go_ret
  exact ⟨rfl, below_step HB.out HB2.out⟩
set_option maxHeartbeats 4000000 in
theorem are1_any (h : Lk w bl m f Am cm Ar cr Ab cb) (B C : Nat) (t : Int) (hB : w.cell? ⟨B, 0, none⟩ = some (.pointer (some ⟨bl, 0, none⟩))) (hC : w.cell? ⟨C, 0, none⟩ = some (.int .i64 t)) (r : Int) (hr : hasP f r = false) :
    Calls Tryd.prog 88 #[.int .i64 r, .pointer (some ⟨B, 0, none⟩), .pointer (some ⟨C, 0, none⟩)] w fun e w' => e = .returned (.bool (areP f t r)) ∧ Below w.heap.size w w' := by
  have HB := Aside0.mk (Below.refl w.heap.size w)
  have hc := (blk_cell h.blk 3).trans (show _ = some (.slice Ar f.f2.length cr) from rfl)
  unfold hasP at hr
  have p0 : 0 ≤ r := by simp at hr; omega
  have q0 : r < (f.f2.length : Int) := by simp at hr; omega
  obtain ⟨ad, e1, hx⟩ := Kd.at_int h.regs r p0 q0
  cases e1
  have p1 := eq_true p0
  have q1 := eq_true q0
  clear h hr
  unfold areP
  generalize rd f.f2 r = y at *
  go_enter Tryd.func88, Tryd.ntmps88
  go_wp2
  go_quiet (fail)
  go_wp2
  go_ret
  exact ⟨by cases h : y == t <;> simp_all, pw_below_drewN HB.out _⟩
set_option maxHeartbeats 4000000 in
theorem are_any (h : Lk w bl m f Am cm Ar cr Ab cb) (t : Int) (rs : List Int) (A : Option Addr) (c : Nat) (hr : Kd.C (Kd.int .i64) w A rs.length rs) (hh : hasB f rs = true) :
    Calls Tryd.prog 84 #[.pointer (some ⟨bl, 0, none⟩), .int .i64 t, .slice A rs.length c] w fun e w' => e = .returned (.bool (areB f t rs)) ∧ Below w.heap.size w w' := by
  have eg : ∀ args w, (callFunc 88 args).run Tryd.prog w = .ok (.enter 88 args) w := enters_of Tryd.func88 (by kernel_rfl) rfl
  have HB1 := below_alloc (Below.refl w.heap.size w) (.cells #[.pointer (some ⟨bl, 0, none⟩)] 118)
  have HB := Aside0.mk (below_alloc HB1 (.cells #[.int .i64 t] 3))
  have hn : ∀ x, x ∈ rs → hasP f x = false := fun x hx => by
    cases e : hasP f x
    · rfl
    · have := List.any_eq_true.mpr ⟨x, hx, e⟩
      unfold hasB at hh
      rw [this] at hh
      exact absurd hh (by simp)
  have hs : (w.alloc (.cells #[.pointer (some ⟨bl, 0, none⟩)] 118)).heap.size = w.heap.size + 1 := by simp
  have hcon := containsF_any 88 #[.pointer (some ⟨w.heap.size, 0, none⟩), .pointer (some ⟨w.heap.size + 1, 0, none⟩)] eg rs A c (areP f t) ((w.alloc (.cells #[.pointer (some ⟨bl, 0, none⟩)] 118)).alloc (.cells #[.int .i64 t] 3)) (Kd.C_below hr HB.out)
    (fun x hx W hW => are1_any ((h.below HB.out).below hW) w.heap.size (w.heap.size + 1) t ((hW.cell (p := ⟨w.heap.size, 0, none⟩) (by simp; omega)).trans ((below_alloc (Below.refl _ _) _).cell (p := ⟨w.heap.size, 0, none⟩) (by simp) |>.trans (one_new w _ _))) ((hW.cell (p := ⟨w.heap.size + 1, 0, none⟩) (by simp)).trans (by have := one_new (w.alloc (.cells #[.pointer (some ⟨bl, 0, none⟩)] 118)) (.int .i64 t) 3; rw [hs] at this; exact this)) x (hn x hx))
  clear h hr eg hh hn hs HB1
  unfold areB
  go_enter Tryd.func84, Tryd.ntmps84
  go_wp2_with (go_at_call 75; refine hcon.mono ?_; rintro e w' ⟨rfl, hb⟩; have HB2 := Aside0.mk hb; clear hb)
  go_ret
  exact ⟨rfl, below_step HB.out HB2.out⟩
end Go.Proofs.YtckebppacealeaaDoor.Lk
