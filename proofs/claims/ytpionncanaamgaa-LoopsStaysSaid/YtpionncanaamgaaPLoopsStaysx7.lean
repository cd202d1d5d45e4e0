-- Laid by a program of this session (wip/pp/patch.py over the kit's print).
import Derived.Test.YtpionncanaamgaaUp
import Derived.Test.YtpionncanaamgaaPLoopsStaysx0
import Derived.Test.YtpionncanaamgaaPLoopsStaysx6
namespace Go.Proofs.Ytpionncanaamgaa.PLoopsStays
open Go.Proofs.Ytpionncanaamgaa.Up Go.RowKit Go.Proofs.YtpionncanaamgaaW.PrintWords Go.Proofs.YtpionncanaamgaaW.PrintLast Go.Proofs.YtpionncanaamgaaW.PrintMore Go.Proofs.YtpionncanaamgaaW.PrintWords.Kd
attribute [local go_sem] max2_int min2_int max_two min_two max_three min_three max_four min_four   -- for this text's walks alone
set_option linter.unusedVariables false
set_option linter.unusedSimpArgs false
/-! ### graph_order: function 42 (by hand: its literal 'visit', function 44, calls itself) -/
mutual
def graph_visit.f : Nat → List (List Int) → Int → List Bool → List Int → Option (List Bool × List Int)
  | 0, _, _, _, _ => none
  | k + 1, next, b, seen, out => if 0 ≤ b then (if b < (seen.length : Int) then (if b < (next.length : Int) then graph_visit.l k next b (rd_L1 next b) 0 (seen.set b.toNat true) out else none) else none) else none
def graph_visit.l : Nat → List (List Int) → Int → List Int → Nat → List Bool → List Int → Option (List Bool × List Int)
  | 0, _, _, _, _, _, _ => none
  | k + 1, next, b, l, i, seen, out =>
    if i < l.length then
      (if 0 ≤ rd l i then
        (if rd l i < (seen.length : Int) then
          (if rdOf false seen (rd l i) = true then graph_visit.l k next b l (i + 1) seen out
          else (graph_visit.f k next (rd l i) seen out).bind fun p => graph_visit.l k next b l (i + 1) p.1 p.2)
        else none)
      else none)
    else if out.length < 17592186044415 then some (seen, out ++ [b]) else none
end
theorem graph_visit.mono_l : ∀ k, (∀ next b seen out, LeO (graph_visit.f k next b seen out) (graph_visit.f (k + 1) next b seen out)) ∧
    (∀ next b l i seen out, LeO (graph_visit.l k next b l i seen out) (graph_visit.l (k + 1) next b l i seen out))
  | 0 => ⟨fun _ _ _ _ r h => by simp [graph_visit.f] at h, fun _ _ _ _ _ _ r h => by simp [graph_visit.l] at h⟩
  | k + 1 => by
    obtain ⟨ih0, ih1⟩ := graph_visit.mono_l k
    refine ⟨?_, ?_⟩
    · intro next b seen out
      rw [graph_visit.f, graph_visit.f]
      repeat' first
      | (with_reducible exact ih1 _ _ _ _ _ _)
      | (with_reducible exact LeO.none _)
      | (with_reducible refine LeO.ite ?_ ?_)
    · intro next b l i seen out
      rw [graph_visit.l, graph_visit.l]
      repeat' first
      | (with_reducible exact ih1 _ _ _ _ _ _)
      | (with_reducible exact ih0 _ _ _ _)
      | (with_reducible exact LeO.none _)
      | (with_reducible exact LeO.refl _)
      | (with_reducible refine LeO.ite ?_ ?_)
      | (with_reducible refine LeO.bind ?_ (fun _ => ?_))
/-- What holds of the world while 'visit' goes on: w1 is the world behind Next; the four captured variables' blocks; the row of what is seen, the row that grows. -/
structure VisitInv (w1 : World) (bs bn bv bo gs cs n : Nat) (An : Option Addr) (cn : Nat) (next : List (List Int)) (seen : List Bool) (out : List Int) (w : World) : Prop where
  below : Below w1.heap.size w1 w
  size : w1.heap.size ≤ w.heap.size
  len : seen.length = n
  reads : Kd.C (Kd.slice 3 (Kd.int .i64)) w1 An next.length next
  ge : w1.heap.size ≤ bs ∧ w1.heap.size ≤ bn ∧ w1.heap.size ≤ bv ∧ w1.heap.size ≤ bo ∧ w1.heap.size ≤ gs
  hs : w.heap[bs]? = some (.cells #[.slice (some ⟨gs, 0, none⟩) n cs] 34 (0, 0))
  hn : w.heap[bn]? = some (.cells #[.slice An next.length cn] 28 (0, 0))
  hv : w.heap[bv]? = some (.cells #[.func (.func 44) #[] #[.pointer (some ⟨bs, 0, none⟩), .pointer (some ⟨bn, 0, none⟩), .pointer (some ⟨bv, 0, none⟩), .pointer (some ⟨bo, 0, none⟩)]] 74 (0, 0))
  ho : ∃ v, w.heap[bo]? = some (.cells #[v] 22 (0, 0)) ∧ w.ownsRow w1.heap.size 3 1 v out.length (nums .i64 out)
  row : Kd.R Kd.bool 4 w w1.heap.size (fun _ => True) (.slice (some ⟨gs, 0, none⟩) n cs) seen
theorem type_ne {w : World} {a b : Nat} {x y : Array Value} {s t : TypeId} {p q : Nat × Nat} (h : w.heap[a]? = some (.cells x s p)) (g : w.heap[b]? = some (.cells y t q)) (hne : s ≠ t) : a ≠ b := by
  rintro rfl
  rw [h] at g
  injection g with g
  injection g with _ g
  exact hne g
section
variable {w1 w : World} {bs bn bv bo gs cs n : Nat} {An : Option Addr} {cn : Nat} {next : List (List Int)} {seen : List Bool} {out : List Int}
theorem VisitInv.reads_at (h : VisitInv w1 bs bn bv bo gs cs n An cn next seen out w) : Kd.C (Kd.slice 3 (Kd.int .i64)) w An next.length next := Kd.C_below h.reads h.below
theorem VisitInv.rowtype (h : VisitInv w1 bs bn bv bo gs cs n An cn next seen out w) (hn : 0 < n) : ∃ cells, w.heap[gs]? = some (.cells cells 4 (0, 0)) := by
  obtain ⟨g, cap, he, _, _, cells, hc⟩ := Kd.R_form h.row (by rw [h.len]; exact hn)
  injection he with he
  injection he with he
  injection he with he
  subst he
  exact ⟨cells, hc⟩
/-- A place of what is seen is written. -/
theorem VisitInv.mark (h : VisitInv w1 bs bn bv bo gs cs n An cn next seen out w) (i : Int) (h0 : 0 ≤ i) (h1 : i < n) :
    VisitInv w1 bs bn bv bo gs cs n An cn next (seen.set i.toNat true) out (w.setCell ⟨gs, i.toNat, none⟩ (.bool true)) := by
  obtain ⟨cells, hg⟩ := h.rowtype (by omega)
  obtain ⟨v, ho, hrow⟩ := h.ho
  refine ⟨h.below.setCell h.ge.2.2.2.2 _, by simpa using h.size, by rw [List.length_set]; exact h.len, h.reads, h.ge, ?_, ?_, ?_, ⟨v, ?_, ?_⟩, ?_⟩
  · rw [Below.heap_setCell _ _ _ _ (type_ne h.hs hg (by decide))]; exact h.hs
  · rw [Below.heap_setCell _ _ _ _ (type_ne h.hn hg (by decide))]; exact h.hn
  · rw [Below.heap_setCell _ _ _ _ (type_ne h.hv hg (by decide))]; exact h.hv
  · rw [Below.heap_setCell _ _ _ _ (type_ne ho hg (by decide))]; exact ho
  · refine ownsRow_setCell_other hrow (fun e => ?_) _
    obtain ⟨cs', hc'⟩ := own_typed hrow gs e
    exact type_ne hc' hg (by decide) rfl
  · exact Kd.R_putn h.row i true
end
theorem int_own {w : World} {base n : Nat} {v : Value} {xs : List Int} (h : w.ownsRow base 3 1 v n (nums .i64 xs)) : n = xs.length := by
  have := h.1
  rw [nums_length] at this
  omega
section
variable {w1 w : World} {bs bn bv bo gs cs n : Nat} {An : Option Addr} {cn : Nat} {next : List (List Int)} {seen : List Bool} {out : List Int}
/-- What is out has grown by one. -/
theorem VisitInv.grew {W w2 : World} {v v2 : Value} {x : Int} (h : VisitInv w1 bs bn bv bo gs cs n An cn next seen out W)
    (ho : W.heap[bo]? = some (.cells #[v] 22 (0, 0))) (hrow : W.ownsRow w1.heap.size 3 1 v out.length (nums .i64 out))
    (hown : w2.ownsRow w1.heap.size 3 1 v2 (out ++ [x]).length (nums .i64 (out ++ [x]))) (hB : Below w1.heap.size w1 w2) (hg : W.grownBy w2 v.ownBlock) :
    VisitInv w1 bs bn bv bo gs cs n An cn next seen (out ++ [x]) (w2.setCell ⟨bo, 0, none⟩ v2) ∧ w2.heap[bo]? = some (.cells #[v] 22 (0, 0)) := by
  have ne : ∀ {b : Nat} {y : Array Value} {t : TypeId}, W.heap[b]? = some (.cells y t (0, 0)) → t ≠ 3 → some b ≠ v.ownBlock := by
    intro b y t hb ht e
    obtain ⟨cs', hc'⟩ := own_typed hrow b e.symm
    exact type_ne hc' hb (fun z => ht z.symm) rfl
  have keep : ∀ {b : Nat} {y : Array Value} {t : TypeId}, W.heap[b]? = some (.cells y t (0, 0)) → t ≠ 3 → w2.heap[b]? = some (.cells y t (0, 0)) := by
    intro b y t hb ht
    exact (hg.block b (lt_of_block hb) (ne hb ht)).trans hb
  have ho2 := keep ho (by decide)
  refine ⟨⟨hB.setCell h.ge.2.2.2.1 _, ?_, h.len, h.reads, h.ge, ?_, ?_, ?_, ⟨v2, one_setCell ho2, ?_⟩, ?_⟩, ho2⟩
  · have := hg.size
    have := h.size
    simp; omega
  · rw [Below.heap_setCell _ _ _ _ (type_ne h.hs ho (by decide))]; exact keep h.hs (by decide)
  · rw [Below.heap_setCell _ _ _ _ (type_ne h.hn ho (by decide))]; exact keep h.hn (by decide)
  · rw [Below.heap_setCell _ _ _ _ (type_ne h.hv ho (by decide))]; exact keep h.hv (by decide)
  · refine ownsRow_setCell_other hown (fun e => ?_) _
    obtain ⟨cs', hc'⟩ := own_typed hown bo e
    exact type_ne hc' ho2 (by decide) rfl
  · have h1 : Kd.R Kd.bool 4 w2 w1.heap.size (fun k_ => True ∧ ∃ cells, W.heap[k_]? = some (.cells cells 4 (0, 0))) (.slice (some ⟨gs, 0, none⟩) n cs) seen := by
      refine Kd.R_step (Kd.R_mono (Kd.R_bound h.row) (fun k_ hk => ⟨trivial, ?_⟩)) (fun k_ hk hlt => hg.block k_ hlt ?_)
      · obtain ⟨_, _, _, q, hq, hc⟩ := hk
        rw [show q = 4 by simpa [Kd.bool, Kd.scalar] using hq] at hc
        exact hc
      · obtain ⟨_, cells, hc⟩ := hk
        exact ne hc (by decide)
    have h2 : Kd.R Kd.bool 4 (w2.setCell ⟨bo, 0, none⟩ v2) w1.heap.size (fun k_ => True ∧ ∃ cells, W.heap[k_]? = some (.cells cells 4 (0, 0))) (.slice (some ⟨gs, 0, none⟩) n cs) seen :=
      Kd.R_far h1 (p := ⟨bo, 0, none⟩) (fun k_ hk e => by
        obtain ⟨_, cells, hc⟩ := hk
        exact type_ne hc ho (by decide) e) v2
    exact Kd.R_mono h2 (fun _ _ => trivial)
end
set_option maxHeartbeats 4000000 in
set_option maxRecDepth 100000 in
theorem graph_visit.calls (w1 : World) (bs bn bv bo gs cs n : Nat) (An : Option Addr) (cn : Nat) (next : List (List Int)) (k : Nat) :
    ∀ (b : Int) (seen : List Bool) (out : List Int) (r : List Bool × List Int) (w : World), VisitInv w1 bs bn bv bo gs cs n An cn next seen out w → graph_visit.f k next b seen out = some r →
    Calls Try.prog 44 #[.int .i64 b, .pointer (some ⟨bs, 0, none⟩), .pointer (some ⟨bn, 0, none⟩), .pointer (some ⟨bv, 0, none⟩), .pointer (some ⟨bo, 0, none⟩)] w
      fun e w' => e = .returned (.tuple #[]) ∧ VisitInv w1 bs bn bv bo gs cs n An cn next r.1 r.2 w' := by
  induction k using Nat.strongRecOn with
  | _ k ih =>
  intro b seen out r w hI h
  cases k with
  | zero => exact absurd h (by simp [graph_visit.f])
  | succ k =>
  rw [graph_visit.f] at h
  by_cases c0 : 0 ≤ b
  · by_cases c1 : b < (seen.length : Int)
    · by_cases c2 : b < (next.length : Int)
      · rw [if_pos c0, if_pos c1, if_pos c2] at h
        have H := Aside0.mk h
        clear h
        have hlen := hI.len
        have c1n : b < (n : Int) := by omega
        clear hlen
        have HI := Aside0.mk hI
        have cS := cell_of_one hI.hs
        obtain ⟨hx, hf⟩ := Kd.R_celln false hI.row b c0 c1n
        clear hI
        have C1 := Aside0.mk c1
        have d0 : decide (0 ≤ b) = true := decide_eq_true c0
        have d1 : decide (b < (n : Int)) = true := decide_eq_true c1n
        go_enter Try.func44, Try.ntmps44
        go_upto_region 0 with (fail)
        go_cut [] (fun wc => Aside0 (VisitInv w1 bs bn bv bo gs cs n An cn next (seen.set b.toNat true) out wc))
        case first =>
          go_wp2
          go_meet
          case rel => exact ⟨HI.out.mark b c0 c1n⟩
        case rest =>
          clear HI cS hx hf d0 d1
          have HI := hcut
          clear hcut
          have hI := HI.out
          have cN := cell_of_one hI.hn
          obtain ⟨ad, A0, c0', e0, hx1, hl0, hr0⟩ := at_L1 hI.reads b c0 c2
          subst e0
          have hx0 := (hI.below.cell (World.block_lt_of_cell? w1 _ hx1)).trans hx1
          have HX1 := Aside0.mk hx1
          have HR := Aside0.mk hr0
          have hlen : (rd_L1 next b).length ≤ 9223372036854775807 := hr0.2.1
          clear hr0 hl0 hI hx1 C1
          have d0 : decide (0 ≤ b) = true := decide_eq_true c0
          have d2 : decide (b < (next.length : Int)) = true := decide_eq_true c2
          go_wp2
          have hi0 : VisitInv w1 bs bn bv bo gs cs n (some ad) cn next (seen.set b.toNat true) out wc := HI.out
          clear cN hx0 HI d0 d2
          have HI := Aside0.mk hi0
          clear hi0
          go_loopg [16] k (fun kq v16 w' => ∃ (i : Nat) (seen' : List Bool) (out' : List Int), v16 = .int .i64 i ∧ Aside0 (graph_visit.l kq next b (rd_L1 next b) i seen' out' = some r) ∧ Aside0 (kq ≤ k) ∧ Aside0 (VisitInv w1 bs bn bv bo gs cs n (some ad) cn next seen' out' w'))
          case atStart => exact ⟨0, _, _, rfl, H, ⟨Nat.le_refl _⟩, HI⟩
          case round =>
            clear H HI
            obtain ⟨i, seen', out', rfl, HA, HK, HI⟩ := hrel
            cases gk with
            | zero => exact absurd HA.out (by simp [graph_visit.l])
            | succ k1 =>
              have H := HA.out
              clear HA
              rw [graph_visit.l] at H
              have hI := HI.out
              by_cases ci : i < (rd_L1 next b).length
              · rw [if_pos ci] at H
                by_cases t0 : 0 ≤ rd (rd_L1 next b) (i : Int)
                · rw [if_pos t0] at H
                  by_cases t1 : rd (rd_L1 next b) (i : Int) < (seen'.length : Int)
                  · rw [if_pos t1] at H
                    have hln := hI.len
                    have t1n : rd (rd_L1 next b) (i : Int) < (n : Int) := by omega
                    clear hln
                    have T1 := Aside0.mk t1
                    clear t1
                    obtain ⟨al, el, hxl⟩ := Kd.at_int (Kd.C_below HR.out hI.below) (i : Int) (by omega) (by omega)
                    subst el
                    rw [Int.toNat_natCast] at hxl
                    have cS := cell_of_one hI.hs
                    have cV := cell_of_one hI.hv
                    have HX := Kd.R_celln false hI.row (rd (rd_L1 next b) (i : Int)) t0 t1n
                    have hx := HX.1
                    clear HX hI
                    have e0 : decide (0 ≤ rd (rd_L1 next b) (i : Int)) = true := decide_eq_true t0
                    have e1 : decide (rd (rd_L1 next b) (i : Int) < (n : Int)) = true := decide_eq_true t1n
                    by_cases hb : rdOf false seen' (rd (rd_L1 next b) (i : Int)) = true
                    · rw [if_pos hb] at H
                      have H' := Aside0.mk H
                      clear H
                      go_wp2
                      go_roundg k1
                      case measure => have := HK.out; omega
                      case rel => exact ⟨i + 1, seen', out', by go_num, H', ⟨by have := HK.out; omega⟩, HI⟩
                    · rw [if_neg hb] at H
                      replace hb := Bool.eq_false_iff.mpr hb
                      obtain ⟨p, hp, H2⟩ := Option.bind_eq_some_iff.mp H
                      have H' := Aside0.mk H2
                      have HP := Aside0.mk hp
                      clear H H2 hp
                      go_wp2_with (go_at_call 44; refine (ih k1 (by have := HK.out; omega) (rd (rd_L1 next b) (i : Int)) seen' out' p _ HI.out HP.out).mono ?_; rintro e w' ⟨rfl, hI2⟩; have HI2 := Aside0.mk hI2; clear hI2)
                      go_roundg k1
                      case measure => have := HK.out; omega
                      case rel => exact ⟨i + 1, p.1, p.2, by go_num, H', ⟨by have := HK.out; omega⟩, HI2⟩
                  · rw [if_neg t1] at H
                    exact absurd H (by simp)
                · rw [if_neg t0] at H
                  exact absurd H (by simp)
              · rw [if_neg ci] at H
                by_cases co : out'.length < 17592186044415
                · rw [if_pos co] at H
                  obtain rfl := Option.some.inj H
                  obtain ⟨vo, ho, hrow⟩ := hI.ho
                  have cO := cell_of_one ho
                  have fO := free_of_one ho
                  have HO := Aside0.mk ho
                  have HR0 := Aside0.mk hrow
                  have CO := Aside0.mk co
                  have HB := Aside0.mk hI.below
                  have HZ := Aside0.mk hI.size
                  clear H hI ho hrow co
                  go_wp2_with (at_builtin; refine print_append_num (w0 := w1) w1.heap.size rfl (.tmp 29) (.tmp 31) 22 3 .i64 8 rfl Try.underlying22 info3 (by decide) vo out' b rfl rfl HR0.out HB.out HZ.out (by have := CO.out; omega) ?_; intro v2 w2 hown hB hg _; obtain ⟨Ao, ao, rfl⟩ := own_slice hown; have hgr := HI.out.grew HO.out HR0.out hown hB hg; have HG := Aside0.mk hgr.1; have cO2 := cell_of_one hgr.2; have fO2 := free_of_one hgr.2; clear hown hB hg hgr cO fO)
                  go_end0
                  exact ⟨rfl, by have z := HG.out; rw [List.length_append, List.length_singleton] at z; exact z⟩
                · rw [if_neg co] at H
                  exact absurd H (by simp)
      · rw [if_pos c0, if_pos c1, if_neg c2] at h
        exact absurd h (by simp)
    · rw [if_pos c0, if_neg c1] at h
      exact absurd h (by simp)
  · rw [if_neg c0] at h
    exact absurd h (by simp)
theorem row_some {α : Type} {d : Kd α} {e : Nat} {w : World} {base : Nat} {ok : Nat → Prop} {A : Option Addr} {n c b : Nat} {xs : List α} (h : d.R e w base ok (.slice A n c) xs) (hb : (Value.slice A n c).ownBlock = some b) : ∃ g, A = some ⟨g, 0, none⟩ ∧ b = g := by
  cases A with
  | none => simp [Value.ownBlock] at hb
  | some ad =>
    obtain ⟨g, rfl⟩ := Kd.R_head h
    exact ⟨g, rfl, by simpa [Value.ownBlock] using hb.symm⟩
theorem below_alloc' {B : Nat} {w W : World} (h : Below B w W) (hB : B ≤ W.heap.size) (o : Obj) : Below B w (W.alloc o) := h.alloc hB o
theorem VisitInv.start {w1 wd : World} {bs bn gs cs n : Nat} {An : Option Addr} {cn : Nat} {next : List (List Int)} (hC : Kd.C (Kd.slice 3 (Kd.int .i64)) w1 An next.length next) (hbn : w1.heap.size ≤ bn)
    (h : Below w1.heap.size w1 wd ∧ w1.heap.size ≤ bs ∧ w1.heap.size ≤ gs ∧ w1.heap.size ≤ wd.heap.size ∧ wd.heap[bn]? = some (.cells #[.slice An next.length cn] 28 (0, 0)) ∧ wd.heap[bs]? = some (.cells #[.slice (some ⟨gs, 0, none⟩) n cs] 34 (0, 0)) ∧ Kd.R Kd.bool 4 wd w1.heap.size (fun _ => True) (.slice (some ⟨gs, 0, none⟩) n cs) (List.replicate n false)) :
    VisitInv w1 bs bn (wd.heap.size + 1) wd.heap.size gs cs n An cn next (List.replicate n false) [] ((wd.alloc (.cells #[.slice none 0 0] 22)).alloc (.cells #[.func (.func 44) #[] #[.pointer (some ⟨bs, 0, none⟩), .pointer (some ⟨bn, 0, none⟩), .pointer (some ⟨wd.heap.size + 1, 0, none⟩), .pointer (some ⟨wd.heap.size, 0, none⟩)]] 74)) := by
  obtain ⟨h1, h2, h3, h4, h5, h6, h7⟩ := h
  refine ⟨(h1.alloc h4 _).alloc (by simp; omega) _, by simp; omega, by simp, hC, ⟨h2, hbn, by omega, h4, h3⟩, blk_alloc (blk_alloc h6 _) _, blk_alloc (blk_alloc h5 _) _, ?_, ⟨_, blk_alloc (heap_alloc_new wd _) _, own_nil _ _ _ _⟩, Kd.R_alloc (Kd.R_alloc h7 _) _⟩
  have := heap_alloc_new (wd.alloc (.cells #[.slice none 0 0] 22)) (.cells #[.func (.func 44) #[] #[.pointer (some ⟨bs, 0, none⟩), .pointer (some ⟨bn, 0, none⟩), .pointer (some ⟨wd.heap.size + 1, 0, none⟩), .pointer (some ⟨wd.heap.size, 0, none⟩)]] 74)
  simpa using this
theorem VisitInv.after {w1 W1 W2 : World} {bs bn bv bo gs cs n : Nat} {An : Option Addr} {cn : Nat} {next : List (List Int)} {seen : List Bool} {out : List Int} {v : Value} (h : VisitInv w1 bs bn bv bo gs cs n An cn next seen out W1)
    (ho : W1.heap[bo]? = some (.cells #[v] 22 (0, 0))) (hrow : W1.ownsRow w1.heap.size 3 1 v out.length (nums .i64 out)) (hk : Kept W1 W2 (fun k_ => some k_ = v.ownBlock)) :
    W2.heap[bo]? = some (.cells #[v] 22 (0, 0)) ∧ W2.heap[bs]? = some (.cells #[.slice (some ⟨gs, 0, none⟩) n cs] 34 (0, 0)) ∧ Kd.R Kd.bool 4 W2 w1.heap.size (fun _ => True) (.slice (some ⟨gs, 0, none⟩) n cs) seen := by
  have ne : ∀ {b : Nat} {y : Array Value} {t : TypeId}, W1.heap[b]? = some (.cells y t (0, 0)) → t ≠ 3 → ¬ some b = v.ownBlock := by
    intro b y t hb ht e
    obtain ⟨cs', hc'⟩ := own_typed hrow b e.symm
    exact type_ne hc' hb (fun z => ht z.symm) rfl
  refine ⟨blk_kept ho hk (ne ho (by decide)), blk_kept h.hs hk (ne h.hs (by decide)), ?_⟩
  refine Kd.R_mono (Kd.R_step (Kd.R_mono (Kd.R_bound h.row) (ok' := fun k_ => ∃ cells, W1.heap[k_]? = some (.cells cells 4 (0, 0))) (fun k_ hk => ?_)) (fun k_ hk' hlt => hk.2 k_ hlt ?_)) (fun _ _ => trivial)
  · obtain ⟨_, _, _, q, hq, hc⟩ := hk
    rw [show q = 4 by simpa [Kd.bool, Kd.scalar] using hq] at hc
    exact hc
  · obtain ⟨cells, hc⟩ := hk'
    exact ne hc (by decide)
theorem row_R {w : World} {base : Nat} {v : Value} {xs : List Int} (h : w.ownsRow base 3 1 v xs.length (nums .i64 xs)) : Kd.R (Kd.int .i64) 3 w base (fun k_ => some k_ = v.ownBlock) v xs := Kd.R_of_own h (fun k_ hk => hk.symm)
def graph_order.f (k : Nat) (a0_0 : Int) (a0_1 : Int) (l0_2 : List Int) (l0_3 : List (S52)) : Option (List Int × List Bool) :=
  (graph_Next.f k a0_0 a0_1 l0_2 l0_3).bind fun next => (if next.length ≤ 281474976710656 then ((if 0 < next.length then graph_visit.f k next 0 (List.replicate next.length false) [] else some (List.replicate next.length false, [])).bind fun p => ((slices_Reverse_int_int.f k p.2).bind fun o => some (o, p.1))) else none)
theorem graph_order.mono : ∀ a0 a1 a2 a3 k, LeO (graph_order.f k a0 a1 a2 a3) (graph_order.f (k + 1) a0 a1 a2 a3) := by
  intro a0 a1 a2 a3 k
  unfold graph_order.f
  refine LeO.bind (graph_Next.mono _ _ _ _ _) (fun next => LeO.ite (LeO.bind (LeO.ite ((graph_visit.mono_l k).1 _ _ _ _) (LeO.refl _)) (fun p => LeO.bind (slices_Reverse_int_int.mono _ _) (fun _ => LeO.refl _))) (LeO.none _))
set_option maxHeartbeats 8000000 in
set_option maxRecDepth 100000 in
theorem graph_order.calls (k : Nat) (a0_0 : Int) (a0_1 : Int) (A0_2 : Option Addr) (c0_2 : Nat) (l0_2 : List Int) (A0_3 : Option Addr) (c0_3 : Nat) (l0_3 : List (S52)) (r1 : List Int) (r2 : List Bool) (w : World) (hr0_2 : Kd.C (Kd.int .i64) w A0_2 l0_2.length l0_2) (hc0_2 : l0_2.length ≤ c0_2) (hr0_3 : Kd.C k52 w A0_3 l0_3.length l0_3) (hc0_3 : l0_3.length ≤ c0_3) (h : graph_order.f k a0_0 a0_1 l0_2 l0_3 = some (r1, r2)) :
    Calls Try.prog 42 #[.agg #[.int .i64 a0_0, .int .i64 a0_1, .slice A0_2 l0_2.length c0_2, .slice A0_3 l0_3.length c0_3]] w fun e w' => ∃ v0_ v1_ : Value, e = .returned (.tuple #[v0_, v1_]) ∧ Kd.R (Kd.int .i64) 3 w' w.heap.size (fun _ => True) v0_ r1 ∧ Kd.R Kd.bool 4 w' w.heap.size (fun _ => True) v1_ r2 ∧ Below w.heap.size w w' := by
  unfold graph_order.f at h
  obtain ⟨next, hN, h⟩ := Option.bind_eq_some_iff.mp h
  by_cases hl : next.length ≤ 281474976710656
  · rw [if_pos hl] at h
    obtain ⟨p, hV, h⟩ := Option.bind_eq_some_iff.mp h
    obtain ⟨o, hR, h⟩ := Option.bind_eq_some_iff.mp h
    simp only [Option.some.injEq, Prod.mk.injEq] at h
    obtain ⟨rfl, rfl⟩ := h
    have HN := Aside0.mk hN
    have HV := Aside0.mk hV
    have HR := Aside0.mk hR
    have HL := Aside0.mk hl
    have HR2 := Aside0.mk hr0_2
    have HC2 := Aside0.mk hc0_2
    have HR3 := Aside0.mk hr0_3
    have HC3 := Aside0.mk hc0_3
    clear hN hV hR hl hr0_2 hc0_2 hr0_3 hc0_3
    have hmf : ∀ (fn : Fn) (first cap : Array Value) (w : World), (Instr.makeFunc fn first cap).run Try.prog w = .ok (.func fn first cap) w := fun _ _ _ _ => rfl
    go_enter Try.func42, Try.ntmps42
    go_upto_region 1 with (fail)
    go_cut [4] (fun v4 wc => ∃ (w1 : World) (bn : Nat) (An : Option Addr) (cn : Nat), v4 = .pointer (some ⟨bn, 0, none⟩) ∧ Aside0 (Below w.heap.size w w1 ∧ w.heap.size ≤ w1.heap.size ∧ Kd.C (Kd.slice 3 (Kd.int .i64)) w1 An next.length next ∧ Below w1.heap.size w1 wc ∧ w1.heap.size ≤ bn ∧ w1.heap.size ≤ wc.heap.size ∧ wc.heap[bn]? = some (.cells #[.slice An next.length cn] 28 (0, 0))))
    case first =>
      go_wp2_with (go_at_call 31; refine (graph_Next.calls k a0_0 a0_1 A0_2 c0_2 l0_2 A0_3 c0_3 l0_3 next _ (Kd.C_alloc HR2.out _) HC2.out (Kd.C_alloc HR3.out _) HC3.out HN.out).mono ?_; rintro e w1 ⟨v0, rfl, hS, hB⟩; obtain ⟨An, cn, rfl, hle, hC⟩ := Kd.S_reads hS; have HB := Aside0.mk hB; have HC := Aside0.mk hC; clear hS hB hle hC)
      go_meet
      case rel => exact ⟨w1, _, An, cn, rfl, ⟨below_step (below_alloc (Below.refl _ _) _) HB.out, Nat.le_trans (by simp) HB.out.size, HC.out, below_alloc (Below.refl _ _) _, Nat.le_refl _, by simp, heap_alloc_new _ _⟩⟩
    case rest =>
      obtain ⟨w1, bn, An, cn, rfl, ⟨h1⟩⟩ := hcut
      have N1 := Aside0.mk h1.1
      have N2 := Aside0.mk h1.2.1
      have N3 := Aside0.mk h1.2.2.1
      have N4 := Aside0.mk h1.2.2.2.1
      have N5 := Aside0.mk h1.2.2.2.2.1
      have N6 := Aside0.mk h1.2.2.2.2.2.1
      have N7 := Aside0.mk h1.2.2.2.2.2.2
      clear h1
      have cN := cell_of_one N7.out
      go_upto_region 2 with (fail)
      go_cut [5] (fun v5 wd => ∃ (bs gs cs : Nat), v5 = .pointer (some ⟨bs, 0, none⟩) ∧ Aside0 (Below w1.heap.size w1 wd ∧ w1.heap.size ≤ bs ∧ w1.heap.size ≤ gs ∧ w1.heap.size ≤ wd.heap.size ∧ wd.heap[bn]? = some (.cells #[.slice An next.length cn] 28 (0, 0)) ∧ wd.heap[bs]? = some (.cells #[.slice (some ⟨gs, 0, none⟩) next.length cs] 34 (0, 0)) ∧ Kd.R Kd.bool 4 wd w1.heap.size (fun _ => True) (.slice (some ⟨gs, 0, none⟩) next.length cs) (List.replicate next.length false)))
      case first =>
        go_wp2_with ((with_reducible refine gate_dst (N := 12) rfl ?_); refine Kd.R_make Kd.bool w1.heap.size 4 rfl (N := 12) rfl 34 _ _ rfl (next.length : Int) rfl rfl Try.underlying34 (.bool false) 1 info4 rfl (by decide) (by decide) false (ok := fun _ => True) (okp := fun _ => True) rfl (fun _ hk => hk) trivial (by omega) (by have := HL.out; omega) N4.out N6.out ?_; intro v1 w3 ho hb hg hown; obtain ⟨A, c, rfl⟩ := Kd.R_slice ho; have M1 := Aside0.mk ho; have M2 := Aside0.mk hb; have M3 := Aside0.mk hg; have M4 := Aside0.mk hown; clear ho hb hg hown)
        go_meet
        case rel =>
          obtain ⟨bk, hbk, hge⟩ := M4.out
          obtain ⟨gs, rfl, hgs⟩ := row_some M1.out hbk
          subst hgs
          have hs : wc.heap.size ≤ w3.heap.size := M3.out.size
          refine ⟨w3.heap.size, bk, c, rfl, ⟨below_alloc' M2.out (by have := N6.out; omega) _, by have := N6.out; omega, by have := N6.out; omega, by have := N6.out; simp; omega, blk_alloc (blk_grown N7.out M3.out (by simp)) _, heap_alloc_new _ _, ?_⟩⟩
          have hm := M1.out
          rw [List.length_replicate, Int.toNat_natCast] at hm
          exact Kd.R_alloc hm _
      case rest =>
        obtain ⟨bs, gs, cs, rfl, ⟨h2⟩⟩ := hcut
        have I0 := Aside0.mk (VisitInv.start N3.out N5.out h2)
        have N8 := Aside0.mk h2.2.2.2.2.1
        have cN2 := cell_of_one h2.2.2.2.2.1
        clear cN N7 h2
        go_upto_region 6 with (fail)
        generalize World.alloc (World.alloc wc _) _ = W0 at I0 ⊢
        clear cN2 N8
        generalize wc.heap.size + 1 = bv at I0 ⊢
        generalize wc.heap.size = bo at I0 ⊢
        have hV := HV.out
        clear HV
        by_cases hp : 0 < next.length
        · rw [if_pos hp] at hV
          have HV := Aside0.mk hV
          clear hV
          have d0 : decide (0 < next.length) = true := decide_eq_true hp
          have cN := cell_of_one I0.out.hn
          have cV := cell_of_one I0.out.hv
          go_wp2_with (first | (go_at_call 44; refine (graph_visit.calls w1 bs bn bv bo gs cs next.length An cn next k 0 _ _ p _ I0.out HV.out).mono ?_; rintro e W1 ⟨rfl, hI1⟩; have I1 := Aside0.mk hI1; have W1cO := hI1.ho; obtain ⟨vo, hvo, hrow⟩ := W1cO; have cO := cell_of_one hvo; have HVO := Aside0.mk hvo; have HROW := Aside0.mk hrow; clear hI1 hvo hrow cN cV) | (go_at_call 45; refine (slices_Reverse_int_int.calls k (fun k_ => some k_ = vo.ownBlock) vo p.2 o w1 _ I1.out.below (row_R HROW.out) HR.out).mono ?_; rintro e W2 ⟨rfl, hRv, hBv, hKv⟩; have J := I1.out.after HVO.out HROW.out hKv; have cO2 := cell_of_one J.1; have cS2 := cell_of_one J.2.1; have J3 := Aside0.mk J.2.2; have HRV := Aside0.mk hRv; have HBV := Aside0.mk hBv; clear J hRv hBv hKv cO))
          go_quiet (fail)
          go_wp2
          go_ret2
          have hb0 := N2.out
          refine ⟨_, _, rfl, ?_, ?_, ?_⟩
          · exact Kd.R_mono (Kd.R_drewN (Kd.R_lower HRV.out hb0) _) (fun _ _ => trivial)
          · exact Kd.R_drewN (Kd.R_lower J3.out hb0) _
          · exact pw_below_drewN (below_step N1.out HBV.out) _
        · rw [if_neg hp] at hV
          obtain rfl := Option.some.inj hV
          clear hV
          have d0 : decide (0 < next.length) = false := decide_eq_false hp
          have cN := cell_of_one I0.out.hn
          obtain ⟨vo, hvo, hrow⟩ := I0.out.ho
          have cO := cell_of_one hvo
          have HVO := Aside0.mk hvo
          have HROW := Aside0.mk hrow
          clear hvo hrow
          go_wp2_with (go_at_call 45; refine (slices_Reverse_int_int.calls k (fun k_ => some k_ = vo.ownBlock) vo [] o w1 _ I0.out.below (row_R HROW.out) HR.out).mono ?_; rintro e W2 ⟨rfl, hRv, hBv, hKv⟩; have J := I0.out.after HVO.out HROW.out hKv; have cO2 := cell_of_one J.1; have cS2 := cell_of_one J.2.1; have J3 := Aside0.mk J.2.2; have HRV := Aside0.mk hRv; have HBV := Aside0.mk hBv; clear J hRv hBv hKv cO)
          go_quiet (fail)
          go_wp2
          go_ret2
          have hb0 := N2.out
          refine ⟨_, _, rfl, ?_, ?_, ?_⟩
          · exact Kd.R_mono (Kd.R_drewN (Kd.R_lower HRV.out hb0) _) (fun _ _ => trivial)
          · exact Kd.R_drewN (Kd.R_lower J3.out hb0) _
          · exact pw_below_drewN (below_step N1.out HBV.out) _
  · rw [if_neg hl] at h
    exact absurd h (by simp)
/-! ### graph_Order: function 34 -/
def graph_Order.f (k : Nat) (a0_0 : Int) (a0_1 : Int) (l0_2 : List Int) (l0_3 : List (S52)) : Option (List Int) := (graph_order.f k a0_0 a0_1 l0_2 l0_3).bind fun bt188 => (some bt188.1)
theorem graph_Order.mono : ∀ a0 a1 a2 a3 k, LeO (graph_Order.f k a0 a1 a2 a3) (graph_Order.f (k + 1) a0 a1 a2 a3) := by
  intro a0 a1 a2 a3 k
  unfold graph_Order.f
  repeat' first
      | (with_reducible exact graph_order.mono _ _ _ _ _)
      | (with_reducible exact LeO.refl _)
      | (with_reducible exact LeO.none _)
      | (with_reducible refine LeO.ite ?_ ?_)
      | (with_reducible refine LeO.bind ?_ (fun _ => ?_))
      | exact graph_order.mono _ _ _ _ _
      | exact LeO.none _
      | refine LeO.ite ?_ ?_
      | refine LeO.bind ?_ (fun _ => ?_)
set_option maxHeartbeats 8000000 in
set_option maxRecDepth 100000 in
theorem graph_Order.calls (k : Nat) (a0_0 : Int) (a0_1 : Int) (A0_2 : Option Addr) (c0_2 : Nat) (l0_2 : List Int) (A0_3 : Option Addr) (c0_3 : Nat) (l0_3 : List (S52)) (r : List Int) (w : World) (hr0_2 : Kd.C (Kd.int .i64) w A0_2 l0_2.length l0_2) (hc0_2 : l0_2.length ≤ c0_2) (hr0_3 : Kd.C k52 w A0_3 l0_3.length l0_3) (hc0_3 : l0_3.length ≤ c0_3) (h : graph_Order.f k a0_0 a0_1 l0_2 l0_3 = some r) :
    Calls Try.prog 34 #[.agg #[.int .i64 a0_0, .int .i64 a0_1, .slice A0_2 l0_2.length c0_2, .slice A0_3 l0_3.length c0_3]] w fun e w' => ∃ v0_ : Value, e = .returned (v0_) ∧ Kd.R (Kd.int .i64) 3 w' w.heap.size (fun _ => True) v0_ r ∧ Below w.heap.size w w' := by
  have hu25 := Try.underlying25
  have HR0_2 := Aside0.mk hr0_2
  have HC0_2 := Aside0.mk hc0_2
  clear hr0_2 hc0_2
  have HR0_3 := Aside0.mk hr0_3
  have HC0_3 := Aside0.mk hc0_3
  clear hr0_3 hc0_3
  have HB := Aside0.mk (Below.refl w.heap.size w)
  have H : ((graph_order.f k a0_0 a0_1 l0_2 l0_3).bind fun bt188 => (some bt188.1)) = some r := h
  clear h
  replace H := Option.bind_eq_some_iff.mp H
  obtain ⟨⟨t188, t191⟩, A20, H⟩ := H
  replace H : (some t188) = some r := H
  have A2 := Aside0.mk A20
  clear A20
  obtain rfl := Option.some.inj H
  go_enter Try.func34, Try.ntmps34
  go_wp2_with (first | ((with_reducible refine gate_dst (N := 1) rfl ?_); refine box_event ?hg (N := 1) ?hd (cs := #[.int .i64 a0_0, .int .i64 a0_1, .slice A0_2 l0_2.length c0_2, .slice A0_3 l0_3.length c0_3]) (t := 25) ?hr ?_; (case hd => rfl); (case hg => rfl); (case hr => first | (go_simp; done) | (go_simp; rfl)); intro gb187 hg w3 hbox hb; have n0_ := Aside0.mk (below_step (lu HB.out) hb); have n1_ := Aside0.mk (hbox); have n2_ := Aside0.mk ((by rw [hg]; exact (below_size (lu HB.out)) : w.heap.size ≤ gb187)); have n3_ := Aside0.mk ((by rw [hg]; exact (below_size (lu HB.out)) : w.heap.size ≤ gb187)); clear HB; have HB := n0_; have BK187 := n1_; have GW187 := n2_; have GE187 := n3_; clear n0_ n1_ n2_ n3_; clear hb hbox hg; have hcz4_0 : w3.cell? ⟨gb187, 0, none⟩ = some (.int .i64 a0_0) := (blk_cell BK187.out 0).trans rfl; have hcz4_1 : w3.cell? ⟨gb187, 1, none⟩ = some (.int .i64 a0_1) := (blk_cell BK187.out 1).trans rfl; have hcz4_2 : w3.cell? ⟨gb187, 2, none⟩ = some (.slice A0_2 l0_2.length c0_2) := (blk_cell BK187.out 2).trans rfl; have hcz4_3 : w3.cell? ⟨gb187, 3, none⟩ = some (.slice A0_3 l0_3.length c0_3) := (blk_cell BK187.out 3).trans rfl; have hfz4_0 := blk_frozen BK187.out 0; have hfz4_1 := blk_frozen BK187.out 1; have hfz4_2 := blk_frozen BK187.out 2; have hfz4_3 := blk_frozen BK187.out 3) | ((with_reducible refine gate_callee (f := 42) rfl ?_); refine goesL_ (some 7) rfl rfl Try.func42 (by kernel_rfl) rfl #[.agg #[.int .i64 a0_0, .int .i64 a0_1, .slice A0_2 l0_2.length c0_2, .slice A0_3 l0_3.length c0_3]] rfl (by (try simp only [List.map_toArray, List.map_cons, List.map_nil]); first | done | rfl) ?_; (with_reducible refine (graph_order.calls k a0_0 a0_1 _ _ l0_2 _ _ l0_3 t188 t191 _ ?side1 ?side2 ?side3 ?side4 A2.out).mono ?_); (case side1 => exact cu (C_below HR0_2.out HB.out)); (case side2 => exact HC0_2.out); (case side3 => exact cu (C_below HR0_3.out HB.out)); (case side4 => exact HC0_3.out); rintro e w5 ⟨v189, v192, rfl, ho0, ho1, hb⟩; refine ⟨_, rfl, ?_⟩; have n0_ := Aside0.mk (Kd.R_lower ho0 (below_size (lu HB.out))); have n1_ := Aside0.mk (Kd.R_lower ho1 (below_size (lu HB.out))); have n2_ := Aside0.mk (blk_below (bu BK187.out) hb); have n3_ := Aside0.mk (below_step (lu HB.out) hb); clear BK187; clear HB; have HO190 := n0_; have HO193 := n1_; have BK187 := n2_; have HB := n3_; clear n0_ n1_ n2_ n3_; (try clear hb); (try clear hb2); (try clear hk); (try clear hi); (try clear ho0); (try clear ho1)))
  go_ret
  exact ⟨_, by first | rfl | (simp [errW_none, errW_some] <;> rfl) | (simp [*, errW_none, errW_some] <;> rfl), ru HO190.out, lu HB.out⟩
/-! ### dom_ahead: function 35 -/
mutual
def dom_ahead.l0 : Nat → List (List Int) → List (List Int) → Int → Int → Option ((List (List Int)))
  | 0, _, _, _, _ => none
  | k + 1, x3, x11, x12, x13 => if x13 < x12 then (if 0 ≤ x13 then (if x13 < (x11.length : Int) then (dom_ahead.l1 k x3 x13 x11 x12 x13 (rd_L1 x11 x13) ((rd_L1 x11 x13).length : Int) 0) else (none)) else (none)) else (some x3)
def dom_ahead.l1 : Nat → List (List Int) → Int → List (List Int) → Int → Int → List Int → Int → Int → Option ((List (List Int)))
  | 0, _, _, _, _, _, _, _, _ => none
  | k + 1, x3, x4, x11, x12, x13, x18, x19, x20 => if x20 < x19 then (if 0 ≤ x20 then (if x20 < (x18.length : Int) then (if 0 ≤ (rd x18 x20) then (if (rd x18 x20) < (x3.length : Int) then (if (rd_L1 x3 (rd x18 x20)).length < 17592186044416 then (dom_ahead.l1 k (x3.set ((rd x18 x20) : Int).toNat ((rd_L1 x3 (rd x18 x20)) ++ [x4])) x4 x11 x12 x13 x18 x19 (wrap64 (x20 + 1))) else (none)) else (none)) else (none)) else (none)) else (none)) else (dom_ahead.l0 k x3 x11 x12 (wrap64 (x13 + 1)))
end
def dom_ahead.f (k : Nat) (l0 : List (List Int)) : Option ((List (List Int))) := if 0 ≤ (l0.length : Int) then (if ((l0.length : Int) : Int).toNat ≤ 11728124029610 then (dom_ahead.l0 k (List.replicate ((l0.length : Int) : Int).toNat []) l0 (l0.length : Int) 0) else (none)) else (none)
theorem dom_ahead.mono_l : ∀ k, (∀ y0 y1 y2 y3, LeO (dom_ahead.l0 k y0 y1 y2 y3) (dom_ahead.l0 (k + 1) y0 y1 y2 y3)) ∧ (∀ y0 y1 y2 y3 y4 y5 y6 y7, LeO (dom_ahead.l1 k y0 y1 y2 y3 y4 y5 y6 y7) (dom_ahead.l1 (k + 1) y0 y1 y2 y3 y4 y5 y6 y7))
  | 0 => ⟨fun _ _ _ _ r h => by simp [dom_ahead.l0] at h, fun _ _ _ _ _ _ _ _ r h => by simp [dom_ahead.l1] at h⟩
  | k + 1 => by
    obtain ⟨ih0, ih1⟩ := dom_ahead.mono_l k
    refine ⟨?_, ?_⟩
    · intro y0 y1 y2 y3
      unfold dom_ahead.l0
      repeat' first
      | (with_reducible exact ih0 _ _ _ _)
      | (with_reducible exact ih1 _ _ _ _ _ _ _ _)
      | (with_reducible exact LeO.refl _)
      | (with_reducible exact LeO.none _)
      | (with_reducible refine LeO.ite ?_ ?_)
      | (with_reducible refine LeO.bind ?_ (fun _ => ?_))
      | exact ih0 _ _ _ _
      | exact ih1 _ _ _ _ _ _ _ _
      | exact LeO.none _
      | refine LeO.ite ?_ ?_
      | refine LeO.bind ?_ (fun _ => ?_)
    · intro y0 y1 y2 y3 y4 y5 y6 y7
      unfold dom_ahead.l1
      repeat' first
      | (with_reducible exact ih0 _ _ _ _)
      | (with_reducible exact ih1 _ _ _ _ _ _ _ _)
      | (with_reducible exact LeO.refl _)
      | (with_reducible exact LeO.none _)
      | (with_reducible refine LeO.ite ?_ ?_)
      | (with_reducible refine LeO.bind ?_ (fun _ => ?_))
      | exact ih0 _ _ _ _
      | exact ih1 _ _ _ _ _ _ _ _
      | exact LeO.none _
      | refine LeO.ite ?_ ?_
      | refine LeO.bind ?_ (fun _ => ?_)
theorem dom_ahead.mono : ∀ a0 k, LeO (dom_ahead.f k a0) (dom_ahead.f (k + 1) a0) := by
  intro a0 k
  obtain ⟨ih0, ih1⟩ := dom_ahead.mono_l k
  unfold dom_ahead.f
  repeat' first
      | (with_reducible exact ih0 _ _ _ _)
      | (with_reducible exact ih1 _ _ _ _ _ _ _ _)
      | (with_reducible exact LeO.refl _)
      | (with_reducible exact LeO.none _)
      | (with_reducible refine LeO.ite ?_ ?_)
      | (with_reducible refine LeO.bind ?_ (fun _ => ?_))
      | exact ih0 _ _ _ _
      | exact ih1 _ _ _ _ _ _ _ _
      | exact LeO.none _
      | refine LeO.ite ?_ ?_
      | refine LeO.bind ?_ (fun _ => ?_)
set_option maxHeartbeats 8000000 in
set_option maxRecDepth 100000 in
theorem dom_ahead.calls (k : Nat) (A0 : Option Addr) (c0 : Nat) (l0 : List (List Int)) (r : List (List Int)) (w : World) (hr0 : Kd.C (Kd.slice 3 (Kd.int .i64)) w A0 l0.length l0) (hc0 : l0.length ≤ c0) (h : dom_ahead.f k l0 = some r) :
    Calls Try.prog 35 #[.slice A0 l0.length c0] w fun e w' => ∃ v0_ : Value, e = .returned (v0_) ∧ Kd.S (Kd.slice 3 (Kd.int .i64)) 22 w' w.heap.size (fun _ => True) v0_ r ∧ Below w.heap.size w w' := by
  have HR0 := Aside0.mk hr0
  have HC0 := Aside0.mk hc0
  clear hr0 hc0
  have HB := Aside0.mk (Below.refl w.heap.size w)
  have H : (if 0 ≤ (l0.length : Int) then (if ((l0.length : Int) : Int).toNat ≤ 11728124029610 then (dom_ahead.l0 k (List.replicate ((l0.length : Int) : Int).toNat []) l0 (l0.length : Int) 0) else (none)) else (none)) = some r := h
  clear h
  by_cases c2 : 0 ≤ (l0.length : Int)
  rotate_left
  · rw [if_neg c2] at H
    exact absurd H (by simp)
  rw [if_pos c2] at H
  have c2b0 := eq_true c2
  have c2b1 : decide (0 ≤ (l0.length : Int)) = true := decide_eq_true c2
  clear c2
  by_cases c3 : ((l0.length : Int) : Int).toNat ≤ 11728124029610
  rotate_left
  · rw [if_neg c3] at H
    exact absurd H (by simp)
  rw [if_pos c3] at H
  have c3b0 := eq_true c3
  have c3b1 : decide (((l0.length : Int) : Int).toNat ≤ 11728124029610) = true := decide_eq_true c3
  clear c3
  obtain ⟨y194, hy194⟩ : ∃ y_ : List (List Int), y_ = (List.replicate ((l0.length : Int) : Int).toNat []) := ⟨_, rfl⟩
  replace H : (dom_ahead.l0 k y194 l0 (l0.length : Int) 0) = some r := by first | (rw [hy194]; with_reducible exact H) | (have H2_ := (Option.bind_some _ _).symm.trans H; rw [hy194]; with_reducible exact H2_) | exact H
  have Ny194 := Aside0.mk hy194
  clear hy194
  have H' := Aside0.mk H
  clear H
  go_enter Try.func35, Try.ntmps35
  go_wp2_with (first | ((with_reducible refine gate_dst (N := 10) rfl ?_); refine Kd.S_make (Kd.slice 3 (Kd.int .i64)) _ 22 rfl (N := 10) rfl 28 _ _ rfl (l0.length : Int) rfl rfl Try.underlying28 (.slice none 0 0) 24 info22 rfl (by decide) (by omega) [] (ok := fun _ => True) (okp := fun _ => True) ⟨_, rfl, Kd.R_nil _ _ _ _ _⟩ (fun _ hk => hk) trivial (of_decide_eq_true (by with_reducible assumption)) (Nat.le_trans (Nat.mul_le_mul_right _ (of_decide_eq_true (by with_reducible assumption) : (l0.length : Int).toNat ≤ 11728124029610)) (by omega)) (Below.refl _ _) (Nat.le_refl _) ?_; intro v195 w4 ho5 hb hg_ hnew_; clear hg_ hnew_; rw [← Ny194.out] at ho5; have n0_ := Aside0.mk (Kd.S_lower ho5 (below_size (lu HB.out))); have n1_ := Aside0.mk (below_step (lu HB.out) hb); clear HB; have HO196 := n0_; have HB := n1_; clear n0_ n1_; clear hb ho5))
  go_loopg [13] k (fun kq v13 w' => ∃ (x3_1 : List (List Int)) (x13_1 : Int), v13 = .int .i64 x13_1 ∧ Aside0 (dom_ahead.l0 kq x3_1 l0 (l0.length : Int) x13_1 = some r) ∧ Aside0 (kq ≤ k) ∧ Aside0 (Kd.S (Kd.slice 3 (Kd.int .i64)) 22 w' w.heap.size (fun _ => True) v195 x3_1) ∧ Aside0 (Below w.heap.size w w'))
  case atStart => exact ⟨(y194), (0), (by first | rfl | (simp; done) | (simp [*]; done)), H', ⟨Nat.le_refl _⟩, ⟨su HO196.out⟩, ⟨lu HB.out⟩⟩
  clear H'
  try clear c2
  try clear c2b0
  try clear c2b1
  try clear p2
  try clear c3
  try clear c3b0
  try clear c3b1
  obtain ⟨x3_1, x13_1, rfl, HA, HK1, HO_3, HB⟩ := hrel
  rcases gk with _ | k1
  · exact absurd HA.out (by simp [dom_ahead.l0])
  have H := HA.out
  clear HA
  simp only [dom_ahead.l0] at H
  by_cases c6 : x13_1 < (l0.length : Int)
  rotate_left
  · rw [if_neg c6] at H
    have c6b0 : decide (x13_1 < (l0.length : Int)) = false := decide_eq_false c6
    clear c6
    obtain rfl := Option.some.inj H
    go_wp2
    go_ret
    exact ⟨_, by first | rfl | (simp [errW_none, errW_some] <;> rfl) | (simp [*, errW_none, errW_some] <;> rfl), su HO_3.out, lu HB.out⟩
  rw [if_pos c6] at H
  have c6b0 : decide (x13_1 < (l0.length : Int)) = true := decide_eq_true c6
  clear c6
  by_cases c7 : 0 ≤ x13_1
  rotate_left
  · rw [if_neg c7] at H
    exact absurd H (by simp)
  rw [if_pos c7] at H
  have c7b0 : decide (0 ≤ x13_1) = true := decide_eq_true c7
  clear c7
  by_cases c8 : x13_1 < (l0.length : Int)
  rotate_left
  · rw [if_neg c8] at H
    exact absurd H (by simp)
  rw [if_pos c8] at H
  have c8b0 : decide (x13_1 < (l0.length : Int)) = true := decide_eq_true c8
  clear c8
  have H' := Aside0.mk H
  clear H
  have p197 : 0 ≤ (x13_1 : Int) := of_decide_eq_true (by with_reducible assumption)
  have q197 : x13_1 < (l0.length : Int) := of_decide_eq_true (by with_reducible assumption)
  obtain ⟨ad197, A197_0, c197_0, e197, hx197_0, hl197_0, hi197_0⟩ := at_L1 HR0.out x13_1 p197 q197
  cases e197
  replace hx197_0 := (HB.out.cell (World.block_lt_of_cell? w _ hx197_0)).trans hx197_0
  have HR197_0 := Aside0.mk hi197_0
  have HC197_0 := Aside0.mk hl197_0
  clear hi197_0 hl197_0
  replace p197 := eq_true p197
  replace q197 := eq_true q197
  go_wp2
  go_loopg [20] k1 (fun kq v20 w' => ∃ (x3_2 : List (List Int)) (x20_2 : Int), v20 = .int .i64 x20_2 ∧ Aside0 (dom_ahead.l1 kq x3_2 x13_1 l0 (l0.length : Int) x13_1 (rd_L1 l0 x13_1) ((rd_L1 l0 x13_1).length : Int) x20_2 = some r) ∧ Aside0 (kq ≤ k1) ∧ Aside0 (Kd.S (Kd.slice 3 (Kd.int .i64)) 22 w' w.heap.size (fun _ => True) v195 x3_2) ∧ Aside0 (Below w.heap.size w w'))
  case atStart => exact ⟨(x3_1), (0), (by first | rfl | (simp; done) | (simp [*]; done)), H', ⟨Nat.le_refl _⟩, ⟨su HO_3.out⟩, ⟨lu HB.out⟩⟩
  clear H'
  try clear c1
  try clear p1
  try clear q1
  try clear hx1
  try clear c2
  try clear c2b0
  try clear c2b1
  try clear p2
  try clear c3
  try clear c3b0
  try clear c3b1
  try clear c6
  try clear c6b0
  try clear c7
  try clear c7b0
  try clear c8
  try clear c8b0
  try clear hx197_0
  try clear p197
  try clear p2
  try clear q197
  obtain ⟨x3_2, x20_2, rfl, HA, HK2, HO_3, HB⟩ := hrel
  rcases gk with _ | k2
  · exact absurd HA.out (by simp [dom_ahead.l1])
  have H := HA.out
  clear HA
  simp only [dom_ahead.l1] at H
  by_cases c9 : x20_2 < ((rd_L1 l0 x13_1).length : Int)
  · rw [if_pos c9] at H
    have c9b0 : decide (x20_2 < ((rd_L1 l0 x13_1).length : Int)) = true := decide_eq_true c9
    clear c9
    by_cases c10 : 0 ≤ x20_2
    rotate_left
    · rw [if_neg c10] at H
      exact absurd H (by simp)
    rw [if_pos c10] at H
    have c10b0 : decide (0 ≤ x20_2) = true := decide_eq_true c10
    clear c10
    by_cases c11 : x20_2 < ((rd_L1 l0 x13_1).length : Int)
    rotate_left
    · rw [if_neg c11] at H
      exact absurd H (by simp)
    rw [if_pos c11] at H
    have c11b0 : decide (x20_2 < ((rd_L1 l0 x13_1).length : Int)) = true := decide_eq_true c11
    clear c11
    by_cases c12 : 0 ≤ (rd (rd_L1 l0 x13_1) x20_2)
    rotate_left
    · rw [if_neg c12] at H
      exact absurd H (by simp)
    rw [if_pos c12] at H
    have c12b0 : decide (0 ≤ (rd (rd_L1 l0 x13_1) x20_2)) = true := decide_eq_true c12
    clear c12
    by_cases c13 : (rd (rd_L1 l0 x13_1) x20_2) < (x3_2.length : Int)
    rotate_left
    · rw [if_neg c13] at H
      exact absurd H (by simp)
    rw [if_pos c13] at H
    have c13b0 : decide ((rd (rd_L1 l0 x13_1) x20_2) < (x3_2.length : Int)) = true := decide_eq_true c13
    clear c13
    by_cases c14 : (rd_L1 x3_2 (rd (rd_L1 l0 x13_1) x20_2)).length < 17592186044416
    rotate_left
    · rw [if_neg c14] at H
      exact absurd H (by simp)
    rw [if_pos c14] at H
    have LMc14 := Aside0.mk c14
    clear c14
    obtain ⟨y200, hy200⟩ : ∃ y_ : List Int, y_ = ((rd_L1 x3_2 (rd (rd_L1 l0 x13_1) x20_2)) ++ [x13_1]) := ⟨_, rfl⟩
    replace H : (dom_ahead.l1 k2 (x3_2.set ((rd (rd_L1 l0 x13_1) x20_2) : Int).toNat y200) x13_1 l0 (l0.length : Int) x13_1 (rd_L1 l0 x13_1) ((rd_L1 l0 x13_1).length : Int) (wrap64 (x20_2 + 1))) = some r := by first | (rw [hy200]; with_reducible exact H) | (have H2_ := (Option.bind_some _ _).symm.trans H; rw [hy200]; with_reducible exact H2_) | exact H
    have Ny200 := Aside0.mk hy200
    clear hy200
    obtain ⟨y203, hy203⟩ : ∃ y_ : List (List Int), y_ = (x3_2.set ((rd (rd_L1 l0 x13_1) x20_2) : Int).toNat y200) := ⟨_, rfl⟩
    replace H : (dom_ahead.l1 k2 y203 x13_1 l0 (l0.length : Int) x13_1 (rd_L1 l0 x13_1) ((rd_L1 l0 x13_1).length : Int) (wrap64 (x20_2 + 1))) = some r := by first | (rw [hy203]; with_reducible exact H) | (have H2_ := (Option.bind_some _ _).symm.trans H; rw [hy203]; with_reducible exact H2_) | exact H
    have Ny203 := Aside0.mk hy203
    clear hy203
    have H' := Aside0.mk H
    clear H
    have p198 : 0 ≤ (x20_2 : Int) := of_decide_eq_true (by with_reducible assumption)
    have q198 : x20_2 < ((rd_L1 l0 x13_1).length : Int) := of_decide_eq_true (by with_reducible assumption)
    obtain ⟨ad198, e198, hx198_0⟩ := Kd.at_int HR197_0.out x20_2 p198 q198
    cases e198
    replace hx198_0 := (HB.out.cell (World.block_lt_of_cell? w _ hx198_0)).trans hx198_0
    replace p198 := eq_true p198
    replace q198 := eq_true q198
    obtain ⟨Ao16, co16, eo16⟩ := Kd.S_slice HO_3.out
    subst eo16
    have p199 : 0 ≤ ((rd (rd_L1 l0 x13_1) x20_2) : Int) := of_decide_eq_true (by with_reducible assumption)
    have q199 : (rd (rd_L1 l0 x13_1) x20_2) < (x3_2.length : Int) := of_decide_eq_true (by with_reducible assumption)
    obtain ⟨ad199, A199_0, c199_0, e199, hx199_0, hl199_0, hi199_0⟩ := at_L1 (S_reads' HO_3.out).2.2 (rd (rd_L1 l0 x13_1) x20_2) p199 q199
    cases e199
    obtain ⟨ce199, hce199, hMe199, hcc199⟩ := S_get HO_3.out [] (rd (rd_L1 l0 x13_1) x20_2) p199 (by first | exact q199 | exact of_decide_eq_true (by with_reducible assumption) | (have e_ := (S_reads' HO_3.out).1; omega))
    obtain ⟨ve199_0, rfl, ge199_0⟩ := hMe199
    have hv199_0 := hcc199 0 _ rfl
    rw [Nat.add_zero, show ((Kd.slice 3 (Kd.int .i64))).sz = 1 from rfl, Nat.mul_one] at hv199_0
    replace hv199_0 := Option.some.inj (hv199_0.symm.trans hx199_0)
    rw [hv199_0] at ge199_0
    have HL199_0 := Aside0.mk (show Kd.R (Kd.int .i64) 3 _ _ _ _ (rd_L1 x3_2 (rd (rd_L1 l0 x13_1) x20_2)) from ge199_0)
    clear hv199_0 ge199_0
    have HX199_0 := Aside0.mk hx199_0
    clear hcc199 hce199
    have HR199_0 := Aside0.mk hi199_0
    have HC199_0 := Aside0.mk hl199_0
    clear hi199_0 hl199_0
    replace p199 := eq_true p199
    replace q199 := eq_true q199
    obtain ⟨go17, co17, eo17, gb17, gl17, cl17, HG17⟩ := Kd.S_form HO_3.out (by have h_ : ((rd (rd_L1 l0 x13_1) x20_2) : Int) < ((x3_2.length : Int) : Int) := of_decide_eq_true (by with_reducible assumption); have h2_ : 0 ≤ ((rd (rd_L1 l0 x13_1) x20_2) : Int) := (of_decide_eq_true (by with_reducible assumption)); omega)
    (first | cases eo17 | (injection eo17 with ea_ en_ ec_; (first | subst ea_ | (injection ea_ with ea_; subst ea_)); subst ec_; clear en_))
    have GB17 := Aside0.mk gb17
    have GG17 := Aside0.mk HG17
    clear gb17 gl17 HG17
    (first | simp only [add_plain] at hx199_0 | skip)
    obtain ⟨oki17, ce17, hcl17, hM17, hcc17, _, _, hH17⟩ := Kd.S_elem HO_3.out [] ((rd (rd_L1 l0 x13_1) x20_2) : Int) (of_decide_eq_true (by with_reducible assumption)) (by have h_ : ((rd (rd_L1 l0 x13_1) x20_2) : Int) < ((x3_2.length : Int) : Int) := of_decide_eq_true (by with_reducible assumption); first | exact h_ | (have e_ := (S_reads' HO_3.out).1; omega) | simpa using h_)
    obtain ⟨ve17_0, rfl, ge17_0⟩ := hM17
    have hv17 := hcc17 0 _ rfl
    have hX17 := HX199_0.out
    (try simp only [add_plain] at hX17)
    (try simp only [Nat.add_zero] at hv17)
    (try rw [show ((Kd.slice 3 (Kd.int .i64))).sz = 1 from rfl, Nat.mul_one] at hv17)
    replace hv17 := Option.some.inj (hv17.symm.trans hX17)
    subst hv17
    clear hX17 hcc17 hcl17
    have UU17 := Aside0.mk (show Kd.R (Kd.int .i64) 3 _ w.heap.size oki17 (.slice A199_0 (rd_L1 x3_2 (rd (rd_L1 l0 x13_1) x20_2)).length c199_0) (rd_L1 x3_2 (rd (rd_L1 l0 x13_1) x20_2)) from ge17_0)
    have HH17 := Aside0.mk hH17
    have HN17 := Aside0.mk (S_reads' HO_3.out).1
    clear hH17 ge17_0
    go_wp2_with (first | ((with_reducible refine gate_builtin (b := .append) (xs := #[.tmp 29, .tmp 31]) rfl ?_); at_builtin; refine Kd.R_append (Kd.int .i64) (w0 := w) w.heap.size rfl (.tmp 29) (.tmp 31) 22 3 (.int .i64 0) 8 rfl Try.underlying22 info3 rfl (by decide) (by omega) (.slice A199_0 (rd_L1 x3_2 (rd (rd_L1 l0 x13_1) x20_2)).length c199_0) (rd_L1 x3_2 (rd (rd_L1 l0 x13_1) x20_2)) x13_1 [.int .i64 x13_1] (fun k_ => oki17 k_ ∨ ((fun _ => True)) k_ ∧ wr.heap.size ≤ k_) (fun _ => False) rfl rfl ?aP (fun _ hk => hk.elim) ?aF ?aO ?aB ?aS ?aL ?_; (case aP => exact rfl); (case aB => exact (lu HB.out)); (case aF => exact (fun k_ hk => .inr ⟨trivial, hk⟩)); (case aO => exact (ru (R_mono UU17.out (fun _ hk => .inl hk)))); (case aS => exact (below_size (lu HB.out))); (case aL => have := LMc14.out; omega); intro v201 w18 ho hb hg hat; rw [← Ny200.out] at ho; have n0_ := Aside0.mk (hb); have n1_ := Aside0.mk (Kd.H_grown (Kd.H_widen (by repeat (first | exact HH17.out | refine Kd.H_alloc ?_ _ | refine Kd.H_drewN ?_ _ | refine Kd.H_drew ?_))) hg (fun k_ e_ => .inl (UU17.out.1 k_ e_))); have n2_ := Aside0.mk (ho); clear HB; clear HH17; clear HO_3; clear UU17; clear HL199_0; have HB := n0_; have HH17 := n1_; have HO202 := n2_; clear n0_ n1_ n2_; clear ho hb hg hat; have p15 : 0 ≤ ((rd (rd_L1 l0 x13_1) x20_2) : Int) := of_decide_eq_true (by with_reducible assumption); have q15 : ((rd (rd_L1 l0 x13_1) x20_2) : Int) < ((x3_2.length : Int) : Int) := of_decide_eq_true (by with_reducible assumption); replace p15 := eq_true p15; replace q15 := eq_true q15; obtain ⟨Ao21, co21, eo21⟩ := Kd.R_slice HO202.out; subst eo21; obtain ⟨_, _, hraw19, _, _, hcc19, _⟩ := Kd.H_raw HH17.out (of_decide_eq_true (by with_reducible assumption)) (by have h_ : ((rd (rd_L1 l0 x13_1) x20_2) : Int) < ((x3_2.length : Int) : Int) := of_decide_eq_true (by with_reducible assumption); first | exact h_ | (have e_ := (HN17.out); omega) | simpa using h_); obtain ⟨_, hfr19⟩ := Kd.H_at HH17.out (of_decide_eq_true (by with_reducible assumption)) (by have h_ : ((rd (rd_L1 l0 x13_1) x20_2) : Int) < ((x3_2.length : Int) : Int) := of_decide_eq_true (by with_reducible assumption); first | exact h_ | (have e_ := (HN17.out); omega) | simpa using h_); have hx19_0 := hcc19 0 _ rfl; have hf19_0 := hfr19 0; (try simp only [Nat.add_zero] at hx19_0 hf19_0); (try rw [show ((Kd.slice 3 (Kd.int .i64))).sz = 1 from rfl, Nat.mul_one] at hx19_0); (try rw [show ((Kd.slice 3 (Kd.int .i64))).sz = 1 from rfl, Nat.mul_one] at hf19_0); have HP19 := Kd.S_seg0 HH17.out (of_decide_eq_true (by with_reducible assumption)) (by have h_ : ((rd (rd_L1 l0 x13_1) x20_2) : Int) < ((x3_2.length : Int) : Int) := of_decide_eq_true (by with_reducible assumption); first | exact h_ | (have e_ := (HN17.out); omega) | simpa using h_) (seg := [.slice Ao21 y200.length co21]) (j := 0) (show 1 ≤ 1 from by decide) (x' := y200) (Kd.M_row HO202.out) (fun _ hk => hk); (try simp only [show ((Kd.slice 3 (Kd.int .i64))).sz = 1 from rfl, Nat.mul_one, Nat.add_zero] at HP19); clear hcc19 hfr19) | ((with_reducible refine gate_store (t := 22) (p := 33) rfl ?_); refine store_event (t := 22) (p := 33) (v := ?vo_w20) (w1 := (w18.setCell ⟨go17, ((rd (rd_L1 l0 x13_1) x20_2) : Int).toNat, none⟩ (.slice Ao21 y200.length co21))) ?hg ?ho ?hn ?hr ?_; (case ho => rfl); (case hg => rfl); (case hn => rfl); (case hr => first | (go_simp; done) | (go_simp; rfl)); intro w20 hw; have hg : w18.grownBy w20 (some go17) := (by rw [hw]; exact HP19.2); have hp_ : Kd.S (Kd.slice 3 (Kd.int .i64)) 22 w20 w.heap.size (fun _ => True) (.slice (some ⟨go17, 0, none⟩) x3_2.length co16) y203 := (by rw [hw, Ny203.out]; exact HP19.1); clear HP19; have n0_ := Aside0.mk ((by rw [hw]; exact below_set HB.out GB17.out : Below w.heap.size w w20)); have n1_ := Aside0.mk (hp_); clear HB; clear HO202; clear HH17; have HB := n0_; have HO_3 := n1_; clear n0_ n1_; clear hg hw hp_ hraw19))
    go_roundg k2
    case measure => have := HK1.out; have := HK2.out; omega
    case rel => exact ⟨(y203), (wrap64 (x20_2 + 1)), (by first | rfl | (simp; done) | (simp [*]; done)), H', ⟨by have := HK1.out; have := HK2.out; omega⟩, ⟨su HO_3.out⟩, ⟨lu HB.out⟩⟩
  rw [if_neg c9] at H
  have c9b0 : decide (x20_2 < ((rd_L1 l0 x13_1).length : Int)) = false := decide_eq_false c9
  clear c9
  have H' := Aside0.mk H
  clear H
  go_wp2
  go_roundg k2
  case measure => have := HK1.out; have := HK2.out; omega
  case rel => exact ⟨(x3_2), (wrap64 (x13_1 + 1)), (by first | rfl | (simp; done) | (simp [*]; done)), H', ⟨by have := HK1.out; have := HK2.out; omega⟩, ⟨su HO_3.out⟩, ⟨lu HB.out⟩⟩
end Go.Proofs.Ytpionncanaamgaa.PLoopsStays
