/- A register more behind a function's registers does no harm to a proper module, within the limit of 256. Conditions: the module is proper. -/
import Derived.Test.YtckebppacealeaaDoorLn
namespace Go.Proofs.YtckebppacealeaaDoor.Lk
open Go.RowKit Go.Proofs.YtckebppacealeaaDoorW.PrintWords Go.Proofs.YtckebppacealeaaDoorW.PrintLast Go.Proofs.YtckebppacealeaaDoorW.PrintMore Go.Proofs.YtckebppacealeaaDoorW.PrintWords.Kd Go.Proofs.YtckebppacealeaaDoor.PCodeUnlike Go.Proofs.YtckebppacealeaaDoor.Lp
set_option linter.unusedVariables false
set_option linter.unusedSimpArgs false
/-- g is f, with registers more behind. -/
structure Wid (f g : Fn) : Prop where
  e0 : g.f0 = f.f0
  e1 : g.f1 = f.f1
  e3 : g.f3 = f.f3
  len : f.f2.length ≤ g.f2.length
  reg : ∀ r : Int, 0 ≤ r → r < (f.f2.length : Int) → rd g.f2 r = rd f.f2 r
structure WidM (m m' : List Fn) : Prop where
  len : m'.length = m.length
  each : ∀ i : Int, 0 ≤ i → i < (m.length : Int) → Wid (rd_T50 m i) (rd_T50 m' i)
theorem Wid.refl (f : Fn) : Wid f f := ⟨rfl, rfl, rfl, Nat.le_refl _, fun _ _ _ => rfl⟩
section
variable {f g : Fn} (h : Wid f g)
include h
theorem Wid.hasP {r : Int} (hr : hasP f r = false) : hasP g r = false := by
  have := h.len
  unfold Lk.hasP at hr ⊢
  simp at hr ⊢
  omega
theorem Wid.hasB {rs : List Int} (hr : hasB f rs = true) : hasB g rs = true := by
  unfold Lk.hasB at hr ⊢
  simp only [Bool.not_eq_true', List.any_eq_false] at hr ⊢
  intro x hx
  have := hr x hx
  rw [h.hasP (by simpa using this)]
  simp
theorem Wid.rd_in {r : Int} (hr : Lk.hasP f r = false) : rd g.f2 r = rd f.f2 r := by
  unfold Lk.hasP at hr
  simp at hr
  exact h.reg r (by omega) (by omega)
theorem Wid.areB {t : Int} {rs : List Int} (hr : Lk.hasB f rs = true) : areB g t rs = areB f t rs := by
  unfold Lk.areB
  unfold Lk.hasB at hr
  simp only [Bool.not_eq_true', List.any_eq_false] at hr
  have : rs.any (areP g t) = rs.any (areP f t) := by
    rw [Bool.eq_iff_iff, List.any_eq_true, List.any_eq_true]
    constructor
    · rintro ⟨x, hx, hp⟩
      refine ⟨x, hx, ?_⟩
      unfold areP at hp ⊢
      rwa [h.rd_in (by simpa using hr x hx)] at hp
    · rintro ⟨x, hx, hp⟩
      refine ⟨x, hx, ?_⟩
      unfold areP at hp ⊢
      rwa [h.rd_in (by simpa using hr x hx)]
  rw [this]
theorem Wid.rd_one {r : Int} (hr : Lk.hasB f [r] = true) : rd g.f2 r = rd f.f2 r := by
  rw [hasB_one] at hr
  exact h.rd_in (by simpa using hr)
theorem Wid.phiE {p : Ph} (hp : phiE f p = none) : phiE g p = none := by
  unfold Lk.phiE at hp ⊢
  by_cases c1 : Lk.hasB f [p.f0] = true
  rotate_left
  · rw [if_neg c1] at hp; exact absurd hp (by simp)
  rw [if_pos c1] at hp
  by_cases c2 : Lk.hasB f p.f1 = true
  rotate_left
  · rw [if_neg c2] at hp; exact absurd hp (by simp)
  rw [if_pos c2] at hp
  rw [if_pos (h.hasB c1), if_pos (h.hasB c2), h.rd_one c1, h.areB c2]
  exact hp
theorem Wid.endE {t : Tm} (hp : endE f t = none) : endE g t = none := by
  unfold Lk.endE at hp ⊢
  rw [h.e1]
  by_cases c1 : t.f0 = 1
  · rw [if_pos c1] at hp ⊢; exact hp
  rw [if_neg c1] at hp ⊢
  by_cases c2 : t.f0 = 3
  · rw [if_pos c2] at hp ⊢
    by_cases c3 : f.f1 = 0
    · rw [if_pos c3] at hp ⊢; exact hp
    rw [if_neg c3] at hp ⊢
    by_cases c4 : Lk.hasB f [t.f1] = true
    · rw [if_pos c4] at hp
      rw [if_pos (h.hasB c4), h.areB c4]; exact hp
    · rw [if_neg c4] at hp; exact absurd hp (by simp)
  · rw [if_neg c2] at hp ⊢
    by_cases c4 : Lk.hasB f [t.f1] = true
    · rw [if_pos c4] at hp
      rw [if_pos (h.hasB c4), h.areB c4]; exact hp
    · rw [if_neg c4] at hp; exact absurd hp (by simp)
theorem Wid.callB {k k' : Fn} (hk : Wid k k') {rs : List Int} {dst : Int} (hr : Lk.hasB f rs = true) (hn : (rs.length : Int) = k.f0) (hd : k.f1 ≠ 0 → Lk.hasB f [dst] = true) (hc : callB f k rs dst = true) : callB g k' rs dst = true := by
  have hl := hk.len
  unfold Lk.callB at hc ⊢
  rw [hk.e0, hk.e1]
  by_cases c1 : k.f0 < 0
  · rw [if_pos c1] at hc; exact absurd hc (by simp)
  rw [if_neg c1] at hc ⊢
  by_cases c2 : (k.f2.length : Int) < k.f0
  · rw [if_pos c2] at hc; exact absurd hc (by simp)
  rw [if_neg c2] at hc
  rw [if_neg (by omega)]
  by_cases c3 : (List.range rs.length).all (callAt f k rs) = true
  rotate_left
  · rw [if_neg c3] at hc; exact absurd hc (by simp)
  rw [if_pos c3] at hc
  have c3' : (List.range rs.length).all (callAt g k' rs) = true := by
    rw [List.all_eq_true] at c3 ⊢
    intro j hj
    have hlt := List.mem_range.mp hj
    have := c3 j hj
    unfold callAt at this ⊢
    rw [hk.reg (j : Int) (by omega) (by omega), h.areB (hasB_at hr hlt)]
    exact this
  rw [if_pos c3']
  by_cases c4 : k.f1 = 0
  · rw [if_pos c4]
  · rw [if_neg c4] at hc ⊢
    rw [h.areB (hd c4)]
    exact hc
end
theorem WidM.arity {m m' : List Fn} (hm : WidM m m') (x : In) : arityV m' x = arityV m x := by
  unfold arityV
  rw [hm.len]
  by_cases h0 : x.f4 < 0
  · simp only [if_pos h0]
  by_cases h1 : x.f4 < (m.length : Int)
  · rw [(hm.each x.f4 (by omega) h1).e0, (hm.each x.f4 (by omega) h1).e1]
  · simp only [if_neg h0, if_neg h1]
theorem hasB_sub {f : Fn} {rs ss : List Int} (h : hasB f rs = true) (hs : ∀ x ∈ ss, x ∈ rs) : hasB f ss = true := by
  unfold hasB at h ⊢
  simp only [Bool.not_eq_true', List.any_eq_false] at h ⊢
  exact fun x hx => h x (hs x hx)
theorem WidM.instr {m m' : List Fn} (hm : WidM m m') {f g : Fn} (h : Wid f g) {x : In} (hx : instrE m f x = none) : instrE m' g x = none := by
  unfold instrE at hx ⊢
  rw [hm.arity x]
  by_cases c1 : (arityV m x).2.2 = none
  rotate_left
  · rw [if_neg c1] at hx; exact absurd hx c1
  rw [if_pos c1] at hx ⊢
  by_cases c2 : (x.f2.length : Int) = (arityV m x).1
  rotate_left
  · rw [if_neg c2] at hx; exact absurd hx (by simp)
  rw [if_pos c2] at hx ⊢
  by_cases c3 : hasB f x.f2 = true
  rotate_left
  · rw [if_neg c3] at hx; exact absurd hx (by simp)
  rw [if_pos c3] at hx
  rw [if_pos (h.hasB c3)]
  by_cases c4 : (arityV m x).2.1 = 0 ∨ hasB f [x.f1] = true
  rotate_left
  · rw [if_neg c4] at hx; exact absurd hx (by simp)
  rw [if_pos c4] at hx
  rw [if_pos (c4.imp id h.hasB)]
  by_cases c5 : oddB (arityV m x).2.1 x = false ∧ fitsB m f x = true
  rotate_left
  · rw [if_neg c5] at hx; exact absurd hx (by simp)
  rw [if_pos]
  refine ⟨c5.1, ?_⟩
  have c6 := c5.2
  unfold fitsB at c6 ⊢
  unfold arityV at c1 c2 c4
  by_cases h1 : x.f0 = 1
  · rw [if_pos h1] at c6 ⊢
    have ha : (argsV 1).2 = false := rfl
    rw [h1, ha, if_neg Bool.false_ne_true, if_pos rfl] at c4
    rw [h.rd_one (c4.resolve_left (by simp))]
    exact c6
  rw [if_neg h1] at c1 c2 c4 c6 ⊢
  by_cases h17 : x.f0 = 17
  · have ha : (argsV 17).2 = false := rfl
    rw [if_neg (by omega), if_neg (by omega), if_neg (by omega), if_neg (by omega), if_neg (by omega), if_neg (by omega), if_pos h17] at c6 ⊢
    rw [h17, ha, if_neg Bool.false_ne_true, if_neg (by omega), if_neg (by omega), if_neg (by omega), if_pos rfl] at c1 c2 c4
    by_cases g0 : x.f4 < 0
    · rw [if_pos g0] at c1; exact absurd c1 (by simp)
    rw [if_neg g0] at c1 c2 c4
    by_cases g1 : x.f4 < (m.length : Int)
    rotate_left
    · rw [if_neg g1] at c1; exact absurd c1 (by simp)
    rw [if_pos g1] at c1 c2 c4
    exact h.callB (hm.each x.f4 (by omega) g1) c3 c2 (fun hne => c4.resolve_left hne) c6
  rw [if_neg h17] at c1 c2 c4
  by_cases h18 : x.f0 = 18
  · rw [if_neg (by omega), if_neg (by omega), if_neg (by omega), if_neg (by omega), if_pos h18] at c6 ⊢
    rw [h.areB c3]; exact c6
  rw [if_neg h18] at c1 c2 c4
  by_cases h16 : x.f0 = 16
  · rw [if_neg (by omega), if_neg (by omega), if_neg (by omega), if_neg (by omega), if_neg h18, if_pos h16] at c6 ⊢
    rw [h.areB c3]; exact c6
  rw [if_neg h16] at c1 c2 c4
  have hd : hasB f [x.f1] = true := by
    by_cases ha : (argsV x.f0).2 = true
    · rw [if_pos ha] at c4
      exact c4.resolve_left (by simp)
    rw [if_neg ha] at c1 c4
    by_cases h15 : x.f0 = 15
    · rw [if_pos h15] at c4
      exact c4.resolve_left (by simp)
    · rw [if_neg h15] at c1
      exact absurd c1 (by simp)
  by_cases h2 : x.f0 = 2
  · have ha : argsV 2 = (1, true) := rfl
    rw [if_pos h2] at c6 ⊢
    rw [h2, ha, if_pos rfl] at c2
    have c2 : (x.f2.length : Int) = 1 := c2
    have hl : x.f2.length = 1 := by omega
    have h00 : hasB f [rd x.f2 0] = true := hasB_at c3 (k := 0) (by omega)
    rw [h.rd_one h00, h.areB hd]
    exact c6
  rw [if_neg h2] at c6 ⊢
  by_cases h12 : x.f0 = 12
  · rw [if_pos h12] at c6 ⊢
    rw [h.areB c3, h.areB hd]; exact c6
  rw [if_neg h12] at c6 ⊢
  by_cases h13 : x.f0 = 13
  · rw [if_pos h13] at c6 ⊢
    rw [h.areB c3, h.areB hd]; exact c6
  rw [if_neg h13] at c6 ⊢
  by_cases h14 : x.f0 = 14
  · have ha : argsV 14 = (1, true) := rfl
    rw [if_pos h14] at c6 ⊢
    rw [h14, ha, if_pos rfl] at c2
    have c2 : (x.f2.length : Int) = 1 := c2
    have hl : x.f2.length = 1 := by omega
    have h00 : hasB f [rd x.f2 0] = true := hasB_at c3 (k := 0) (by omega)
    rw [h.areB (hasB_two h00 hd)]
    exact c6
  rw [if_neg h14, if_neg h18, if_neg h16, if_neg h17] at c6 ⊢
  rw [h.areB c3, h.areB hd]
  exact c6
theorem WidM.block {m m' : List Fn} (hm : WidM m m') {f g : Fn} (h : Wid f g) {b : Bk} (hb : blockE m f b = none) : blockE m' g b = none := by
  have h1 : b.f0.findSome? (phiE f) = none := by
    unfold blockE at hb
    cases h : b.f0.findSome? (phiE f) with
    | none => rfl
    | some c => rw [h] at hb; exact absurd hb (by simp)
  have h2 : b.f1.findSome? (instrE m f) = none := by
    unfold blockE at hb
    rw [h1] at hb
    dsimp only at hb
    cases h : b.f1.findSome? (instrE m f) with
    | none => rfl
    | some c => rw [h] at hb; exact absurd hb (by simp)
  rw [blockE_C h1 h2] at hb
  rw [List.findSome?_eq_none_iff] at h1 h2
  rw [blockE_C (List.findSome?_eq_none_iff.mpr fun p hp => h.phiE (h1 p hp)) (List.findSome?_eq_none_iff.mpr fun x hx => hm.instr h (h2 x hx))]
  exact h.endE hb
theorem smallB_regs {l : List Int} {B : List Bk} (h : smallB l B = true) : l.length ≤ 256 := by
  unfold smallB at h
  by_cases c1 : 1 ≤ B.length
  rotate_left
  · rw [if_neg c1] at h; exact absurd h (by simp)
  rw [if_pos c1] at h
  by_cases c2 : B.length ≤ 64
  rotate_left
  · rw [if_neg c2] at h; exact absurd h (by simp)
  rw [if_pos c2] at h
  by_cases c3 : l.length ≤ 256
  · exact c3
  · rw [if_neg c3] at h; exact absurd h (by simp)
theorem smallB_more {l l' : List Int} {B : List Bk} (h : smallB l B = true) (hl : l'.length ≤ 256) : smallB l' B = true := by
  have hr := smallB_regs h
  unfold smallB at h ⊢
  rw [if_pos hl]
  rw [if_pos hr] at h
  exact h
theorem smallB_not {l : List Int} {B : List Bk} (hl : 256 < l.length) : smallB l B ≠ true := fun h => by have := smallB_regs h; omega
theorem WidM.func {m m' : List Fn} (hm : WidM m m') (i : Nat) (hi : i < m.length) (h : funcE m i = none) (hv : (rd_T50 m' (i : Int)).f2.all valB = true) (hl : (rd_T50 m' (i : Int)).f2.length ≤ 256) : funcE m' i = none := by
  have hw := hm.each (i : Int) (by omega) (by omega)
  unfold funcE at h ⊢
  generalize rd_T50 m (i : Int) = f at *
  generalize rd_T50 m' (i : Int) = g at *
  rw [if_neg (by omega), if_neg (by omega)] at h
  rw [if_neg (by omega), if_neg (by rw [hm.len]; omega)]
  rw [hw.e3]
  by_cases c1 : smallB f.f2 f.f3 = true
  rotate_left
  · rw [if_neg c1] at h; exact absurd h (by simp)
  rw [if_pos c1] at h
  rw [if_pos (smallB_more c1 hl)]
  by_cases c2 : typedB f = true
  rotate_left
  · rw [if_neg c2] at h; exact absurd h (by simp)
  rw [if_pos c2] at h
  have c2' : typedB g = true := by
    have hlen := hw.len
    unfold typedB at c2 ⊢
    rw [if_pos hv, hw.e0, hw.e1]
    by_cases d1 : f.f2.all valB = true
    rotate_left
    · rw [if_neg d1] at c2; exact absurd c2 (by simp)
    rw [if_pos d1] at c2
    by_cases d2 : 0 ≤ f.f0
    rotate_left
    · rw [if_neg d2] at c2; exact absurd c2 (by simp)
    rw [if_pos d2] at c2 ⊢
    by_cases d3 : f.f0 ≤ 8
    rotate_left
    · rw [if_neg d3] at c2; exact absurd c2 (by simp)
    rw [if_pos d3] at c2 ⊢
    by_cases d4 : f.f0 ≤ (f.f2.length : Int)
    rotate_left
    · rw [if_neg d4] at c2; exact absurd c2 (by simp)
    rw [if_pos d4] at c2
    rw [if_pos (by omega)]
    exact c2
  rw [if_pos c2']
  by_cases c3 : f.f3.all (fun b => endsB f.f3.length b.f2) = true
  rotate_left
  · rw [if_neg c3] at h; exact absurd h (by simp)
  rw [if_pos c3] at h ⊢
  by_cases c4 : (List.range f.f3.length).all (phiOk f.f3) = true
  rotate_left
  · rw [if_neg c4] at h; exact absurd h (by simp)
  rw [if_pos c4] at h ⊢
  rw [List.findSome?_eq_none_iff] at h ⊢
  exact fun b hb => hm.block hw (h b hb)
theorem func_large (m : List Fn) (i : Nat) (hi : i < m.length) (hl : 256 < (rd_T50 m (i : Int)).f2.length) : funcE m i = some 5 := by
  unfold funcE
  rw [if_neg (by omega), if_neg (by omega), if_neg (smallB_not hl)]
theorem modE_each {m : List Fn} (h : modE m = none) : m.length ≤ 32 ∧ ∀ i : Nat, i < m.length → funcE m (i : Int) = none := by
  unfold modE at h
  by_cases c : 32 < m.length
  · rw [if_pos c] at h; exact absurd h (by simp)
  rw [if_neg c, List.findSome?_eq_none_iff] at h
  refine ⟨by omega, fun i hi => ?_⟩
  have := h i (List.mem_range.mpr hi)
  simpa using this
/-- The function that has a register more. -/
def more (f : Fn) (k : Int) : Fn := ⟨f.f0, f.f1, f.f2 ++ [k], f.f3⟩
theorem wid_more (f : Fn) (k : Int) : Wid f (more f k) := by
  refine ⟨rfl, rfl, rfl, by simp [more], fun r h0 h1 => ?_⟩
  show (f.f2 ++ [k]).getD r.toNat 0 = f.f2.getD r.toNat 0
  rw [List.getD_eq_getElem?_getD, List.getD_eq_getElem?_getD, List.getElem?_append_left (by omega)]
theorem set_at (m : List Fn) (n i : Nat) (g : Fn) (hn : n < m.length) : rd_T50 (m.set n g) (i : Int) = if n = i then g else rd_T50 m (i : Int) := getD_set m n i g _ hn
theorem wid_set (m : List Fn) (n : Nat) (hn : n < m.length) (k : Int) : WidM m (m.set n (more (m.getD n z50) k)) := by
  refine ⟨List.length_set, fun i h0 h1 => ?_⟩
  obtain ⟨j, rfl⟩ := Int.eq_ofNat_of_zero_le h0
  rw [set_at m n j _ hn]
  by_cases e : n = j
  · subst e
    rw [if_pos rfl]
    exact wid_more _ k
  · rw [if_neg e]
    exact Wid.refl _
theorem typed_regs {m : List Fn} {i : Nat} (hi : i < m.length) (h : funcE m i = none) : (m.getD i z50).f2.all valB = true ∧ (m.getD i z50).f2.length ≤ 256 := by
  unfold funcE at h
  have e : rd_T50 m (i : Int) = m.getD i z50 := rfl
  rw [e] at h
  rw [if_neg (by omega), if_neg (by omega)] at h
  by_cases c1 : smallB (m.getD i z50).f2 (m.getD i z50).f3 = true
  rotate_left
  · rw [if_neg c1] at h; exact absurd h (by simp)
  rw [if_pos c1] at h
  by_cases c2 : typedB (m.getD i z50) = true
  rotate_left
  · rw [if_neg c2] at h; exact absurd h (by simp)
  refine ⟨?_, smallB_regs c1⟩
  unfold typedB at c2
  by_cases d1 : (m.getD i z50).f2.all valB = true
  · exact d1
  · rw [if_neg d1] at c2; exact absurd c2 (by simp)
/-- The plain law. -/
theorem mod_more (m : List Fn) (n : Nat) (hn : n < m.length) (k : Int) (hk : k = 1 ∨ k = 2) (h : modE m = none) :
    modE (m.set n (more (m.getD n z50) k)) = if (m.getD n z50).f2.length = 256 then some ((n : Int), 5) else none := by
  obtain ⟨hl, hf⟩ := modE_each h
  have hw := wid_set m n hn k
  have hvk : valB k = true := by rcases hk with rfl | rfl <;> rfl
  have hcl : (m.set n (more (m.getD n z50) k)).length = m.length := List.length_set
  have hother : ∀ i, i < m.length → i ≠ n → funcE (m.set n (more (m.getD n z50) k)) (i : Int) = none := by
    intro i hi hne
    have ht := typed_regs hi (hf i hi)
    refine hw.func i hi (hf i hi) ?_ ?_
    · rw [set_at m n i _ hn, if_neg (fun e => hne e.symm)]; exact ht.1
    · rw [set_at m n i _ hn, if_neg (fun e => hne e.symm)]; exact ht.2
  have ht := typed_regs hn (hf n hn)
  unfold modE
  rw [if_neg (by rw [hcl]; omega), hcl]
  by_cases c : (m.getD n z50).f2.length = 256
  · rw [if_pos c]
    refine range_at hn (fun j hj => by rw [hother j (by omega) (by omega)]; rfl) ?_
    rw [func_large _ n (by rw [hcl]; exact hn) (by rw [set_at m n n _ hn, if_pos rfl]; simp only [more, List.length_append, List.length_singleton]; omega)]
    rfl
  · rw [if_neg c]
    refine range_no (fun j hj => ?_)
    by_cases e : j = n
    · subst e
      rw [hw.func j hn (hf j hn)]
      · rfl
      · rw [set_at m j j _ hn, if_pos rfl]
        simp only [more, List.all_append, ht.1, List.all_cons, hvk, List.all_nil, Bool.and_self, Bool.and_true]
      · rw [set_at m j j _ hn, if_pos rfl]
        have := ht.2
        simp only [more, List.length_append, List.length_singleton]
        omega
    · rw [hother j hj e]; rfl
end Go.Proofs.YtckebppacealeaaDoor.Lk
