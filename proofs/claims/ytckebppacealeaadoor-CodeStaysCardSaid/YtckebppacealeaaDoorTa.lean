/- The reader of code.Decode: fail and number. Conditions: the reader stands; bytes are bytes. -/
import Derived.Test.YtckebppacealeaaDoorRe
namespace Go.Proofs.YtckebppacealeaaDoor.Rk
open Go.RowKit Go.Proofs.YtckebppacealeaaDoorW.PrintWords Go.Proofs.YtckebppacealeaaDoorW.PrintLast Go.Proofs.YtckebppacealeaaDoorW.PrintMore Go.Proofs.YtckebppacealeaaDoorW.PrintWords.Kd Go.Proofs.YtckebppacealeaaDoor.PCodeUnlike Go.Proofs.YtckebppacealeaaDoor.Lp Go.Proofs.YtckebppacealeaaDoor.Lk
attribute [local go_sem] max2_int min2_int max_two min_two max_three min_three max_four min_four
set_option linter.unusedVariables false
set_option linter.unusedSimpArgs false
variable {w w1 : World}
/-- Where the reader is, and what is amiss: at which place, which number. -/
structure St where
  pos : Nat
  err : Option (Nat × Int)
def ErrAt (w : World) (base : Nat) : Option (Nat × Int) → Value → Prop
  | none, v => v = .nilIface
  | some (p, c), v => ∃ g, base ≤ g ∧ v = .iface 67 (.pointer (some ⟨g, 0, none⟩)) ∧ w.heap[g]? = some (.cells #[.int .i64 (p : Int), .iface 46 (.int .i64 c)] 72 (0, 0))
/-- The reader at block br, of the bytes bs (at A), made since w0. -/
structure Rdr (w0 w : World) (br : Nat) (A : Option Addr) (c : Nat) (bs : List Int) (st : St) : Prop where
  low : Below w0.heap.size w0 w
  ge : w0.heap.size ≤ br
  blk : ∃ ev, w.heap[br]? = some (.cells #[.slice A bs.length c, .int .i64 (st.pos : Int), ev] 78 (0, 0)) ∧ ErrAt w w0.heap.size st.err ev
/-- All but the reader stays. -/
def Keeps (br : Nat) (w W : World) : Prop := Kept w W (fun k => k = br)
theorem Keeps.refl (br : Nat) (w : World) : Keeps br w w := Kept.refl _ _
theorem Keeps.trans {br : Nat} {w W U : World} (h : Keeps br w W) (k : Keeps br W U) : Keeps br w U := Kept.then_ h k (fun j hj => .inl hj)
theorem Keeps.below {br : Nat} {w W U : World} (h : Keeps br w W) (hb : Below W.heap.size W U) : Keeps br w U := Kept.below h hb
theorem ErrAt.below {base : Nat} {r : Option (Nat × Int)} {v : Value} (h : ErrAt w base r v) (hb : Below w.heap.size w w1) : ErrAt w1 base r v := by
  match r, h with
  | none, h => exact h
  | some (p, c), ⟨g, h1, h2, h3⟩ => exact ⟨g, h1, h2, blk_below h3 hb⟩
theorem Rdr.below {w0 w W : World} {br : Nat} {A : Option Addr} {c : Nat} {bs : List Int} {st : St} (h : Rdr w0 w br A c bs st) (hb : Below w.heap.size w W) : Rdr w0 W br A c bs st := by
  obtain ⟨h1, h2, ev, h3, h4⟩ := h
  exact ⟨below_step h1 hb, h2, ev, blk_below h3 hb, h4.below hb⟩
def dFail (st : St) (p : Nat) (c : Int) : St := match st.err with
  | none => ⟨st.pos, some (p, c)⟩
  | some _ => st
set_option maxHeartbeats 4000000 in
set_option maxRecDepth 100000 in
theorem fail_any {w0 : World} {br : Nat} {A : Option Addr} {c : Nat} {bs : List Int} {st : St} (h : Rdr w0 w br A c bs st) (p : Nat) (k : Int) :
    Calls Tryd.prog 32 #[.pointer (some ⟨br, 0, none⟩), .int .i64 (p : Int), .iface 46 (.int .i64 k)] w fun e w' => e = .returned (.tuple #[]) ∧ Rdr w0 w' br A c bs (dFail st p k) ∧ Keeps br w w' := by
  obtain ⟨pos, err⟩ := st
  obtain ⟨h1, h2, ev, h3, h4⟩ := h
  dsimp only at h3 h4
  have hc2 : w.cell? ⟨br, 2, none⟩ = some ev := (blk_cell h3 2).trans rfl
  cases err with
  | some pc =>
    obtain ⟨p0, c0⟩ := pc
    obtain ⟨g, g1, rfl, g3⟩ := h4
    have H := Aside0.mk (show Rdr w0 w br A c bs ⟨pos, some (p0, c0)⟩ from ⟨h1, h2, _, h3, g, g1, rfl, g3⟩)
    clear h1 h2 h3 g1 g3
    go_enter Tryd.func32, Tryd.ntmps32
    go_wp2
    go_returns
    exact ⟨rfl, H.out, Keeps.refl _ _⟩
  | none =>
    obtain rfl : ev = .nilIface := h4
    have hlt := blk_lt h3
    have HX := Aside0.mk h3
    have H1 := Aside0.mk h1
    have H2 := Aside0.mk h2
    have hf2 := blk_frozen h3 2
    clear h1 h2 h3
    go_enter Tryd.func32, Tryd.ntmps32
    go_wp2
    go_returns
    have hp := blk_put HX.out 2 (.iface 67 (.pointer (some ⟨w.heap.size, 0, none⟩))) rfl
    have hsz : (w.setCell ⟨br, 2, none⟩ (.iface 67 (.pointer (some ⟨w.heap.size, 0, none⟩)))).heap.size = w.heap.size := by simp
    have hn := blk_new (w.setCell ⟨br, 2, none⟩ (.iface 67 (.pointer (some ⟨w.heap.size, 0, none⟩)))) (.cells #[.int .i64 (p : Int), .iface 46 (.int .i64 k)] 72)
    rw [hsz] at hn
    refine ⟨rfl, ⟨(H1.out.setCell (p := ⟨br, 2, none⟩) H2.out _).alloc (by rw [hsz]; exact H1.out.size) _, H2.out, _, blk_alloc hp _, w.heap.size, H1.out.size, rfl, hn⟩, ?_⟩
    exact Kept.alloc (Kept.setCell (Kept.refl w (fun k => k = br)) (p := ⟨br, 2, none⟩) (.inl rfl) _) _
theorem and_byte (x : Nat) (h : x < 256) : Go.bits .and .u8 (x : Int) 127 = ((x % 128 : Nat) : Int) := by
  have key : ∀ y : Fin 256, Go.bits .and .u8 ((y.val : Nat) : Int) 127 = ((y.val % 128 : Nat) : Int) := by decide +kernel
  exact key ⟨x, h⟩
theorem or_nat (a b : Nat) (ha : a < 18446744073709551616) (hb : b < 18446744073709551616) : Go.bits .or .u64 (a : Int) (b : Int) = ((a ||| b : Nat) : Int) := by
  unfold Go.bits
  simp only
  have e : (BitVec.ofInt IntKind.u64.bits (a : Int) ||| BitVec.ofInt IntKind.u64.bits (b : Int)).toNat = a ||| b := by
    show (BitVec.ofInt 64 (a : Int) ||| BitVec.ofInt 64 (b : Int)).toNat = a ||| b
    rw [BitVec.toNat_or, BitVec.toNat_ofInt, BitVec.toNat_ofInt]
    congr 1 <;> omega
  rw [e, wrap_u]
  have : a ||| b < 2 ^ 64 := Nat.or_lt_two_pow ha hb
  unfold m64
  omega
theorem val_eq (n x i : Nat) (hn : n < 128 ^ i) (hx : x < 256) (hi : i ≤ 9) (h9 : i = 9 → x ≤ 1) (p : Int) (hp : p = ((2 ^ (7 * i) : Nat) : Int)) :
    Go.bits .or .u64 (n : Int) (IntKind.u64.wrap (IntKind.u64.wrap (Go.bits .and .u8 (x : Int) 127) * p)) = ((n + x % 128 * 128 ^ i : Nat) : Int) := by
  have e7 : (128 : Nat) ^ i = 2 ^ (7 * i) := by rw [Nat.pow_mul]
  rw [e7] at hn ⊢
  have hpow : 2 ^ (7 * i) ≤ 2 ^ 63 := Nat.pow_le_pow_right (by omega) (by omega)
  have hb : x % 128 * 2 ^ (7 * i) < 18446744073709551616 := by
    by_cases h : i = 9
    · subst h
      have := h9 rfl
      have : x % 128 ≤ 1 := by omega
      calc x % 128 * 2 ^ (7 * 9) ≤ 1 * 2 ^ (7 * 9) := Nat.mul_le_mul_right _ this
        _ < _ := by decide
    · have h2 : 2 ^ (7 * i) ≤ 2 ^ 56 := Nat.pow_le_pow_right (by omega) (by omega)
      have h3 : x % 128 ≤ 127 := by omega
      calc x % 128 * 2 ^ (7 * i) ≤ 127 * 2 ^ 56 := Nat.mul_le_mul h3 h2
        _ < _ := by decide
  rw [and_byte x hx, wrap_u, wrap_u, hp]
  have e1 : m64 ((x % 128 : Nat) : Int) = x % 128 := by unfold m64; omega
  rw [e1]
  have e2 : m64 (((x % 128 : Nat) : Int) * ((2 ^ (7 * i) : Nat) : Int)) = x % 128 * 2 ^ (7 * i) := by
    unfold m64
    have : (((x % 128 : Nat) : Int) * ((2 ^ (7 * i) : Nat) : Int)) = ((x % 128 * 2 ^ (7 * i) : Nat) : Int) := by rw [Int.natCast_mul]
    rw [this]
    omega
  rw [e2, or_nat _ _ (by omega) hb]
  have h4 := Nat.two_pow_add_eq_or_of_lt hn (x % 128)
  have h5 : n ||| x % 128 * 2 ^ (7 * i) = n + x % 128 * 2 ^ (7 * i) := by
    rw [Nat.or_comm, Nat.mul_comm (x % 128)]
    omega
  rw [h5]
theorem shl_i (a : Int) (i : Nat) (hi : i ≤ 9) : Op.shift .shl .u64 a .i64 (7 * (i : Int)) = pure (.int .u64 (IntKind.u64.wrap (a * ((2 ^ (7 * i) : Nat) : Int)))) := by
  rw [shift_shl .u64 .i64 a (7 * (i : Int)) (by omega) (by show 7 * (i : Int) ≤ 64; omega)]
  have : (7 * (i : Int)).toNat = 7 * i := by omega
  rw [this]
  simp
/-! ### A number -/
def dGo (bs : List Int) (frm : Nat) : Nat → Nat → Nat → Nat → Nat × St
  | 0, i, n, at_ => (0, ⟨at_, some (frm, 2)⟩)
  | k + 1, i, n, at_ =>
    if bs.length ≤ at_ then (0, ⟨at_, some (frm, 2)⟩)
    else if (i = 9 ∧ 1 < bs.getD at_ 0) ∨ (bs.getD at_ 0 = 0 ∧ 0 < i) then (0, ⟨at_ + 1, some (frm, 2)⟩)
    else if bs.getD at_ 0 < 128 then (n + (bs.getD at_ 0).toNat % 128 * 128 ^ i, ⟨at_ + 1, none⟩)
    else dGo bs frm k (i + 1) (n + (bs.getD at_ 0).toNat % 128 * 128 ^ i) (at_ + 1)
def dNum (bs : List Int) (st : St) : Nat × St := match st.err with
  | some _ => (0, st)
  | none => dGo bs st.pos 10 0 0 st.pos
set_option maxHeartbeats 8000000 in
set_option maxRecDepth 100000 in
theorem rnum_any {w0 : World} {br : Nat} {A : Option Addr} {c : Nat} {bs : List Int} {st : St} (h : Rdr w0 w br A c bs st) (hC : Kd.C (Kd.int .u8) w0 A bs.length bs) (hby : ∀ a ∈ bs, Byte a) (hl : bs.length ≤ 100000000000) (hp : st.pos ≤ bs.length) :
    Calls Tryd.prog 71 #[.pointer (some ⟨br, 0, none⟩)] w fun e w' => e = .returned (.int .u64 ((dNum bs st).1 : Int)) ∧ Rdr w0 w' br A c bs (dNum bs st).2 ∧ Keeps br w w' := by
  obtain ⟨pos, err⟩ := st
  dsimp only at hp
  have HR := Aside0.mk h
  obtain ⟨h1, h2, ev, h3, h4⟩ := h
  dsimp only at h3 h4
  have hc1 : w.cell? ⟨br, 1, none⟩ = some (.int .i64 (pos : Int)) := (blk_cell h3 1).trans rfl
  have hc2 : w.cell? ⟨br, 2, none⟩ = some ev := (blk_cell h3 2).trans rfl
  cases err with
  | some pc =>
    obtain ⟨p0, c0⟩ := pc
    obtain ⟨g, g1, rfl, g3⟩ := h4
    clear h1 h2 h3 g1 g3 hC hby
    go_enter Tryd.func71, Tryd.ntmps71
    go_wp2
    refine wp_loop_rounds 1 ?_
    rw [rounds_succ]
    go_wp2
    go_ret
    exact ⟨rfl, HR.out, Keeps.refl _ _⟩
  | none =>
    obtain rfl : ev = .nilIface := h4
    have HC := Aside0.mk hC
    have HY := Aside0.mk hby
    have HL := Aside0.mk hl
    have HP := Aside0.mk hp
    clear h1 h2 h3 hC hby hl hp
    show Calls _ _ _ w fun e w' => e = .returned (.int .u64 ((dGo bs pos 10 0 0 pos).1 : Int)) ∧ Rdr w0 w' br A c bs (dGo bs pos 10 0 0 pos).2 ∧ Keeps br w w'
    generalize hD : dGo bs pos 10 0 0 pos = D
    have HD := Aside0.mk hD
    clear hD
    go_enter Tryd.func71, Tryd.ntmps71
    go_wp2
    go_loopw [2, 4, 5] (fun v2 v4 v5 wr => ∃ i n at_ : Nat, i ≤ 10 ∧ n < 128 ^ i ∧ at_ ≤ bs.length ∧ v2 = .int .u64 0 ∧ v4 = .int .u64 n ∧ v5 = .int .i64 i ∧ Aside0 (dGo bs pos (10 - i) i n at_ = D) ∧ Aside0 (Rdr w0 wr br A c bs ⟨at_, none⟩) ∧ Aside0 (Keeps br w wr)) (fun v2 v4 v5 _ => 11 - (intOf v5).toNat)
    case atStart => exact ⟨0, 0, pos, by omega, by omega, HP.out, rfl, rfl, rfl, HD, HR, ⟨Keeps.refl _ _⟩⟩
    case round =>
      clear HR HD hc1 hc2
      obtain ⟨i, n, at_, hi, hn, hat, rfl, rfl, rfl, HD, HR, HK⟩ := hrel
      obtain ⟨_, _, ev, hb, hev⟩ := HR.out
      obtain rfl : ev = .nilIface := hev
      dsimp only at hb
      have hc0 : wr.cell? ⟨br, 0, none⟩ = some (.slice A bs.length c) := (blk_cell hb 0).trans rfl
      have hc1 : wr.cell? ⟨br, 1, none⟩ = some (.int .i64 (at_ : Int)) := (blk_cell hb 1).trans rfl
      have hc2 : wr.cell? ⟨br, 2, none⟩ = some .nilIface := (blk_cell hb 2).trans rfl
      have HBL := Aside0.mk hb
      have hll := HL.out
      clear hb
      by_cases c1 : bs.length ≤ at_
      · have hd : D = (0, ⟨at_, some (pos, 2)⟩) := by
          rw [← HD.out]
          by_cases hi2 : i = 10
          · subst hi2
            rfl
          · obtain ⟨k, hk⟩ : ∃ k, 10 - i = k + 1 := ⟨9 - i, by omega⟩
            rw [hk, dGo, if_pos c1]
        have d1 : decide (bs.length ≤ at_) = true := decide_eq_true c1
        have d2 : decide ((bs.length : Int) ≤ (at_ : Int)) = true := decide_eq_true (by omega)
        have HD2 := Aside0.mk hd
        clear c1 hn hat hi hd
        go_wp2
        go_quiet (fail)
        go_wp2_with (fail)
        refine (fail_any (HR.out.below (pw_below_drewN (Below.refl _ _) _)) pos 2).mono ?_
        rintro e w6 ⟨rfl, hR, hK⟩
        have HR6 := Aside0.mk hR
        have HK6 := Aside0.mk (HK.out.trans (Kept.then_ (Kept.of_below (pw_below_drewN (Below.refl wr.heap.size wr) _) (fun k => k = br)) hK (fun j hj => .inl hj)))
        clear hR hK
        go_wp2
        go_ret
        rw [HD2.out]
        exact ⟨rfl, HR6.out, HK6.out⟩
      have d1 : decide (bs.length ≤ at_) = false := decide_eq_false c1
      have d2 : decide ((bs.length : Int) ≤ (at_ : Int)) = false := decide_eq_false (by omega)
      by_cases c2 : i = 10
      · subst c2
        have HD2 := Aside0.mk (show D = (0, ⟨at_, some (pos, 2)⟩) by rw [← HD.out]; rfl)
        clear c1 hn hat hi
        go_wp2
        go_quiet (fail)
        go_wp2_with (fail)
        refine (fail_any (HR.out.below (pw_below_drewN (Below.refl _ _) _)) pos 2).mono ?_
        rintro e w6 ⟨rfl, hR, hK⟩
        have HR6 := Aside0.mk hR
        have HK6 := Aside0.mk (HK.out.trans (Kept.then_ (Kept.of_below (pw_below_drewN (Below.refl wr.heap.size wr) _) (fun k => k = br)) hK (fun j hj => .inl hj)))
        clear hR hK
        go_wp2
        go_ret
        rw [HD2.out]
        exact ⟨rfl, HR6.out, HK6.out⟩
      have d3 : decide (10 ≤ i) = false := decide_eq_false (by omega)
      have d4 : decide ((10 : Int) ≤ (i : Int)) = false := decide_eq_false (by omega)
      obtain ⟨k, hk⟩ : ∃ k, 10 - i = k + 1 := ⟨9 - i, by omega⟩
      have hD := HD.out
      rw [hk, dGo, if_neg c1] at hD
      obtain ⟨ad, cs, rfl, _, hKx, hcx⟩ := Kd.C_get (Kd.C_below HC.out HR.out.low) (0 : Int) (at_ : Int) (by omega) (by omega)
      rw [Int.toNat_natCast] at hKx hcx
      have hbx := HY.out _ (getD_mem bs at_ 0 (by omega))
      generalize bs.getD at_ 0 = x at hD hKx hbx
      obtain rfl : cs = [.int .u8 x] := hKx
      have hx : wr.cell? (ad.add at_) = some (.int .u8 x) := by
        have := hcx 0 _ rfl
        have e2 : at_ * (Kd.int .u8).sz + 0 = at_ := by show at_ * 1 + 0 = at_; omega
        rwa [e2] at this
      have p1 := eq_true (show 0 ≤ (at_ : Int) by omega)
      have q1 := eq_true (show (at_ : Int) < (bs.length : Int) by omega)
      have HDD := Aside0.mk hD
      have HI := Aside0.mk (And.intro hi (And.intro hn (And.intro hat hk)))
      have HBX := Aside0.mk hbx
      have KEY := Aside0.mk (show ∀ q, Rdr w0 ((wr.drewN q).setCell ⟨br, 1, none⟩ (.int .i64 ((at_ : Int) + 1))) br (some ad) c bs ⟨at_ + 1, none⟩ ∧ Keeps br w ((wr.drewN q).setCell ⟨br, 1, none⟩ (.int .i64 ((at_ : Int) + 1))) from fun q => by
        have hR := HR.out.below (pw_below_drewN (Below.refl wr.heap.size wr) q)
        obtain ⟨r1, r2, ev, r3, r4⟩ := hR
        obtain rfl : ev = .nilIface := r4
        exact ⟨⟨r1.setCell (p := ⟨br, 1, none⟩) r2 _, r2, .nilIface, blk_put r3 1 _ rfl, rfl⟩, Kept.setCell (Keeps.below HK.out (pw_below_drewN (Below.refl wr.heap.size wr) q)) (p := ⟨br, 1, none⟩) (.inl rfl) _⟩)
      have hf1 := blk_frozen HBL.out 1
      have hsh := fun a => shl_i a i (by omega)
      clear hD hcx hbx hn hk c2
      go_wp2
      go_quiet (fail)
      go_wp2
      go_quiet (fail)
      go_wp2_with (go_at_call 32; refine (fail_any (KEY.out _).1 pos 2).mono ?_; rintro e w6 ⟨rfl, hR, hK⟩; have HR6 := Aside0.mk hR; have HK6 := Aside0.mk ((KEY.out _).2.trans hK); clear hR hK)
      all_goals have hD := HDD.out
      all_goals have hbx := HBX.out
      all_goals have hnn := HI.out.2.1
      all_goals have hkk := HI.out.2.2.2
      all_goals unfold Byte at hbx
      all_goals obtain ⟨y, rfl⟩ := Int.eq_ofNat_of_zero_le hbx.1
      all_goals first
        | (rw [if_pos (by omega)] at hD; subst hD; go_ret; exact ⟨rfl, HR6.out, HK6.out⟩)
        | (rw [if_neg (by omega), if_pos (by omega)] at hD
           subst hD
           go_ret
           refine ⟨congrArg (fun z => Ending.returned (Value.int .u64 z)) ?_, (KEY.out _).1, (KEY.out _).2⟩
           by_cases q9 : i = 9
           · subst q9
             first
               | (exfalso; omega)
               | exact val_eq n y 9 hnn (by omega) (by omega) (by omega) 9223372036854775808 (by decide)
           · by_cases q0 : y = 0
             · subst q0
               first
                 | (exfalso; omega)
                 | exact val_eq n 0 i hnn (by omega) (by omega) (by omega) (2 ^ (7 * i)) (by simp)
             · first
                 | (exfalso; omega)
                 | exact val_eq n y i hnn (by omega) (by omega) (by omega) (2 ^ (7 * i)) (by simp))
        | skip
      all_goals first
        | (rw [if_neg (by omega), if_neg (by omega)] at hD
           go_roundw
           case rel =>
             have hv := val_eq n y i hnn (by omega) (by omega) (by omega) (2 ^ (7 * i)) (by simp)
             refine ⟨i + 1, n + y % 128 * 128 ^ i, at_ + 1, by omega, ?_, by omega, rfl, ?_, by go_num, ⟨?_⟩, ⟨(KEY.out _).1⟩, ⟨(KEY.out _).2⟩⟩
             · rw [Nat.pow_succ]
               have h1 : y % 128 ≤ 127 := by omega
               have h2 := Nat.mul_le_mul_right (128 ^ i) h1
               omega
             · exact congrArg (fun z => Value.int .u64 z) hv
             · have hk2 : 10 - (i + 1) = k := by omega
               rw [hk2]
               exact hD
           case measure => simp [intOf]; omega)
        | skip
end Go.Proofs.YtckebppacealeaaDoor.Rk
