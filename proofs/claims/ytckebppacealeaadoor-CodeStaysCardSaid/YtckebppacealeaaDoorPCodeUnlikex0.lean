-- Laid by a program of this session (wip/pp/patch.py over the kit's print).
import Derived.Test.YtckebppacealeaaDoorProg
import Derived.Below
import Derived.Deep.Draws
import Derived.Deep.AppendLies
import Derived.Maps.AppendAt
import Derived.OwnWalk
import Derived.Laws.BytesArg
import Derived.Laws.MakeOwn
import Derived.Laws.OwnMore
import Derived.Deep.OwnRows
import Derived.Tactics
import Derived.Lib.ConvBytes
import Derived.Laws.Slices
import Derived.WalkKit
import Derived.KernelRfl
import Derived.RowKit3
import Derived.Deep.LoopGhost
import Derived.Deep.QuietTactic
import Derived.BigQuiet
import Derived.WideLaws
import Derived.Deep.DeepCutAuto
import Derived.Deep.CutBlock
import Derived.Deep.RegionHeld3
import Derived.Laws.Rows
import Derived.Lib.AppendStr
import Derived.ArgAppend
import Derived.Laws.IdiomCopy
import Derived.OrdersHeld
import Derived.Laws.BitsLemmas
import Derived.RowKit
import Derived.OneCell
import Derived.Laws.EntriesVeiled
import Derived.WalkSpells
import Derived.Lib.IfaceEq
import Derived.Lib.IfaceEq
import Derived.Lib.IfaceNeq
import Derived.LaidEql
import Derived.Test.YtckebppacealeaaDoorV0
namespace Go.Proofs.YtckebppacealeaaDoor.PCodeUnlike
open Go.RowKit Go.Proofs.YtckebppacealeaaDoorW.PrintWords Go.Proofs.YtckebppacealeaaDoorW.PrintLast Go.Proofs.YtckebppacealeaaDoorW.PrintMore Go.Proofs.YtckebppacealeaaDoorW.PrintWords.Kd
attribute [local go_sem] max2_int min2_int max_two min_two max_three min_three max_four min_four   -- for this text's walks alone
set_option linter.unusedVariables false
set_option linter.unusedSimpArgs false



def errW : Option Int → Value
  | none => .nilIface
  | some c => .iface 46 (.int .i64 c)
theorem errW_none : errW none = .nilIface := rfl
theorem errW_some (c : Int) : errW (some c) = .iface 46 (.int .i64 c) := rfl

theorem info3 : (Tryd.prog.info? 3).map (fun i => (i.zero, i.size, i.bytes)) = some (some (.int .i64 0), 1, 8) := by kernel_rfl
theorem info5 : (Tryd.prog.info? 5).map (fun i => (i.zero, i.size, i.bytes)) = some (some (.int .u8 0), 1, 1) := by kernel_rfl
theorem info47 : (Tryd.prog.info? 47).map (fun i => (i.zero, i.size, i.bytes)) = some (some (.slice none 0 0), 1, 24) := by kernel_rfl
-- the values' own types
def rd_L1 (xs : List (List Int)) (i : Int) : (List Int) := xs.getD i.toNat ([] : List Int)
theorem at_L1 {w : World} {A : Option Addr} {n : Nat} {xs : List (List Int)} (h : Kd.C (Kd.slice 3 (Kd.int .i64)) w A n xs) (i : Int) (h0 : 0 ≤ i) (h1 : i < n) : ∃ ad A0 c0, A = some ad ∧ w.cell? (ad.add i.toNat) = some (.slice A0 (rd_L1 xs i).length c0) ∧ (rd_L1 xs i).length ≤ c0 ∧ (Kd.int .i64).C w A0 (rd_L1 xs i).length (rd_L1 xs i) := by
  obtain ⟨ad, c, e, _, hK, hc0⟩ := Kd.C_get h ([] : List Int) i h0 h1
  have hc : ∀ j u, c[j]? = some u → w.cell? (ad.add (i.toNat * 1 + j)) = some u := hc0
  obtain ⟨A0, c0, rfl, l0, g0⟩ := hK
  exact ⟨ad, A0, c0, e, by have hq := hc 0 _ rfl; rwa [Nat.mul_one, Nat.add_zero] at hq, l0, g0⟩

/-! #### struct type 60 -/
structure S60 where
  f0 : Int
  f1 : (List Int)
def z60 : S60 := ⟨(0 : Int), ([] : List Int)⟩
def k60 : Kd S60 := Kd.iso (Kd.pair (Kd.int .i64) (Kd.slice 3 (Kd.int .i64))) (fun x : S60 => (x.f0, x.f1))
theorem k60_open {w : World} {x : S60} {cs : List Value} (h : k60.K w x cs) : ∃ A1 c1, cs = [.int .i64 x.f0, .slice A1 x.f1.length c1] ∧ x.f1.length ≤ c1 ∧ (Kd.int .i64).C w A1 x.f1.length x.f1 := by
  obtain ⟨_, _, rfl, rfl, ⟨A1, c1, rfl, l1, g1⟩⟩ := h
  exact ⟨A1, c1, rfl, l1, g1⟩
theorem k60_openM {w : World} {base : Nat} {ok : Nat → Prop} {x : S60} {cs : List Value} (h : k60.M w base ok x cs) : ∃ v1, cs = [.int .i64 x.f0, v1] ∧ (Kd.int .i64).R 3 w base ok v1 x.f1 := by
  obtain ⟨_, _, rfl, rfl, ⟨v1, rfl, g1⟩⟩ := h
  exact ⟨v1, rfl, g1⟩
theorem k60_mk (w : World) (x : S60) {A1 : Option Addr} {c1 : Nat} (l1 : x.f1.length ≤ c1) (g1 : (Kd.int .i64).C w A1 x.f1.length x.f1) : k60.K w x [.int .i64 x.f0, .slice A1 x.f1.length c1] := ⟨[.int .i64 x.f0], [.slice A1 x.f1.length c1], rfl, rfl, ⟨A1, c1, rfl, l1, g1⟩⟩
theorem k60_mkM (w : World) (base : Nat) (ok : Nat → Prop) (x : S60) {v1 : Value} (g1 : (Kd.int .i64).R 3 w base ok v1 x.f1) : k60.M w base ok x [.int .i64 x.f0, v1] := ⟨[.int .i64 x.f0], [v1], rfl, rfl, ⟨v1, rfl, g1⟩⟩
def rd_T60 (xs : List S60) (i : Int) : S60 := xs.getD i.toNat z60
theorem at_T60 {w : World} {A : Option Addr} {n : Nat} {xs : List S60} (h : Kd.C k60 w A n xs) (i : Int) (h0 : 0 ≤ i) (h1 : i < n) : ∃ ad A1 c1, A = some ad ∧ w.cell? (ad.add (i.toNat * 2)) = some (.int .i64 (rd_T60 xs i).f0) ∧ w.cell? ⟨(ad.add (i.toNat * 2)).block, (ad.add (i.toNat * 2)).off + 1, none⟩ = some (.slice A1 (rd_T60 xs i).f1.length c1) ∧ (rd_T60 xs i).f1.length ≤ c1 ∧ (Kd.int .i64).C w A1 (rd_T60 xs i).f1.length (rd_T60 xs i).f1 := by
  obtain ⟨ad, c, e, _, hK, hc0⟩ := Kd.C_get h z60 i h0 h1
  have hc : ∀ j u, c[j]? = some u → w.cell? (ad.add (i.toNat * 2 + j)) = some u := hc0
  obtain ⟨A1, c1, rfl, l1, g1⟩ := k60_open hK
  exact ⟨ad, A1, c1, e, hc 0 _ rfl, by rw [← add_field _ _ 1 (by omega)]; exact hc 1 _ rfl, l1, g1⟩

def rd_L3 (xs : List (List S60)) (i : Int) : (List S60) := xs.getD i.toNat ([] : List S60)
theorem at_L3 {w : World} {A : Option Addr} {n : Nat} {xs : List (List S60)} (h : Kd.C (Kd.slice 60 k60) w A n xs) (i : Int) (h0 : 0 ≤ i) (h1 : i < n) : ∃ ad A0 c0, A = some ad ∧ w.cell? (ad.add i.toNat) = some (.slice A0 (rd_L3 xs i).length c0) ∧ (rd_L3 xs i).length ≤ c0 ∧ k60.C w A0 (rd_L3 xs i).length (rd_L3 xs i) := by
  obtain ⟨ad, c, e, _, hK, hc0⟩ := Kd.C_get h ([] : List S60) i h0 h1
  have hc : ∀ j u, c[j]? = some u → w.cell? (ad.add (i.toNat * 1 + j)) = some u := hc0
  obtain ⟨A0, c0, rfl, l0, g0⟩ := hK
  exact ⟨ad, A0, c0, e, by have hq := hc 0 _ rfl; rwa [Nat.mul_one, Nat.add_zero] at hq, l0, g0⟩

/-! #### struct type 58 -/
structure S58 where
  f0 : Int
  f1 : Int
  f2 : (List Int)
  f3 : Int
  f4 : Int
def z58 : S58 := ⟨(0 : Int), (0 : Int), ([] : List Int), (0 : Int), (0 : Int)⟩
def k58 : Kd S58 := Kd.iso (Kd.pair (Kd.int .i64) (Kd.pair (Kd.int .i64) (Kd.pair (Kd.slice 3 (Kd.int .i64)) (Kd.pair (Kd.int .i64) (Kd.int .i64))))) (fun x : S58 => (x.f0, x.f1, x.f2, x.f3, x.f4))
theorem k58_open {w : World} {x : S58} {cs : List Value} (h : k58.K w x cs) : ∃ A2 c2, cs = [.int .i64 x.f0, .int .i64 x.f1, .slice A2 x.f2.length c2, .int .i64 x.f3, .int .i64 x.f4] ∧ x.f2.length ≤ c2 ∧ (Kd.int .i64).C w A2 x.f2.length x.f2 := by
  obtain ⟨_, _, rfl, rfl, ⟨_, _, rfl, rfl, ⟨_, _, rfl, ⟨A2, c2, rfl, l2, g2⟩, ⟨_, _, rfl, rfl, rfl⟩⟩⟩⟩ := h
  exact ⟨A2, c2, rfl, l2, g2⟩
theorem k58_openM {w : World} {base : Nat} {ok : Nat → Prop} {x : S58} {cs : List Value} (h : k58.M w base ok x cs) : ∃ v2, cs = [.int .i64 x.f0, .int .i64 x.f1, v2, .int .i64 x.f3, .int .i64 x.f4] ∧ (Kd.int .i64).R 3 w base ok v2 x.f2 := by
  obtain ⟨_, _, rfl, rfl, ⟨_, _, rfl, rfl, ⟨_, _, rfl, ⟨v2, rfl, g2⟩, ⟨_, _, rfl, rfl, rfl⟩⟩⟩⟩ := h
  exact ⟨v2, rfl, g2⟩
theorem k58_mk (w : World) (x : S58) {A2 : Option Addr} {c2 : Nat} (l2 : x.f2.length ≤ c2) (g2 : (Kd.int .i64).C w A2 x.f2.length x.f2) : k58.K w x [.int .i64 x.f0, .int .i64 x.f1, .slice A2 x.f2.length c2, .int .i64 x.f3, .int .i64 x.f4] := ⟨[.int .i64 x.f0], [.int .i64 x.f1, .slice A2 x.f2.length c2, .int .i64 x.f3, .int .i64 x.f4], rfl, rfl, ⟨[.int .i64 x.f1], [.slice A2 x.f2.length c2, .int .i64 x.f3, .int .i64 x.f4], rfl, rfl, ⟨[.slice A2 x.f2.length c2], [.int .i64 x.f3, .int .i64 x.f4], rfl, ⟨A2, c2, rfl, l2, g2⟩, ⟨[.int .i64 x.f3], [.int .i64 x.f4], rfl, rfl, rfl⟩⟩⟩⟩
theorem k58_mkM (w : World) (base : Nat) (ok : Nat → Prop) (x : S58) {v2 : Value} (g2 : (Kd.int .i64).R 3 w base ok v2 x.f2) : k58.M w base ok x [.int .i64 x.f0, .int .i64 x.f1, v2, .int .i64 x.f3, .int .i64 x.f4] := ⟨[.int .i64 x.f0], [.int .i64 x.f1, v2, .int .i64 x.f3, .int .i64 x.f4], rfl, rfl, ⟨[.int .i64 x.f1], [v2, .int .i64 x.f3, .int .i64 x.f4], rfl, rfl, ⟨[v2], [.int .i64 x.f3, .int .i64 x.f4], rfl, ⟨v2, rfl, g2⟩, ⟨[.int .i64 x.f3], [.int .i64 x.f4], rfl, rfl, rfl⟩⟩⟩⟩
def rd_T58 (xs : List S58) (i : Int) : S58 := xs.getD i.toNat z58
theorem at_T58 {w : World} {A : Option Addr} {n : Nat} {xs : List S58} (h : Kd.C k58 w A n xs) (i : Int) (h0 : 0 ≤ i) (h1 : i < n) : ∃ ad A2 c2, A = some ad ∧ w.cell? (ad.add (i.toNat * 5)) = some (.int .i64 (rd_T58 xs i).f0) ∧ w.cell? ⟨(ad.add (i.toNat * 5)).block, (ad.add (i.toNat * 5)).off + 1, none⟩ = some (.int .i64 (rd_T58 xs i).f1) ∧ w.cell? ⟨(ad.add (i.toNat * 5)).block, (ad.add (i.toNat * 5)).off + 2, none⟩ = some (.slice A2 (rd_T58 xs i).f2.length c2) ∧ w.cell? ⟨(ad.add (i.toNat * 5)).block, (ad.add (i.toNat * 5)).off + 3, none⟩ = some (.int .i64 (rd_T58 xs i).f3) ∧ w.cell? ⟨(ad.add (i.toNat * 5)).block, (ad.add (i.toNat * 5)).off + 4, none⟩ = some (.int .i64 (rd_T58 xs i).f4) ∧ (rd_T58 xs i).f2.length ≤ c2 ∧ (Kd.int .i64).C w A2 (rd_T58 xs i).f2.length (rd_T58 xs i).f2 := by
  obtain ⟨ad, c, e, _, hK, hc0⟩ := Kd.C_get h z58 i h0 h1
  have hc : ∀ j u, c[j]? = some u → w.cell? (ad.add (i.toNat * 5 + j)) = some u := hc0
  obtain ⟨A2, c2, rfl, l2, g2⟩ := k58_open hK
  exact ⟨ad, A2, c2, e, hc 0 _ rfl, by rw [← add_field _ _ 1 (by omega)]; exact hc 1 _ rfl, by rw [← add_field _ _ 2 (by omega)]; exact hc 2 _ rfl, by rw [← add_field _ _ 3 (by omega)]; exact hc 3 _ rfl, by rw [← add_field _ _ 4 (by omega)]; exact hc 4 _ rfl, l2, g2⟩

def rd_L5 (xs : List (List S58)) (i : Int) : (List S58) := xs.getD i.toNat ([] : List S58)
theorem at_L5 {w : World} {A : Option Addr} {n : Nat} {xs : List (List S58)} (h : Kd.C (Kd.slice 58 k58) w A n xs) (i : Int) (h0 : 0 ≤ i) (h1 : i < n) : ∃ ad A0 c0, A = some ad ∧ w.cell? (ad.add i.toNat) = some (.slice A0 (rd_L5 xs i).length c0) ∧ (rd_L5 xs i).length ≤ c0 ∧ k58.C w A0 (rd_L5 xs i).length (rd_L5 xs i) := by
  obtain ⟨ad, c, e, _, hK, hc0⟩ := Kd.C_get h ([] : List S58) i h0 h1
  have hc : ∀ j u, c[j]? = some u → w.cell? (ad.add (i.toNat * 1 + j)) = some u := hc0
  obtain ⟨A0, c0, rfl, l0, g0⟩ := hK
  exact ⟨ad, A0, c0, e, by have hq := hc 0 _ rfl; rwa [Nat.mul_one, Nat.add_zero] at hq, l0, g0⟩

/-! #### struct type 54 -/
structure S54 where
  f0 : Int
  f1 : Int
  f2 : (List Int)
def z54 : S54 := ⟨(0 : Int), (0 : Int), ([] : List Int)⟩
def k54 : Kd S54 := Kd.iso (Kd.pair (Kd.int .i64) (Kd.pair (Kd.int .i64) (Kd.slice 3 (Kd.int .i64)))) (fun x : S54 => (x.f0, x.f1, x.f2))
theorem k54_open {w : World} {x : S54} {cs : List Value} (h : k54.K w x cs) : ∃ A2 c2, cs = [.int .i64 x.f0, .int .i64 x.f1, .slice A2 x.f2.length c2] ∧ x.f2.length ≤ c2 ∧ (Kd.int .i64).C w A2 x.f2.length x.f2 := by
  obtain ⟨_, _, rfl, rfl, ⟨_, _, rfl, rfl, ⟨A2, c2, rfl, l2, g2⟩⟩⟩ := h
  exact ⟨A2, c2, rfl, l2, g2⟩
theorem k54_openM {w : World} {base : Nat} {ok : Nat → Prop} {x : S54} {cs : List Value} (h : k54.M w base ok x cs) : ∃ v2, cs = [.int .i64 x.f0, .int .i64 x.f1, v2] ∧ (Kd.int .i64).R 3 w base ok v2 x.f2 := by
  obtain ⟨_, _, rfl, rfl, ⟨_, _, rfl, rfl, ⟨v2, rfl, g2⟩⟩⟩ := h
  exact ⟨v2, rfl, g2⟩
theorem k54_mk (w : World) (x : S54) {A2 : Option Addr} {c2 : Nat} (l2 : x.f2.length ≤ c2) (g2 : (Kd.int .i64).C w A2 x.f2.length x.f2) : k54.K w x [.int .i64 x.f0, .int .i64 x.f1, .slice A2 x.f2.length c2] := ⟨[.int .i64 x.f0], [.int .i64 x.f1, .slice A2 x.f2.length c2], rfl, rfl, ⟨[.int .i64 x.f1], [.slice A2 x.f2.length c2], rfl, rfl, ⟨A2, c2, rfl, l2, g2⟩⟩⟩
theorem k54_mkM (w : World) (base : Nat) (ok : Nat → Prop) (x : S54) {v2 : Value} (g2 : (Kd.int .i64).R 3 w base ok v2 x.f2) : k54.M w base ok x [.int .i64 x.f0, .int .i64 x.f1, v2] := ⟨[.int .i64 x.f0], [.int .i64 x.f1, v2], rfl, rfl, ⟨[.int .i64 x.f1], [v2], rfl, rfl, ⟨v2, rfl, g2⟩⟩⟩
def rd_T54 (xs : List S54) (i : Int) : S54 := xs.getD i.toNat z54
theorem at_T54 {w : World} {A : Option Addr} {n : Nat} {xs : List S54} (h : Kd.C k54 w A n xs) (i : Int) (h0 : 0 ≤ i) (h1 : i < n) : ∃ ad A2 c2, A = some ad ∧ w.cell? (ad.add (i.toNat * 3)) = some (.int .i64 (rd_T54 xs i).f0) ∧ w.cell? ⟨(ad.add (i.toNat * 3)).block, (ad.add (i.toNat * 3)).off + 1, none⟩ = some (.int .i64 (rd_T54 xs i).f1) ∧ w.cell? ⟨(ad.add (i.toNat * 3)).block, (ad.add (i.toNat * 3)).off + 2, none⟩ = some (.slice A2 (rd_T54 xs i).f2.length c2) ∧ (rd_T54 xs i).f2.length ≤ c2 ∧ (Kd.int .i64).C w A2 (rd_T54 xs i).f2.length (rd_T54 xs i).f2 := by
  obtain ⟨ad, c, e, _, hK, hc0⟩ := Kd.C_get h z54 i h0 h1
  have hc : ∀ j u, c[j]? = some u → w.cell? (ad.add (i.toNat * 3 + j)) = some u := hc0
  obtain ⟨A2, c2, rfl, l2, g2⟩ := k54_open hK
  exact ⟨ad, A2, c2, e, hc 0 _ rfl, by rw [← add_field _ _ 1 (by omega)]; exact hc 1 _ rfl, by rw [← add_field _ _ 2 (by omega)]; exact hc 2 _ rfl, l2, g2⟩

/-! #### struct type 56 -/
structure S56 where
  f0 : (List S60)
  f1 : (List S58)
  f2 : S54
def z56 : S56 := ⟨([] : List S60), ([] : List S58), z54⟩
def k56 : Kd S56 := Kd.iso (Kd.pair (Kd.slice 60 k60) (Kd.pair (Kd.slice 58 k58) k54)) (fun x : S56 => (x.f0, x.f1, x.f2))
theorem k56_open {w : World} {x : S56} {cs : List Value} (h : k56.K w x cs) : ∃ A0 c0 A1 c1 A4 c4, cs = [.slice A0 x.f0.length c0, .slice A1 x.f1.length c1, .int .i64 x.f2.f0, .int .i64 x.f2.f1, .slice A4 x.f2.f2.length c4] ∧ x.f0.length ≤ c0 ∧ k60.C w A0 x.f0.length x.f0 ∧ x.f1.length ≤ c1 ∧ k58.C w A1 x.f1.length x.f1 ∧ x.f2.f2.length ≤ c4 ∧ (Kd.int .i64).C w A4 x.f2.f2.length x.f2.f2 := by
  obtain ⟨_, _, rfl, ⟨A0, c0, rfl, l0, g0⟩, ⟨_, _, rfl, ⟨A1, c1, rfl, l1, g1⟩, s2⟩⟩ := h
  obtain ⟨A4, c4, rfl, l4, g4⟩ := k54_open s2
  exact ⟨A0, c0, A1, c1, A4, c4, rfl, l0, g0, l1, g1, l4, g4⟩
theorem k56_openM {w : World} {base : Nat} {ok : Nat → Prop} {x : S56} {cs : List Value} (h : k56.M w base ok x cs) : ∃ v0 v1 v4, cs = [v0, v1, .int .i64 x.f2.f0, .int .i64 x.f2.f1, v4] ∧ k60.R 60 w base ok v0 x.f0 ∧ k58.R 58 w base ok v1 x.f1 ∧ (Kd.int .i64).R 3 w base ok v4 x.f2.f2 := by
  obtain ⟨_, _, rfl, ⟨v0, rfl, g0⟩, ⟨_, _, rfl, ⟨v1, rfl, g1⟩, s2⟩⟩ := h
  obtain ⟨v4, rfl, g4⟩ := k54_openM s2
  exact ⟨v0, v1, v4, rfl, g0, g1, g4⟩
theorem k56_mk (w : World) (x : S56) {A0 : Option Addr} {c0 : Nat} (l0 : x.f0.length ≤ c0) (g0 : k60.C w A0 x.f0.length x.f0) {A1 : Option Addr} {c1 : Nat} (l1 : x.f1.length ≤ c1) (g1 : k58.C w A1 x.f1.length x.f1) {A4 : Option Addr} {c4 : Nat} (l4 : x.f2.f2.length ≤ c4) (g4 : (Kd.int .i64).C w A4 x.f2.f2.length x.f2.f2) : k56.K w x [.slice A0 x.f0.length c0, .slice A1 x.f1.length c1, .int .i64 x.f2.f0, .int .i64 x.f2.f1, .slice A4 x.f2.f2.length c4] := ⟨[.slice A0 x.f0.length c0], [.slice A1 x.f1.length c1, .int .i64 x.f2.f0, .int .i64 x.f2.f1, .slice A4 x.f2.f2.length c4], rfl, ⟨A0, c0, rfl, l0, g0⟩, ⟨[.slice A1 x.f1.length c1], [.int .i64 x.f2.f0, .int .i64 x.f2.f1, .slice A4 x.f2.f2.length c4], rfl, ⟨A1, c1, rfl, l1, g1⟩, (k54_mk w x.f2 l4 g4)⟩⟩
theorem k56_mkM (w : World) (base : Nat) (ok : Nat → Prop) (x : S56) {v0 : Value} (g0 : k60.R 60 w base ok v0 x.f0) {v1 : Value} (g1 : k58.R 58 w base ok v1 x.f1) {v4 : Value} (g4 : (Kd.int .i64).R 3 w base ok v4 x.f2.f2) : k56.M w base ok x [v0, v1, .int .i64 x.f2.f0, .int .i64 x.f2.f1, v4] := ⟨[v0], [v1, .int .i64 x.f2.f0, .int .i64 x.f2.f1, v4], rfl, ⟨v0, rfl, g0⟩, ⟨[v1], [.int .i64 x.f2.f0, .int .i64 x.f2.f1, v4], rfl, ⟨v1, rfl, g1⟩, (k54_mkM w base ok x.f2 g4)⟩⟩
def rd_T56 (xs : List S56) (i : Int) : S56 := xs.getD i.toNat z56
theorem at_T56 {w : World} {A : Option Addr} {n : Nat} {xs : List S56} (h : Kd.C k56 w A n xs) (i : Int) (h0 : 0 ≤ i) (h1 : i < n) : ∃ ad A0 c0 A1 c1 A4 c4, A = some ad ∧ w.cell? (ad.add (i.toNat * 5)) = some (.slice A0 (rd_T56 xs i).f0.length c0) ∧ w.cell? ⟨(ad.add (i.toNat * 5)).block, (ad.add (i.toNat * 5)).off + 1, none⟩ = some (.slice A1 (rd_T56 xs i).f1.length c1) ∧ w.cell? ⟨(ad.add (i.toNat * 5)).block, (ad.add (i.toNat * 5)).off + 2, none⟩ = some (.int .i64 (rd_T56 xs i).f2.f0) ∧ w.cell? ⟨(ad.add (i.toNat * 5)).block, (ad.add (i.toNat * 5)).off + 3, none⟩ = some (.int .i64 (rd_T56 xs i).f2.f1) ∧ w.cell? ⟨(ad.add (i.toNat * 5)).block, (ad.add (i.toNat * 5)).off + 4, none⟩ = some (.slice A4 (rd_T56 xs i).f2.f2.length c4) ∧ (rd_T56 xs i).f0.length ≤ c0 ∧ k60.C w A0 (rd_T56 xs i).f0.length (rd_T56 xs i).f0 ∧ (rd_T56 xs i).f1.length ≤ c1 ∧ k58.C w A1 (rd_T56 xs i).f1.length (rd_T56 xs i).f1 ∧ (rd_T56 xs i).f2.f2.length ≤ c4 ∧ (Kd.int .i64).C w A4 (rd_T56 xs i).f2.f2.length (rd_T56 xs i).f2.f2 := by
  obtain ⟨ad, c, e, _, hK, hc0⟩ := Kd.C_get h z56 i h0 h1
  have hc : ∀ j u, c[j]? = some u → w.cell? (ad.add (i.toNat * 5 + j)) = some u := hc0
  obtain ⟨A0, c0, A1, c1, A4, c4, rfl, l0, g0, l1, g1, l4, g4⟩ := k56_open hK
  exact ⟨ad, A0, c0, A1, c1, A4, c4, e, hc 0 _ rfl, by rw [← add_field _ _ 1 (by omega)]; exact hc 1 _ rfl, by rw [← add_field _ _ 2 (by omega)]; exact hc 2 _ rfl, by rw [← add_field _ _ 3 (by omega)]; exact hc 3 _ rfl, by rw [← add_field _ _ 4 (by omega)]; exact hc 4 _ rfl, l0, g0, l1, g1, l4, g4⟩

def rd_L8 (xs : List (List S56)) (i : Int) : (List S56) := xs.getD i.toNat ([] : List S56)
theorem at_L8 {w : World} {A : Option Addr} {n : Nat} {xs : List (List S56)} (h : Kd.C (Kd.slice 56 k56) w A n xs) (i : Int) (h0 : 0 ≤ i) (h1 : i < n) : ∃ ad A0 c0, A = some ad ∧ w.cell? (ad.add i.toNat) = some (.slice A0 (rd_L8 xs i).length c0) ∧ (rd_L8 xs i).length ≤ c0 ∧ k56.C w A0 (rd_L8 xs i).length (rd_L8 xs i) := by
  obtain ⟨ad, c, e, _, hK, hc0⟩ := Kd.C_get h ([] : List S56) i h0 h1
  have hc : ∀ j u, c[j]? = some u → w.cell? (ad.add (i.toNat * 1 + j)) = some u := hc0
  obtain ⟨A0, c0, rfl, l0, g0⟩ := hK
  exact ⟨ad, A0, c0, e, by have hq := hc 0 _ rfl; rwa [Nat.mul_one, Nat.add_zero] at hq, l0, g0⟩

/-! #### struct type 50 -/
structure S50 where
  f0 : Int
  f1 : Int
  f2 : (List Int)
  f3 : (List S56)
def z50 : S50 := ⟨(0 : Int), (0 : Int), ([] : List Int), ([] : List S56)⟩
def k50 : Kd S50 := Kd.iso (Kd.pair (Kd.int .i64) (Kd.pair (Kd.int .i64) (Kd.pair (Kd.slice 3 (Kd.int .i64)) (Kd.slice 56 k56)))) (fun x : S50 => (x.f0, x.f1, x.f2, x.f3))
theorem k50_open {w : World} {x : S50} {cs : List Value} (h : k50.K w x cs) : ∃ A2 c2 A3 c3, cs = [.int .i64 x.f0, .int .i64 x.f1, .slice A2 x.f2.length c2, .slice A3 x.f3.length c3] ∧ x.f2.length ≤ c2 ∧ (Kd.int .i64).C w A2 x.f2.length x.f2 ∧ x.f3.length ≤ c3 ∧ k56.C w A3 x.f3.length x.f3 := by
  obtain ⟨_, _, rfl, rfl, ⟨_, _, rfl, rfl, ⟨_, _, rfl, ⟨A2, c2, rfl, l2, g2⟩, ⟨A3, c3, rfl, l3, g3⟩⟩⟩⟩ := h
  exact ⟨A2, c2, A3, c3, rfl, l2, g2, l3, g3⟩
theorem k50_openM {w : World} {base : Nat} {ok : Nat → Prop} {x : S50} {cs : List Value} (h : k50.M w base ok x cs) : ∃ v2 v3, cs = [.int .i64 x.f0, .int .i64 x.f1, v2, v3] ∧ (Kd.int .i64).R 3 w base ok v2 x.f2 ∧ k56.R 56 w base ok v3 x.f3 := by
  obtain ⟨_, _, rfl, rfl, ⟨_, _, rfl, rfl, ⟨_, _, rfl, ⟨v2, rfl, g2⟩, ⟨v3, rfl, g3⟩⟩⟩⟩ := h
  exact ⟨v2, v3, rfl, g2, g3⟩
theorem k50_mk (w : World) (x : S50) {A2 : Option Addr} {c2 : Nat} (l2 : x.f2.length ≤ c2) (g2 : (Kd.int .i64).C w A2 x.f2.length x.f2) {A3 : Option Addr} {c3 : Nat} (l3 : x.f3.length ≤ c3) (g3 : k56.C w A3 x.f3.length x.f3) : k50.K w x [.int .i64 x.f0, .int .i64 x.f1, .slice A2 x.f2.length c2, .slice A3 x.f3.length c3] := ⟨[.int .i64 x.f0], [.int .i64 x.f1, .slice A2 x.f2.length c2, .slice A3 x.f3.length c3], rfl, rfl, ⟨[.int .i64 x.f1], [.slice A2 x.f2.length c2, .slice A3 x.f3.length c3], rfl, rfl, ⟨[.slice A2 x.f2.length c2], [.slice A3 x.f3.length c3], rfl, ⟨A2, c2, rfl, l2, g2⟩, ⟨A3, c3, rfl, l3, g3⟩⟩⟩⟩
theorem k50_mkM (w : World) (base : Nat) (ok : Nat → Prop) (x : S50) {v2 : Value} (g2 : (Kd.int .i64).R 3 w base ok v2 x.f2) {v3 : Value} (g3 : k56.R 56 w base ok v3 x.f3) : k50.M w base ok x [.int .i64 x.f0, .int .i64 x.f1, v2, v3] := ⟨[.int .i64 x.f0], [.int .i64 x.f1, v2, v3], rfl, rfl, ⟨[.int .i64 x.f1], [v2, v3], rfl, rfl, ⟨[v2], [v3], rfl, ⟨v2, rfl, g2⟩, ⟨v3, rfl, g3⟩⟩⟩⟩
def rd_T50 (xs : List S50) (i : Int) : S50 := xs.getD i.toNat z50
theorem at_T50 {w : World} {A : Option Addr} {n : Nat} {xs : List S50} (h : Kd.C k50 w A n xs) (i : Int) (h0 : 0 ≤ i) (h1 : i < n) : ∃ ad A2 c2 A3 c3, A = some ad ∧ w.cell? (ad.add (i.toNat * 4)) = some (.int .i64 (rd_T50 xs i).f0) ∧ w.cell? ⟨(ad.add (i.toNat * 4)).block, (ad.add (i.toNat * 4)).off + 1, none⟩ = some (.int .i64 (rd_T50 xs i).f1) ∧ w.cell? ⟨(ad.add (i.toNat * 4)).block, (ad.add (i.toNat * 4)).off + 2, none⟩ = some (.slice A2 (rd_T50 xs i).f2.length c2) ∧ w.cell? ⟨(ad.add (i.toNat * 4)).block, (ad.add (i.toNat * 4)).off + 3, none⟩ = some (.slice A3 (rd_T50 xs i).f3.length c3) ∧ (rd_T50 xs i).f2.length ≤ c2 ∧ (Kd.int .i64).C w A2 (rd_T50 xs i).f2.length (rd_T50 xs i).f2 ∧ (rd_T50 xs i).f3.length ≤ c3 ∧ k56.C w A3 (rd_T50 xs i).f3.length (rd_T50 xs i).f3 := by
  obtain ⟨ad, c, e, _, hK, hc0⟩ := Kd.C_get h z50 i h0 h1
  have hc : ∀ j u, c[j]? = some u → w.cell? (ad.add (i.toNat * 4 + j)) = some u := hc0
  obtain ⟨A2, c2, A3, c3, rfl, l2, g2, l3, g3⟩ := k50_open hK
  exact ⟨ad, A2, c2, A3, c3, e, hc 0 _ rfl, by rw [← add_field _ _ 1 (by omega)]; exact hc 1 _ rfl, by rw [← add_field _ _ 2 (by omega)]; exact hc 2 _ rfl, by rw [← add_field _ _ 3 (by omega)]; exact hc 3 _ rfl, l2, g2, l3, g3⟩

theorem eqErr29 {w : World} (a b : Int) : (Go.binOp .eql 29 (.iface 46 (.int .i64 a)) (.iface 46 (.int .i64 b))).run Tryd.prog w = .ok (.bool (a == b)) w := Go.Lib.run_eql_iface_int w a b Tryd.underlying29 (by kernel_rfl) Tryd.underlying46
theorem neErr29 {w : World} (a b : Int) : (Go.binOp .neq 29 (.iface 46 (.int .i64 a)) (.iface 46 (.int .i64 b))).run Tryd.prog w = .ok (.bool (!(a == b))) w := Go.Lib.run_neq_iface_int w a b Tryd.underlying29 (by kernel_rfl) Tryd.underlying46
theorem nilErr29 {w : World} (v : Value) : (Go.binOp .eql 29 .nilIface (.iface 46 v)).run Tryd.prog w = .ok (.bool false) w := Go.run_eql_iface_nil_left w 46 v Tryd.underlying29
end Go.Proofs.YtckebppacealeaaDoor.PCodeUnlike
