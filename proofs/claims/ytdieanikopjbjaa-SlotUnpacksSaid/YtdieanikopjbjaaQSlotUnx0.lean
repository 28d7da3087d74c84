/- Written by a program of this session out of the translation: Lean functions with the same answers as the Go functions, and the walks that show it. -/
import Derived.Test.YtdieanikopjbjaaProg
import Derived.Below
import Derived.Deep.Draws
import Derived.Deep.AppendLies
import Derived.Maps.AppendAt
import Derived.OwnWalk
import Derived.Laws.BytesArg
import Derived.Laws.MakeOwn
import Derived.Laws.OwnMore
import Derived.Deep.OwnRows
import Derived.Tactics
import Derived.Lib.ConvBytes
import Derived.Laws.Slices
import Derived.WalkKit
import Derived.KernelRfl
import Derived.RowKit3
import Derived.Deep.LoopGhost
import Derived.Deep.QuietTactic
import Derived.BigQuiet
import Derived.WideLaws
import Derived.Deep.DeepCutAuto
import Derived.Deep.CutBlock
import Derived.Deep.RegionHeld3
import Derived.Laws.Rows
import Derived.Lib.AppendStr
import Derived.ArgAppend
import Derived.Laws.IdiomCopy
import Derived.OrdersHeld
import Derived.Laws.BitsLemmas
import Derived.RowKit
import Derived.WalkLawsBesides
import Derived.WalkSpells
import Derived.LoopN
import Derived.Test.YtdieanikopjbjaaShelf
import Derived.Test.YtdieanikopjbjaaVSearch
import Derived.Shelf.Abstract
import Derived.Test.YtdieanikopjbjaaVStepStr
import Derived.Deep.RegionLaw
import Derived.Laws.CopyOwn
import Derived.Lib.BufferWrite
import Derived.Laws.EntriesVeiled
import Derived.Laws.IdiomStrings
import Derived.Test.YtdieanikopjbjaaVWords
import Derived.Test.YtdieanikopjbjaaVLast
import Derived.Test.YtdieanikopjbjaaVTab
import Derived.Test.YtdieanikopjbjaaVFour
import Derived.Test.YtdieanikopjbjaaVQPut
import Derived.Test.YtdieanikopjbjaaVApart
import Derived.Test.YtdieanikopjbjaaVArr
import Derived.Test.YtdieanikopjbjaaVZeros
import Derived.Test.YtdieanikopjbjaaVFoot
import Derived.Test.YtdieanikopjbjaaVKept
import Derived.Test.YtdieanikopjbjaaVShare
import Derived.Test.YtdieanikopjbjaaVN
import Derived.Test.YtdieanikopjbjaaVFootNe
import Derived.Test.YtdieanikopjbjaaVAt
import Derived.Test.YtdieanikopjbjaaVEqStruct
import Derived.Test.YtdieanikopjbjaaVRepsOne
import Derived.Test.YtdieanikopjbjaaVInv
import Derived.Test.YtdieanikopjbjaaVInvWords
import Derived.Test.YtdieanikopjbjaaVGuard
import Derived.Test.YtdieanikopjbjaaVNEv
import Derived.Test.YtdieanikopjbjaaVMore
namespace Go.Proofs.Ytdieanikopjbjaa.QSlotUn
open Go.RowKit Go.Proofs.YtdieanikopjbjaaW.PrintWords Go.Proofs.YtdieanikopjbjaaW.PrintLast Go.Proofs.YtdieanikopjbjaaW.PrintMore
attribute [local go_sem] max2_int min2_int max_two min_two max_three min_three max_four min_four
attribute [local go_sem high] StepStr.leq_str StepStr.gtr_str
set_option linter.unusedVariables false
set_option linter.unusedSimpArgs false



def errW : Option Int → Value
  | none => .nilIface
  | some c => .iface 0 (.int .i64 c)
theorem errW_none : errW none = .nilIface := rfl
theorem errW_some (c : Int) : errW (some c) = .iface 0 (.int .i64 c) := rfl

theorem info5 : (Try.prog.info? 5).map (fun i => (i.zero, i.size, i.bytes)) = some (some (.int .u8 0), 1, 1) := by kernel_rfl
theorem info55 : (Try.prog.info? 55).map (fun i => (i.zero, i.size, i.bytes)) = some (some (.int .u64 0), 1, 8) := by kernel_rfl
theorem info76 : (Try.prog.info? 76).map (fun i => (i.zero, i.size, i.bytes)) = some (some (.agg #[(.int .u64 0), (.string ⟨#[]⟩), (.slice none 0 0), (.int .i64 0), (.bool false), (.int .u64 0)]), 6, 72) := by kernel_rfl
-- the values' own types
def rd_L4 (xs : List (List Int)) (i : Int) : (List Int) := xs.getD i.toNat ([] : List Int)
theorem at_L4 {w : World} {A : Option Addr} {n : Nat} {xs : List (List Int)} (h : Kd.C (Kd.slice 55 (Kd.int .u64)) w A n xs) (i : Int) (h0 : 0 ≤ i) (h1 : i < n) : ∃ ad A0 c0, A = some ad ∧ w.cell? (ad.add i.toNat) = some (.slice A0 (rd_L4 xs i).length c0) ∧ (rd_L4 xs i).length ≤ c0 ∧ (Kd.int .u64).C w A0 (rd_L4 xs i).length (rd_L4 xs i) := by
  obtain ⟨ad, c, e, _, hK, hc0⟩ := Kd.C_get h ([] : List Int) i h0 h1
  have hc : ∀ j u, c[j]? = some u → w.cell? (ad.add (i.toNat * 1 + j)) = some u := hc0
  obtain ⟨A0, c0, rfl, l0, g0⟩ := hK
  exact ⟨ad, A0, c0, e, by have hq := hc 0 _ rfl; rwa [Nat.mul_one, Nat.add_zero] at hq, l0, g0⟩

/-! #### struct type 76 -/
structure S76 where
  f0 : Int
  f1 : ByteArray
  f2 : (List Int)
  f3 : Int
  f4 : Bool
  f5 : Int
def z76 : S76 := ⟨(0 : Int), (⟨#[]⟩ : ByteArray), ([] : List Int), (0 : Int), false, (0 : Int)⟩
def k76 : Kd S76 := Kd.iso (Kd.pair (Kd.int .u64) (Kd.pair Kd.string (Kd.pair (Kd.slice 55 (Kd.int .u64)) (Kd.pair (Kd.int .i64) (Kd.pair Kd.bool (Kd.int .u64)))))) (fun x : S76 => (x.f0, x.f1, x.f2, x.f3, x.f4, x.f5))
theorem k76_open {w : World} {x : S76} {cs : List Value} (h : k76.K w x cs) : ∃ A2 c2, cs = [.int .u64 x.f0, .string x.f1, .slice A2 x.f2.length c2, .int .i64 x.f3, .bool x.f4, .int .u64 x.f5] ∧ x.f2.length ≤ c2 ∧ (Kd.int .u64).C w A2 x.f2.length x.f2 := by
  obtain ⟨_, _, rfl, rfl, ⟨_, _, rfl, rfl, ⟨_, _, rfl, ⟨A2, c2, rfl, l2, g2⟩, ⟨_, _, rfl, rfl, ⟨_, _, rfl, rfl, rfl⟩⟩⟩⟩⟩ := h
  exact ⟨A2, c2, rfl, l2, g2⟩
theorem k76_openM {w : World} {base : Nat} {ok : Nat → Prop} {x : S76} {cs : List Value} (h : k76.M w base ok x cs) : ∃ v2, cs = [.int .u64 x.f0, .string x.f1, v2, .int .i64 x.f3, .bool x.f4, .int .u64 x.f5] ∧ (Kd.int .u64).R 55 w base ok v2 x.f2 := by
  obtain ⟨_, _, rfl, rfl, ⟨_, _, rfl, rfl, ⟨_, _, rfl, ⟨v2, rfl, g2⟩, ⟨_, _, rfl, rfl, ⟨_, _, rfl, rfl, rfl⟩⟩⟩⟩⟩ := h
  exact ⟨v2, rfl, g2⟩
theorem k76_mk (w : World) (x : S76) {A2 : Option Addr} {c2 : Nat} (l2 : x.f2.length ≤ c2) (g2 : (Kd.int .u64).C w A2 x.f2.length x.f2) : k76.K w x [.int .u64 x.f0, .string x.f1, .slice A2 x.f2.length c2, .int .i64 x.f3, .bool x.f4, .int .u64 x.f5] := ⟨[.int .u64 x.f0], [.string x.f1, .slice A2 x.f2.length c2, .int .i64 x.f3, .bool x.f4, .int .u64 x.f5], rfl, rfl, ⟨[.string x.f1], [.slice A2 x.f2.length c2, .int .i64 x.f3, .bool x.f4, .int .u64 x.f5], rfl, rfl, ⟨[.slice A2 x.f2.length c2], [.int .i64 x.f3, .bool x.f4, .int .u64 x.f5], rfl, ⟨A2, c2, rfl, l2, g2⟩, ⟨[.int .i64 x.f3], [.bool x.f4, .int .u64 x.f5], rfl, rfl, ⟨[.bool x.f4], [.int .u64 x.f5], rfl, rfl, rfl⟩⟩⟩⟩⟩
theorem k76_mkM (w : World) (base : Nat) (ok : Nat → Prop) (x : S76) {v2 : Value} (g2 : (Kd.int .u64).R 55 w base ok v2 x.f2) : k76.M w base ok x [.int .u64 x.f0, .string x.f1, v2, .int .i64 x.f3, .bool x.f4, .int .u64 x.f5] := ⟨[.int .u64 x.f0], [.string x.f1, v2, .int .i64 x.f3, .bool x.f4, .int .u64 x.f5], rfl, rfl, ⟨[.string x.f1], [v2, .int .i64 x.f3, .bool x.f4, .int .u64 x.f5], rfl, rfl, ⟨[v2], [.int .i64 x.f3, .bool x.f4, .int .u64 x.f5], rfl, ⟨v2, rfl, g2⟩, ⟨[.int .i64 x.f3], [.bool x.f4, .int .u64 x.f5], rfl, rfl, ⟨[.bool x.f4], [.int .u64 x.f5], rfl, rfl, rfl⟩⟩⟩⟩⟩
def rd_T76 (xs : List S76) (i : Int) : S76 := xs.getD i.toNat z76
theorem at_T76 {w : World} {A : Option Addr} {n : Nat} {xs : List S76} (h : Kd.C k76 w A n xs) (i : Int) (h0 : 0 ≤ i) (h1 : i < n) : ∃ ad A2 c2, A = some ad ∧ w.cell? (ad.add (i.toNat * 6)) = some (.int .u64 (rd_T76 xs i).f0) ∧ w.cell? ⟨(ad.add (i.toNat * 6)).block, (ad.add (i.toNat * 6)).off + 1, none⟩ = some (.string (rd_T76 xs i).f1) ∧ w.cell? ⟨(ad.add (i.toNat * 6)).block, (ad.add (i.toNat * 6)).off + 2, none⟩ = some (.slice A2 (rd_T76 xs i).f2.length c2) ∧ w.cell? ⟨(ad.add (i.toNat * 6)).block, (ad.add (i.toNat * 6)).off + 3, none⟩ = some (.int .i64 (rd_T76 xs i).f3) ∧ w.cell? ⟨(ad.add (i.toNat * 6)).block, (ad.add (i.toNat * 6)).off + 4, none⟩ = some (.bool (rd_T76 xs i).f4) ∧ w.cell? ⟨(ad.add (i.toNat * 6)).block, (ad.add (i.toNat * 6)).off + 5, none⟩ = some (.int .u64 (rd_T76 xs i).f5) ∧ (rd_T76 xs i).f2.length ≤ c2 ∧ (Kd.int .u64).C w A2 (rd_T76 xs i).f2.length (rd_T76 xs i).f2 := by
  obtain ⟨ad, c, e, _, hK, hc0⟩ := Kd.C_get h z76 i h0 h1
  have hc : ∀ j u, c[j]? = some u → w.cell? (ad.add (i.toNat * 6 + j)) = some u := hc0
  obtain ⟨A2, c2, rfl, l2, g2⟩ := k76_open hK
  exact ⟨ad, A2, c2, e, hc 0 _ rfl, by rw [← add_field _ _ 1 (by omega)]; exact hc 1 _ rfl, by rw [← add_field _ _ 2 (by omega)]; exact hc 2 _ rfl, by rw [← add_field _ _ 3 (by omega)]; exact hc 3 _ rfl, by rw [← add_field _ _ 4 (by omega)]; exact hc 4 _ rfl, by rw [← add_field _ _ 5 (by omega)]; exact hc 5 _ rfl, l2, g2⟩

def rd_L7 (xs : List (List S76)) (i : Int) : (List S76) := xs.getD i.toNat ([] : List S76)
theorem at_L7 {w : World} {A : Option Addr} {n : Nat} {xs : List (List S76)} (h : Kd.C (Kd.slice 76 k76) w A n xs) (i : Int) (h0 : 0 ≤ i) (h1 : i < n) : ∃ ad A0 c0, A = some ad ∧ w.cell? (ad.add i.toNat) = some (.slice A0 (rd_L7 xs i).length c0) ∧ (rd_L7 xs i).length ≤ c0 ∧ k76.C w A0 (rd_L7 xs i).length (rd_L7 xs i) := by
  obtain ⟨ad, c, e, _, hK, hc0⟩ := Kd.C_get h ([] : List S76) i h0 h1
  have hc : ∀ j u, c[j]? = some u → w.cell? (ad.add (i.toNat * 1 + j)) = some u := hc0
  obtain ⟨A0, c0, rfl, l0, g0⟩ := hK
  exact ⟨ad, A0, c0, e, by have hq := hc 0 _ rfl; rwa [Nat.mul_one, Nat.add_zero] at hq, l0, g0⟩

/-! #### struct type 64 -/
structure S64 where
  f0 : Int
  f1 : Int
  f2 : (List S76)
def z64 : S64 := ⟨(0 : Int), (0 : Int), ([] : List S76)⟩
def k64 : Kd S64 := Kd.iso (Kd.pair (Kd.int .i64) (Kd.pair (Kd.int .i64) (Kd.slice 76 k76))) (fun x : S64 => (x.f0, x.f1, x.f2))
theorem k64_open {w : World} {x : S64} {cs : List Value} (h : k64.K w x cs) : ∃ A2 c2, cs = [.int .i64 x.f0, .int .i64 x.f1, .slice A2 x.f2.length c2] ∧ x.f2.length ≤ c2 ∧ k76.C w A2 x.f2.length x.f2 := by
  obtain ⟨_, _, rfl, rfl, ⟨_, _, rfl, rfl, ⟨A2, c2, rfl, l2, g2⟩⟩⟩ := h
  exact ⟨A2, c2, rfl, l2, g2⟩
theorem k64_openM {w : World} {base : Nat} {ok : Nat → Prop} {x : S64} {cs : List Value} (h : k64.M w base ok x cs) : ∃ v2, cs = [.int .i64 x.f0, .int .i64 x.f1, v2] ∧ k76.R 76 w base ok v2 x.f2 := by
  obtain ⟨_, _, rfl, rfl, ⟨_, _, rfl, rfl, ⟨v2, rfl, g2⟩⟩⟩ := h
  exact ⟨v2, rfl, g2⟩
theorem k64_mk (w : World) (x : S64) {A2 : Option Addr} {c2 : Nat} (l2 : x.f2.length ≤ c2) (g2 : k76.C w A2 x.f2.length x.f2) : k64.K w x [.int .i64 x.f0, .int .i64 x.f1, .slice A2 x.f2.length c2] := ⟨[.int .i64 x.f0], [.int .i64 x.f1, .slice A2 x.f2.length c2], rfl, rfl, ⟨[.int .i64 x.f1], [.slice A2 x.f2.length c2], rfl, rfl, ⟨A2, c2, rfl, l2, g2⟩⟩⟩
theorem k64_mkM (w : World) (base : Nat) (ok : Nat → Prop) (x : S64) {v2 : Value} (g2 : k76.R 76 w base ok v2 x.f2) : k64.M w base ok x [.int .i64 x.f0, .int .i64 x.f1, v2] := ⟨[.int .i64 x.f0], [.int .i64 x.f1, v2], rfl, rfl, ⟨[.int .i64 x.f1], [v2], rfl, rfl, ⟨v2, rfl, g2⟩⟩⟩
def rd_T64 (xs : List S64) (i : Int) : S64 := xs.getD i.toNat z64
theorem at_T64 {w : World} {A : Option Addr} {n : Nat} {xs : List S64} (h : Kd.C k64 w A n xs) (i : Int) (h0 : 0 ≤ i) (h1 : i < n) : ∃ ad A2 c2, A = some ad ∧ w.cell? (ad.add (i.toNat * 3)) = some (.int .i64 (rd_T64 xs i).f0) ∧ w.cell? ⟨(ad.add (i.toNat * 3)).block, (ad.add (i.toNat * 3)).off + 1, none⟩ = some (.int .i64 (rd_T64 xs i).f1) ∧ w.cell? ⟨(ad.add (i.toNat * 3)).block, (ad.add (i.toNat * 3)).off + 2, none⟩ = some (.slice A2 (rd_T64 xs i).f2.length c2) ∧ (rd_T64 xs i).f2.length ≤ c2 ∧ k76.C w A2 (rd_T64 xs i).f2.length (rd_T64 xs i).f2 := by
  obtain ⟨ad, c, e, _, hK, hc0⟩ := Kd.C_get h z64 i h0 h1
  have hc : ∀ j u, c[j]? = some u → w.cell? (ad.add (i.toNat * 3 + j)) = some u := hc0
  obtain ⟨A2, c2, rfl, l2, g2⟩ := k64_open hK
  exact ⟨ad, A2, c2, e, hc 0 _ rfl, by rw [← add_field _ _ 1 (by omega)]; exact hc 1 _ rfl, by rw [← add_field _ _ 2 (by omega)]; exact hc 2 _ rfl, l2, g2⟩

end Go.Proofs.Ytdieanikopjbjaa.QSlotUn
