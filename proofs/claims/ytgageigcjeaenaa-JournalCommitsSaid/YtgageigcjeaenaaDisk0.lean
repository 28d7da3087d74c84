/- What a disk is in memory, and its methods one by one. No condition beside those that each theorem names. -/
import Derived.Test.YtgageigcjeaenaaProg
import Derived.Below
import Derived.Deep.Draws
import Derived.Deep.AppendLies
import Derived.Maps.AppendAt
import Derived.OwnWalk
import Derived.Laws.BytesArg
import Derived.Laws.MakeOwn
import Derived.Laws.OwnMore
import Derived.Deep.OwnRows
import Derived.Tactics
import Derived.Lib.ConvBytes
import Derived.Laws.Slices
import Derived.WalkKit
import Derived.KernelRfl
import Derived.RowKit3
import Derived.Deep.LoopGhost
import Derived.Deep.QuietTactic
import Derived.BigQuiet
import Derived.WideLaws
import Derived.Deep.DeepCutAuto
import Derived.Deep.CutBlock
import Derived.Deep.RegionHeld3
import Derived.Laws.Rows
import Derived.Lib.AppendStr
import Derived.ArgAppend
import Derived.Laws.IdiomCopy
import Derived.OrdersHeld
import Derived.Laws.BitsLemmas
import Derived.RowKit
import Derived.WalkLawsBesides
import Derived.WalkSpells
import Derived.LoopN
import Derived.Shelf.Abstract
import Derived.Laws.CopyOwn
import Derived.Lib.BufferWrite
import Derived.Test.YtgageigcjeaenaaWWords
import Derived.Test.YtgageigcjeaenaaWLast
import Derived.Test.YtgageigcjeaenaaWTab
import Derived.Test.YtgageigcjeaenaaWFour
import Derived.Test.YtgageigcjeaenaaWQPut
import Derived.Test.YtgageigcjeaenaaWApart
import Derived.Test.YtgageigcjeaenaaWArr
import Derived.Test.YtgageigcjeaenaaWZeros
import Derived.Test.YtgageigcjeaenaaWFoot
import Derived.Test.YtgageigcjeaenaaWKept
import Derived.Test.YtgageigcjeaenaaWShare
import Derived.Test.YtgageigcjeaenaaWN
import Derived.Test.YtgageigcjeaenaaWFootNe
import Derived.Test.YtgageigcjeaenaaWAt
import Derived.Test.YtgageigcjeaenaaWEqStruct
import Derived.Test.YtgageigcjeaenaaWRepsOne
import Derived.Test.YtgageigcjeaenaaWInv
import Derived.Test.YtgageigcjeaenaaWInvWords
import Derived.Test.YtgageigcjeaenaaWGuard
import Derived.Test.YtgageigcjeaenaaWNEv
import Derived.Test.YtgageigcjeaenaaWMore
import Derived.Test.YtgageigcjeaenaaMixBase
import Derived.Test.YtgageigcjeaenaaMixPlain
import Derived.Test.YtgageigcjeaenaaNumBase
import Derived.Test.YtgageigcjeaenaaPadPlain
namespace Go.Proofs.Ytgageigcjeaenaa.Disk
open Go.RowKit Go.Proofs.YtgageigcjeaenaaW.PrintWords Go.Proofs.YtgageigcjeaenaaW.PrintLast Go.Proofs.YtgageigcjeaenaaW.PrintMore Go.Proofs.Ytgageigcjeaenaa.MixBase Go.Proofs.Ytgageigcjeaenaa.MixPlain Go.Proofs.Ytgageigcjeaenaa.NumBase Go.Proofs.Ytgageigcjeaenaa.PadPlain
attribute [local go_sem] max2_int min2_int max_two min_two max_three min_three max_four min_four
set_option linter.unusedVariables false
set_option linter.unusedSimpArgs false
/-- A page: where, and what. -/
structure Pg where
  at_ : Int
  data : ByteArray
/-- A disk, as it is told. -/
structure Dk where
  blocks : List ByteArray
  log : List Pg
  left : Int
  told : Bool
  down : Bool
def strs (l : List ByteArray) : List Value := l.map Value.string
def pgs (l : List Pg) : List Value := l.flatMap fun p => [.int .i64 p.at_, .string p.data]
theorem strs_length (l : List ByteArray) : (strs l).length = l.length := List.length_map _
theorem pgs_length (l : List Pg) : (pgs l).length = l.length * 2 := by
  induction l with
  | nil => rfl
  | cons a l ih =>
    rw [pgs, List.flatMap_cons, List.length_append, List.length_cons]
    unfold pgs at ih
    rw [ih]
    simp only [List.length_cons, List.length_nil]
    omega
/-- The program's disk in memory: its block, its rows' values. -/
def DiskIs (w : World) (base g : Nat) (vb vl : Value) (d : Dk) : Prop :=
  base ≤ g ∧ w.heap[g]? = some (.cells #[vb, vl, .int .i64 d.left, .bool d.told, .bool d.down] 78 (0, 0)) ∧ w.ownsRow base 9 1 vb d.blocks.length (strs d.blocks) ∧ w.ownsRow base 62 2 vl d.log.length (pgs d.log)
/-- The document's disk in memory. -/
def RefIs (w : World) (base g : Nat) (vb vl : Value) (d : Dk) : Prop :=
  base ≤ g ∧ w.heap[g]? = some (.cells #[vb, vl, .bool d.told, .int .i64 d.left, .bool d.down] 39 (0, 0)) ∧ w.ownsRow base 9 1 vb d.blocks.length (strs d.blocks) ∧ w.ownsRow base 62 2 vl d.log.length (pgs d.log)
/-- The blocks that a disk lies in. -/
def Foot (g : Nat) (vb vl : Value) (k : Nat) : Prop := k = g ∨ vb.ownBlock = some k ∨ vl.ownBlock = some k
/-- A world gone on: no block but those of S is another one. -/
def Moved (w w' : World) (S : Nat → Prop) : Prop := w'.os = w.os ∧ w'.tape = w.tape ∧ w'.output = w.output ∧ Kept w w' S
theorem Moved.refl (w : World) (S : Nat → Prop) : Moved w w S := ⟨rfl, rfl, rfl, Kept.refl w S⟩
theorem Moved.of_below {w w' : World} (h : Below w.heap.size w w') (S : Nat → Prop) : Moved w w' S := ⟨h.os, h.tape, h.output, Kept.of_below h S⟩
theorem Moved.trans {w w1 w2 : World} {S : Nat → Prop} (h : Moved w w1 S) (k : Moved w1 w2 S) : Moved w w2 S :=
  ⟨k.1.trans h.1, k.2.1.trans h.2.1, k.2.2.1.trans h.2.2.1, Nat.le_trans h.2.2.2.1 k.2.2.2.1, fun i hi hn => (k.2.2.2.2 i (Nat.lt_of_lt_of_le hi h.2.2.2.1) hn).trans (h.2.2.2.2 i hi hn)⟩
theorem Moved.mono {w w' : World} {S S' : Nat → Prop} (h : Moved w w' S) (hs : ∀ k, k < w.heap.size → S k → S' k) : Moved w w' S' :=
  ⟨h.1, h.2.1, h.2.2.1, h.2.2.2.1, fun i hi hn => h.2.2.2.2 i hi (fun hk => hn (hs i hi hk))⟩
theorem Moved.set {w : World} {S : Nat → Prop} {g j : Nat} (hg : S g) (u : Value) : Moved w (w.setCell ⟨g, j, none⟩ u) S :=
  ⟨rfl, rfl, rfl, by simp [World.setCell], fun i hi hn => Below.heap_setCell w ⟨g, j, none⟩ u i (fun e => hn (e ▸ hg))⟩
theorem Moved.below {w0 w w' : World} {S : Nat → Prop} {B : Nat} (h : Moved w w' S) (hb : Below B w0 w) (hB : B ≤ w.heap.size) (hs : ∀ k, k < w.heap.size → S k → B ≤ k) : Below B w0 w' :=
  ⟨h.1.trans hb.os, h.2.1.trans hb.tape, h.2.2.1.trans hb.output, Nat.le_trans hb.size h.2.2.2.1, fun k hk => (h.2.2.2.2 k (by omega) (fun hS => by have := hs k (by omega) hS; omega)).trans (hb.block k hk)⟩
theorem Moved.block {w w' : World} {S : Nat → Prop} (h : Moved w w' S) {k : Nat} {o : Obj} (hk : w.heap[k]? = some o) (hn : ¬ S k) : w'.heap[k]? = some o := (h.2.2.2.2 k (blk_lt hk) hn).trans hk
theorem Moved.own {w w' : World} {S : Nat → Prop} (h : Moved w w' S) {base e size n : Nat} {v : Value} {xs : List Value} (ho : w.ownsRow base e size v n xs) (hn : ∀ k, v.ownBlock = some k → ¬ S k) : w'.ownsRow base e size v n xs :=
  own_move ho (fun k hk => h.2.2.2.2 k (own_lt ho k hk) (hn k hk))
theorem DiskIs.moved {w w' : World} {S : Nat → Prop} {base g : Nat} {vb vl : Value} {d : Dk} (h : DiskIs w base g vb vl d) (hm : Moved w w' S) (hn : ∀ k, Foot g vb vl k → ¬ S k) : DiskIs w' base g vb vl d :=
  ⟨h.1, hm.block h.2.1 (hn g (Or.inl rfl)), hm.own h.2.2.1 (fun k hk => hn k (Or.inr (Or.inl hk))), hm.own h.2.2.2 (fun k hk => hn k (Or.inr (Or.inr hk)))⟩
theorem RefIs.moved {w w' : World} {S : Nat → Prop} {base g : Nat} {vb vl : Value} {d : Dk} (h : RefIs w base g vb vl d) (hm : Moved w w' S) (hn : ∀ k, Foot g vb vl k → ¬ S k) : RefIs w' base g vb vl d :=
  ⟨h.1, hm.block h.2.1 (hn g (Or.inl rfl)), hm.own h.2.2.1 (fun k hk => hn k (Or.inr (Or.inl hk))), hm.own h.2.2.2 (fun k hk => hn k (Or.inr (Or.inr hk)))⟩
theorem DiskIs.foot_lt {w : World} {base g : Nat} {vb vl : Value} {d : Dk} (h : DiskIs w base g vb vl d) {k : Nat} (hk : Foot g vb vl k) : base ≤ k ∧ k < w.heap.size := by
  rcases hk with rfl | hk | hk
  · exact ⟨h.1, blk_lt h.2.1⟩
  · exact ⟨own_base h.2.2.1 k hk, own_lt h.2.2.1 k hk⟩
  · exact ⟨own_base h.2.2.2 k hk, own_lt h.2.2.2 k hk⟩
theorem RefIs.foot_lt {w : World} {base g : Nat} {vb vl : Value} {d : Dk} (h : RefIs w base g vb vl d) {k : Nat} (hk : Foot g vb vl k) : base ≤ k ∧ k < w.heap.size := by
  rcases hk with rfl | hk | hk
  · exact ⟨h.1, blk_lt h.2.1⟩
  · exact ⟨own_base h.2.2.1 k hk, own_lt h.2.2.1 k hk⟩
  · exact ⟨own_base h.2.2.2 k hk, own_lt h.2.2.2 k hk⟩
/-- A row's block is of its elements' type. -/
theorem own_ne {w : World} {base e size n g t : Nat} {v : Value} {xs : List Value} {cells : Array Value} (ho : w.ownsRow base e size v n xs) (hg : w.heap[g]? = some (.cells cells t (0, 0))) (ht : e ≠ t) : ∀ k, v.ownBlock = some k → k ≠ g := by
  intro k hk e'
  subst e'
  obtain ⟨c, hc⟩ := own_typed ho k hk
  rw [hc] at hg
  injection hg with hg
  injection hg with _ hg
  exact ht hg
theorem own_apart {w : World} {base e size n base' e' size' n' : Nat} {v v' : Value} {xs xs' : List Value} (ho : w.ownsRow base e size v n xs) (ho' : w.ownsRow base' e' size' v' n' xs') (ht : e ≠ e') : ∀ k, v.ownBlock = some k → v'.ownBlock ≠ some k := by
  intro k hk hk'
  obtain ⟨c, hc⟩ := own_typed ho k hk
  obtain ⟨c', hc'⟩ := own_typed ho' k hk'
  rw [hc] at hc'
  injection hc' with hg
  injection hg with _ hg
  exact ht hg
/-- What keeps a block from being asked for. -/
def mayD (d : Dk) (at_ : Int) : Int := if d.down = true then 17 else if at_ < 0 ∨ at_ ≥ (d.blocks.length : Int) then 1 else 0
def readD (d : Dk) (at_ : Int) : ByteArray × Int := if mayD d at_ = 0 then (d.blocks.getD at_.toNat ⟨#[]⟩, 0) else (⟨#[]⟩, mayD d at_)
def putD (d : Dk) (at_ : Int) (s : ByteArray) : Dk := ⟨d.blocks.set at_.toNat s, d.log ++ [⟨at_, s⟩], if d.told = true then wrap64 (d.left - 1) else d.left, d.told, d.down⟩
def writeD (d : Dk) (at_ : Int) (s : ByteArray) : Dk × Int :=
  if mayD d at_ = 0 then (if s.size = 256 then (if d.told = true ∧ d.left = 0 then (⟨d.blocks, d.log, d.left, d.told, true⟩, 17) else (putD d at_ s, 0)) else (d, 3)) else (d, mayD d at_)
def cutD (d : Dk) (n : Int) : Dk := ⟨d.blocks, d.log, n, decide (n ≥ 0), d.down⟩
def restoreD (d : Dk) : Dk := ⟨d.blocks, d.log, d.left, false, false⟩
end Go.Proofs.Ytgageigcjeaenaa.Disk
