/- What a disk is in memory, and its methods one by one. No condition beside those that each theorem names. -/
import Derived.Test.YtgageigcjeaenaaProg
import Derived.Below
import Derived.Deep.Draws
import Derived.Deep.AppendLies
import Derived.Maps.AppendAt
import Derived.OwnWalk
import Derived.Laws.BytesArg
import Derived.Laws.MakeOwn
import Derived.Laws.OwnMore
import Derived.Deep.OwnRows
import Derived.Tactics
import Derived.Lib.ConvBytes
import Derived.Laws.Slices
import Derived.WalkKit
import Derived.KernelRfl
import Derived.RowKit3
import Derived.Deep.LoopGhost
import Derived.Deep.QuietTactic
import Derived.BigQuiet
import Derived.WideLaws
import Derived.Deep.DeepCutAuto
import Derived.Deep.CutBlock
import Derived.Deep.RegionHeld3
import Derived.Laws.Rows
import Derived.Lib.AppendStr
import Derived.ArgAppend
import Derived.Laws.IdiomCopy
import Derived.OrdersHeld
import Derived.Laws.BitsLemmas
import Derived.RowKit
import Derived.WalkLawsBesides
import Derived.WalkSpells
import Derived.LoopN
import Derived.Shelf.Abstract
import Derived.Laws.CopyOwn
import Derived.Lib.BufferWrite
import Derived.Test.YtgageigcjeaenaaVWords
import Derived.Test.YtgageigcjeaenaaVLast
import Derived.Test.YtgageigcjeaenaaVTab
import Derived.Test.YtgageigcjeaenaaVFour
import Derived.Test.YtgageigcjeaenaaVQPut
import Derived.Test.YtgageigcjeaenaaVApart
import Derived.Test.YtgageigcjeaenaaVArr
import Derived.Test.YtgageigcjeaenaaVZeros
import Derived.Test.YtgageigcjeaenaaVFoot
import Derived.Test.YtgageigcjeaenaaVKept
import Derived.Test.YtgageigcjeaenaaVShare
import Derived.Test.YtgageigcjeaenaaVN
import Derived.Test.YtgageigcjeaenaaVFootNe
import Derived.Test.YtgageigcjeaenaaVAt
import Derived.Test.YtgageigcjeaenaaVEqStruct
import Derived.Test.YtgageigcjeaenaaVRepsOne
import Derived.Test.YtgageigcjeaenaaVInv
import Derived.Test.YtgageigcjeaenaaVInvWords
import Derived.Test.YtgageigcjeaenaaVGuard
import Derived.Test.YtgageigcjeaenaaVNEv
import Derived.Test.YtgageigcjeaenaaVMore
import Derived.Test.YtgageigcjeaenaaGBase
import Derived.Test.YtgageigcjeaenaaShelf
namespace Go.Proofs.Ytgageigcjeaenaa.Disk
open Go.RowKit Go.Proofs.YtgageigcjeaenaaW.PrintWords Go.Proofs.YtgageigcjeaenaaW.PrintLast Go.Proofs.YtgageigcjeaenaaW.PrintMore Go.Proofs.Ytgageigcjeaenaa.MixBase Go.Proofs.Ytgageigcjeaenaa.MixPlain Go.Proofs.Ytgageigcjeaenaa.NumBase Go.Proofs.Ytgageigcjeaenaa.PadPlain
attribute [local go_sem] max2_int min2_int max_two min_two max_three min_three max_four min_four
set_option linter.unusedVariables false
set_option linter.unusedSimpArgs false
/-- A page: where, and what. -/
structure Pg where
  at_ : Int
  data : ByteArray
/-- A disk, as it is told. -/
structure Dk where
  blocks : List ByteArray
  log : List Pg
  left : Int
  told : Bool
  down : Bool
def strs (l : List ByteArray) : List Value := l.map Value.string
def pgs (l : List Pg) : List Value := l.flatMap fun p => [.int .i64 p.at_, .string p.data]
theorem strs_length (l : List ByteArray) : (strs l).length = l.length := List.length_map _
theorem pgs_length (l : List Pg) : (pgs l).length = l.length * 2 := by
  induction l with
  | nil => rfl
  | cons a l ih =>
    rw [pgs, List.flatMap_cons, List.length_append, List.length_cons]
    unfold pgs at ih
    rw [ih]
    simp only [List.length_cons, List.length_nil]
    omega
/-- The program's disk in memory: its block, its rows' values. -/
def DiskIs (w : World) (base g : Nat) (vb vl : Value) (d : Dk) : Prop :=
  base ≤ g ∧ w.heap[g]? = some (.cells #[vb, vl, .int .i64 d.left, .bool d.told, .bool d.down] 78 (0, 0)) ∧ w.ownsRow base 9 1 vb d.blocks.length (strs d.blocks) ∧ w.ownsRow base 62 2 vl d.log.length (pgs d.log)
/-- The document's disk in memory. -/
def RefIs (w : World) (base g : Nat) (vb vl : Value) (d : Dk) : Prop :=
  base ≤ g ∧ w.heap[g]? = some (.cells #[vb, vl, .bool d.told, .int .i64 d.left, .bool d.down] 39 (0, 0)) ∧ w.ownsRow base 9 1 vb d.blocks.length (strs d.blocks) ∧ w.ownsRow base 62 2 vl d.log.length (pgs d.log)
/-- The blocks that a disk lies in. -/
def Foot (g : Nat) (vb vl : Value) (k : Nat) : Prop := k = g ∨ vb.ownBlock = some k ∨ vl.ownBlock = some k
/-- A world gone on: no block but those of S is another one. -/
def Moved (w w' : World) (S : Nat → Prop) : Prop := w'.os = w.os ∧ w'.tape = w.tape ∧ w'.output = w.output ∧ Kept w w' S
theorem Moved.refl (w : World) (S : Nat → Prop) : Moved w w S := ⟨rfl, rfl, rfl, Kept.refl w S⟩
theorem Moved.of_below {w w' : World} (h : Below w.heap.size w w') (S : Nat → Prop) : Moved w w' S := ⟨h.os, h.tape, h.output, Kept.of_below h S⟩
theorem Moved.trans {w w1 w2 : World} {S : Nat → Prop} (h : Moved w w1 S) (k : Moved w1 w2 S) : Moved w w2 S :=
  ⟨k.1.trans h.1, k.2.1.trans h.2.1, k.2.2.1.trans h.2.2.1, Nat.le_trans h.2.2.2.1 k.2.2.2.1, fun i hi hn => (k.2.2.2.2 i (Nat.lt_of_lt_of_le hi h.2.2.2.1) hn).trans (h.2.2.2.2 i hi hn)⟩
theorem Moved.mono {w w' : World} {S S' : Nat → Prop} (h : Moved w w' S) (hs : ∀ k, k < w.heap.size → S k → S' k) : Moved w w' S' :=
  ⟨h.1, h.2.1, h.2.2.1, h.2.2.2.1, fun i hi hn => h.2.2.2.2 i hi (fun hk => hn (hs i hi hk))⟩
theorem Moved.set {w : World} {S : Nat → Prop} {g j : Nat} (hg : S g) (u : Value) : Moved w (w.setCell ⟨g, j, none⟩ u) S :=
  ⟨rfl, rfl, rfl, by simp [World.setCell], fun i hi hn => Below.heap_setCell w ⟨g, j, none⟩ u i (fun e => hn (e ▸ hg))⟩
theorem Moved.below {w0 w w' : World} {S : Nat → Prop} {B : Nat} (h : Moved w w' S) (hb : Below B w0 w) (hB : B ≤ w.heap.size) (hs : ∀ k, k < w.heap.size → S k → B ≤ k) : Below B w0 w' :=
  ⟨h.1.trans hb.os, h.2.1.trans hb.tape, h.2.2.1.trans hb.output, Nat.le_trans hb.size h.2.2.2.1, fun k hk => (h.2.2.2.2 k (by omega) (fun hS => by have := hs k (by omega) hS; omega)).trans (hb.block k hk)⟩
theorem Moved.block {w w' : World} {S : Nat → Prop} (h : Moved w w' S) {k : Nat} {o : Obj} (hk : w.heap[k]? = some o) (hn : ¬ S k) : w'.heap[k]? = some o := (h.2.2.2.2 k (blk_lt hk) hn).trans hk
theorem Moved.own {w w' : World} {S : Nat → Prop} (h : Moved w w' S) {base e size n : Nat} {v : Value} {xs : List Value} (ho : w.ownsRow base e size v n xs) (hn : ∀ k, v.ownBlock = some k → ¬ S k) : w'.ownsRow base e size v n xs :=
  own_move ho (fun k hk => h.2.2.2.2 k (own_lt ho k hk) (hn k hk))
theorem DiskIs.moved {w w' : World} {S : Nat → Prop} {base g : Nat} {vb vl : Value} {d : Dk} (h : DiskIs w base g vb vl d) (hm : Moved w w' S) (hn : ∀ k, Foot g vb vl k → ¬ S k) : DiskIs w' base g vb vl d :=
  ⟨h.1, hm.block h.2.1 (hn g (Or.inl rfl)), hm.own h.2.2.1 (fun k hk => hn k (Or.inr (Or.inl hk))), hm.own h.2.2.2 (fun k hk => hn k (Or.inr (Or.inr hk)))⟩
theorem RefIs.moved {w w' : World} {S : Nat → Prop} {base g : Nat} {vb vl : Value} {d : Dk} (h : RefIs w base g vb vl d) (hm : Moved w w' S) (hn : ∀ k, Foot g vb vl k → ¬ S k) : RefIs w' base g vb vl d :=
  ⟨h.1, hm.block h.2.1 (hn g (Or.inl rfl)), hm.own h.2.2.1 (fun k hk => hn k (Or.inr (Or.inl hk))), hm.own h.2.2.2 (fun k hk => hn k (Or.inr (Or.inr hk)))⟩
theorem DiskIs.foot_lt {w : World} {base g : Nat} {vb vl : Value} {d : Dk} (h : DiskIs w base g vb vl d) {k : Nat} (hk : Foot g vb vl k) : base ≤ k ∧ k < w.heap.size := by
  rcases hk with rfl | hk | hk
  · exact ⟨h.1, blk_lt h.2.1⟩
  · exact ⟨own_base h.2.2.1 k hk, own_lt h.2.2.1 k hk⟩
  · exact ⟨own_base h.2.2.2 k hk, own_lt h.2.2.2 k hk⟩
theorem RefIs.foot_lt {w : World} {base g : Nat} {vb vl : Value} {d : Dk} (h : RefIs w base g vb vl d) {k : Nat} (hk : Foot g vb vl k) : base ≤ k ∧ k < w.heap.size := by
  rcases hk with rfl | hk | hk
  · exact ⟨h.1, blk_lt h.2.1⟩
  · exact ⟨own_base h.2.2.1 k hk, own_lt h.2.2.1 k hk⟩
  · exact ⟨own_base h.2.2.2 k hk, own_lt h.2.2.2 k hk⟩
/-- A row's block is of its elements' type. -/
theorem own_ne {w : World} {base e size n g t : Nat} {v : Value} {xs : List Value} {cells : Array Value} (ho : w.ownsRow base e size v n xs) (hg : w.heap[g]? = some (.cells cells t (0, 0))) (ht : e ≠ t) : ∀ k, v.ownBlock = some k → k ≠ g := by
  intro k hk e'
  subst e'
  obtain ⟨c, hc⟩ := own_typed ho k hk
  rw [hc] at hg
  injection hg with hg
  injection hg with _ hg
  exact ht hg
theorem own_apart {w : World} {base e size n base' e' size' n' : Nat} {v v' : Value} {xs xs' : List Value} (ho : w.ownsRow base e size v n xs) (ho' : w.ownsRow base' e' size' v' n' xs') (ht : e ≠ e') : ∀ k, v.ownBlock = some k → v'.ownBlock ≠ some k := by
  intro k hk hk'
  obtain ⟨c, hc⟩ := own_typed ho k hk
  obtain ⟨c', hc'⟩ := own_typed ho' k hk'
  rw [hc] at hc'
  injection hc' with hg
  injection hg with _ hg
  exact ht hg
/-- What keeps a block from being asked for. -/
def mayD (d : Dk) (at_ : Int) : Int := if d.down = true then 17 else if at_ < 0 ∨ at_ ≥ (d.blocks.length : Int) then 1 else 0
def readD (d : Dk) (at_ : Int) : ByteArray × Int := if mayD d at_ = 0 then (d.blocks.getD at_.toNat ⟨#[]⟩, 0) else (⟨#[]⟩, mayD d at_)
def putD (d : Dk) (at_ : Int) (s : ByteArray) : Dk := ⟨d.blocks.set at_.toNat s, d.log ++ [⟨at_, s⟩], if d.told = true then wrap64 (d.left - 1) else d.left, d.told, d.down⟩
def writeD (d : Dk) (at_ : Int) (s : ByteArray) : Dk × Int :=
  if mayD d at_ = 0 then (if s.size = 256 then (if d.told = true ∧ d.left = 0 then (⟨d.blocks, d.log, d.left, d.told, true⟩, 17) else (putD d at_ s, 0)) else (d, 3)) else (d, mayD d at_)
def cutD (d : Dk) (n : Int) : Dk := ⟨d.blocks, d.log, n, decide (n ≥ 0), d.down⟩
def restoreD (d : Dk) : Dk := ⟨d.blocks, d.log, d.left, false, false⟩
end Go.Proofs.Ytgageigcjeaenaa.Disk
namespace Go.Proofs.Ytgageigcjeaenaa.Disk
open Go.RowKit Go.Proofs.YtgageigcjeaenaaW.PrintWords Go.Proofs.YtgageigcjeaenaaW.PrintLast Go.Proofs.YtgageigcjeaenaaW.PrintMore Go.Proofs.Ytgageigcjeaenaa.MixBase Go.Proofs.Ytgageigcjeaenaa.MixPlain Go.Proofs.Ytgageigcjeaenaa.NumBase Go.Proofs.Ytgageigcjeaenaa.PadPlain
attribute [local go_sem] max2_int min2_int max_two min_two max_three min_three max_four min_four
set_option linter.unusedVariables false
set_option linter.unusedSimpArgs false
section
variable {w : World} {base g : Nat} {vb vl : Value} {d : Dk}
theorem own_slice {e size n : Nat} {v : Value} {xs : List Value} (h : w.ownsRow base e size v n xs) : ∃ A c, v = .slice A n c ∧ n ≤ maxLen := by
  rcases h.2 with ⟨rfl, rfl⟩ | ⟨k, cap, cur, rfl, _, _, h1, h2, _⟩
  · exact ⟨none, 0, rfl, Nat.zero_le _⟩
  · exact ⟨_, cap, rfl, by omega⟩
/-- (*Disk).Len of a disk that is. -/
theorem Len_calls (h : DiskIs w base g vb vl d) : Calls Try.prog 34 #[.pointer (some ⟨g, 0, none⟩)] w fun e w' => e = .returned (.int .i64 (d.blocks.length : Int)) ∧ w' = w := by
  have hu78 := Try.underlying78
  obtain ⟨A, c, rfl, _⟩ := own_slice h.2.2.1
  have c0 := (blk_cell h.2.1 0).trans rfl
  clear h
  go_enter Try.func34, Try.ntmps34
  go_wp2
  go_ret
  exact ⟨rfl, rfl⟩
theorem Len_nil (w : World) : Calls Try.prog 34 #[.pointer none] w fun e w' => e = .returned (.int .i64 0) ∧ w' = w := by
  go_enter Try.func34, Try.ntmps34
  go_wp2
  go_ret
  exact ⟨rfl, rfl⟩
theorem Down_calls (h : DiskIs w base g vb vl d) : Calls Try.prog 25 #[.pointer (some ⟨g, 0, none⟩)] w fun e w' => e = .returned (.bool d.down) ∧ w' = w := by
  have hu78 := Try.underlying78
  have c4 := (blk_cell h.2.1 4).trans rfl
  clear h
  go_enter Try.func25, Try.ntmps25
  go_wp2
  go_ret
  exact ⟨rfl, rfl⟩
theorem Down_nil (w : World) : Calls Try.prog 25 #[.pointer none] w fun e w' => e = .returned (.bool false) ∧ w' = w := by
  go_enter Try.func25, Try.ntmps25
  go_wp2
  go_ret
  exact ⟨rfl, rfl⟩
theorem DiskIs.put (h : DiskIs w base g vb vl d) {w' : World} {left' : Int} {told' down' : Bool} (hg : w'.heap[g]? = some (.cells #[vb, vl, .int .i64 left', .bool told', .bool down'] 78 (0, 0))) (hm : Moved w w' (fun k => k = g)) : DiskIs w' base g vb vl ⟨d.blocks, d.log, left', told', down'⟩ :=
  ⟨h.1, hg, hm.own h.2.2.1 (own_ne h.2.2.1 h.2.1 (by decide)), hm.own h.2.2.2 (own_ne h.2.2.2 h.2.1 (by decide))⟩
theorem Cut_calls (n : Int) (h : DiskIs w base g vb vl d) : Calls Try.prog 14 #[.pointer (some ⟨g, 0, none⟩), .int .i64 n] w fun e w' => e = .returned (.tuple #[]) ∧ DiskIs w' base g vb vl (cutD d n) ∧ Moved w w' (fun k => k = g) := by
  have hu78 := Try.underlying78
  have c2 := (blk_cell h.2.1 2).trans rfl
  have c3 := (blk_cell h.2.1 3).trans rfl
  have f2 := blk_frozen h.2.1 2
  have f3 := blk_frozen h.2.1 3
  have HD := Aside0.mk h
  clear h
  go_enter Try.func14, Try.ntmps14
  go_wp2
  go_end0
  have hm : Moved w ((w.setCell ⟨g, 3, none⟩ (.bool (decide (n ≥ 0)))).setCell ⟨g, 2, none⟩ (.int .i64 n)) (fun k => k = g) := Moved.trans (Moved.set (S := fun k => k = g) rfl _) (Moved.set (S := fun k => k = g) rfl _)
  exact ⟨rfl, HD.out.put (blk_put (blk_put HD.out.2.1 3 _ rfl) 2 _ rfl) hm, hm⟩
theorem Cut_nil (n : Int) (w : World) : Calls Try.prog 14 #[.pointer none, .int .i64 n] w fun e w' => e = .returned (.tuple #[]) ∧ w' = w := by
  go_enter Try.func14, Try.ntmps14
  go_wp2
  go_end0
  exact ⟨rfl, rfl⟩
theorem Restore_calls (h : DiskIs w base g vb vl d) : Calls Try.prog 32 #[.pointer (some ⟨g, 0, none⟩)] w fun e w' => e = .returned (.tuple #[]) ∧ DiskIs w' base g vb vl (restoreD d) ∧ Moved w w' (fun k => k = g) := by
  have hu78 := Try.underlying78
  have c3 := (blk_cell h.2.1 3).trans rfl
  have c4 := (blk_cell h.2.1 4).trans rfl
  have f3 := blk_frozen h.2.1 3
  have f4 := blk_frozen h.2.1 4
  have HD := Aside0.mk h
  clear h
  go_enter Try.func32, Try.ntmps32
  go_wp2
  go_end0
  have hm : Moved w ((w.setCell ⟨g, 3, none⟩ (.bool false)).setCell ⟨g, 4, none⟩ (.bool false)) (fun k => k = g) := Moved.trans (Moved.set (S := fun k => k = g) rfl _) (Moved.set (S := fun k => k = g) rfl _)
  exact ⟨rfl, HD.out.put (blk_put (blk_put HD.out.2.1 3 _ rfl) 4 _ rfl) hm, hm⟩
theorem Restore_nil (w : World) : Calls Try.prog 32 #[.pointer none] w fun e w' => e = .returned (.tuple #[]) ∧ w' = w := by
  go_enter Try.func32, Try.ntmps32
  go_wp2
  go_end0
  exact ⟨rfl, rfl⟩
theorem may_nil (a : Int) (w : World) : Calls Try.prog 60 #[.pointer none, .int .i64 a] w fun e w' => e = .returned (.int .i64 18) ∧ w' = w := by
  go_enter Try.func60, Try.ntmps60
  go_wp2
  go_ret
  exact ⟨rfl, rfl⟩
set_option maxRecDepth 100000 in
theorem may_calls (a : Int) (h : DiskIs w base g vb vl d) : Calls Try.prog 60 #[.pointer (some ⟨g, 0, none⟩), .int .i64 a] w fun e w' => e = .returned (.int .i64 (mayD d a)) ∧ w' = w := by
  have hu78 := Try.underlying78
  obtain ⟨A, c, rfl, _⟩ := own_slice h.2.2.1
  have c0 := (blk_cell h.2.1 0).trans rfl
  have c4 := (blk_cell h.2.1 4).trans rfl
  clear h
  unfold mayD
  cases hd : d.down with
  | true =>
    rw [hd] at c4
    go_enter Try.func60, Try.ntmps60
    go_wp2
    go_ret
    exact ⟨rfl, rfl⟩
  | false =>
    rw [hd] at c4
    by_cases h0 : a < 0
    · have b0 : decide (a < 0) = true := decide_eq_true h0
      rw [if_neg (by decide), if_pos (Or.inl h0)]
      go_enter Try.func60, Try.ntmps60
      go_wp2
      go_ret
      exact ⟨rfl, rfl⟩
    · have b0 : decide (a < 0) = false := decide_eq_false h0
      by_cases h1 : a ≥ (d.blocks.length : Int)
      · have b1 : decide ((d.blocks.length : Int) ≤ a) = true := decide_eq_true h1
        rw [if_neg (by decide), if_pos (Or.inr h1)]
        go_enter Try.func60, Try.ntmps60
        go_wp2
        go_ret
        exact ⟨rfl, rfl⟩
      · have b1 : decide ((d.blocks.length : Int) ≤ a) = false := decide_eq_false h1
        rw [if_neg (by decide), if_neg (by omega)]
        go_enter Try.func60, Try.ntmps60
        go_wp2
        go_ret
        exact ⟨rfl, rfl⟩
end
end Go.Proofs.Ytgageigcjeaenaa.Disk
namespace Go.Proofs.Ytgageigcjeaenaa.Disk
open Go.RowKit Go.Proofs.YtgageigcjeaenaaW.PrintWords Go.Proofs.YtgageigcjeaenaaW.PrintLast Go.Proofs.YtgageigcjeaenaaW.PrintMore Go.Proofs.Ytgageigcjeaenaa.MixBase Go.Proofs.Ytgageigcjeaenaa.MixPlain Go.Proofs.Ytgageigcjeaenaa.NumBase Go.Proofs.Ytgageigcjeaenaa.PadPlain
attribute [local go_sem] max2_int min2_int max_two min_two max_three min_three max_four min_four
set_option linter.unusedVariables false
set_option linter.unusedSimpArgs false
section
variable {w : World} {base g : Nat} {vb vl : Value} {d : Dk}
theorem Moved.of_grown {w w' : World} {row : Option Nat} {S : Nat → Prop} (h : w.grownBy w' row) (hs : ∀ k, some k = row → S k) : Moved w w' S :=
  ⟨h.os, h.tape, h.output, h.size, fun i hi hn => h.block i hi (fun e => hn (hs i e))⟩
theorem own_form {base e size n : Nat} {v : Value} {xs : List Value} (h : w.ownsRow base e size v n xs) (hn : 0 < n) :
    ∃ bb c cur, v = .slice (some ⟨bb, 0, none⟩) n c ∧ base ≤ bb ∧ w.heap[bb]? = some (.cells cur e (0, 0)) ∧ n ≤ c ∧ ∀ i, i < n * size → cur[i]? = xs[i]? := by
  rcases h.2 with ⟨_, h0⟩ | ⟨bb, c, cur, rfl, hb, hh, h1, h2, h3, h4⟩
  · omega
  · refine ⟨bb, c, cur, rfl, hb, hh, h1, fun i hi => ?_⟩
    rw [← h4, List.getElem?_take_of_lt hi, Array.getElem?_toList]
theorem strs_at (l : List ByteArray) (i : Nat) (hi : i < l.length) : (strs l)[i]? = some (.string (l.getD i ⟨#[]⟩)) := by
  rw [strs, List.getElem?_map, List.getElem?_eq_getElem hi, List.getD_eq_getElem?_getD, List.getElem?_eq_getElem hi]
  rfl
theorem may_zero {a : Int} (h : mayD d a = 0) : d.down = false ∧ 0 ≤ a ∧ a < (d.blocks.length : Int) := by
  unfold mayD at h
  cases hd : d.down with
  | true => rw [hd, if_pos rfl] at h; exact absurd h (by decide)
  | false =>
    rw [hd, if_neg (by decide)] at h
    by_cases h1 : a < 0 ∨ a ≥ (d.blocks.length : Int)
    · rw [if_pos h1] at h; exact absurd h (by decide)
    · exact ⟨rfl, by omega, by omega⟩
set_option maxRecDepth 100000 in
theorem Read_calls (a : Int) (h : DiskIs w base g vb vl d) : Calls Try.prog 33 #[.pointer (some ⟨g, 0, none⟩), .int .i64 a] w fun e w' => e = .returned (.tuple #[.string (readD d a).1, .int .i64 (readD d a).2]) ∧ w' = w := by
  have hu78 := Try.underlying78
  have HD := Aside0.mk h
  by_cases h0 : mayD d a = 0
  · obtain ⟨_, ha, hb⟩ := may_zero h0
    obtain ⟨bb, c, cur, rfl, _, hh, hc, hat⟩ := own_form h.2.2.1 (by omega)
    have c0 := (blk_cell h.2.1 0).trans rfl
    have q := (blk_cell hh a.toNat).trans ((hat a.toNat (by omega)).trans (strs_at d.blocks a.toNat (by omega)))
    have b0 : (mayD d a != 0) = false := by rw [h0]; rfl
    unfold readD
    rw [if_pos h0]
    generalize d.blocks.getD a.toNat ⟨#[]⟩ = x at q ⊢
    clear h hh hat h0
    go_enter Try.func33, Try.ntmps33
    go_wp2_with (go_at_call 60; refine (may_calls a HD.out).mono ?_; rintro e w2 ⟨rfl, hw⟩; obtain rfl := hw.symm)
    go_ret2
    exact ⟨rfl, rfl⟩
  · have b0 : (mayD d a != 0) = true := bne_iff_ne.2 h0
    unfold readD
    rw [if_neg h0]
    clear h h0
    go_enter Try.func33, Try.ntmps33
    go_wp2_with (go_at_call 60; refine (may_calls a HD.out).mono ?_; rintro e w2 ⟨rfl, hw⟩; obtain rfl := hw.symm)
    go_ret2
    exact ⟨rfl, rfl⟩
set_option maxRecDepth 100000 in
theorem Read_nil (a : Int) (w : World) : Calls Try.prog 33 #[.pointer none, .int .i64 a] w fun e w' => e = .returned (.tuple #[.string ⟨#[]⟩, .int .i64 18]) ∧ w' = w := by
  go_enter Try.func33, Try.ntmps33
  go_wp2_with (go_at_call 60; refine (may_nil a _).mono ?_; rintro e w2 ⟨rfl, hw⟩; obtain rfl := hw.symm)
  go_ret2
  exact ⟨rfl, rfl⟩
set_option maxRecDepth 100000 in
theorem Write_nil (a : Int) (s : ByteArray) (w : World) : Calls Try.prog 30 #[.pointer none, .int .i64 a, .string s] w fun e w' => e = .returned (.int .i64 18) ∧ w' = w := by
  go_enter Try.func30, Try.ntmps30
  go_wp2_with (go_at_call 60; refine (may_nil a _).mono ?_; rintro e w2 ⟨rfl, hw⟩; obtain rfl := hw.symm)
  go_ret
  exact ⟨rfl, rfl⟩
theorem info62 : (Try.prog.info? 62).map (fun i => (i.zero, i.size, i.bytes)) = some (some (.agg #[(.int .i64 0), (.string ⟨#[]⟩)]), 2, 24) := by kernel_rfl
theorem info9 : (Try.prog.info? 9).map (fun i => (i.zero, i.size, i.bytes)) = some (some (.string ⟨#[]⟩), 1, 16) := by kernel_rfl
/-- A block of a disk put: the row's cell. -/
theorem DiskIs.setBlock {bb c : Nat} {n : Nat} (h : DiskIs w base g (.slice (some ⟨bb, 0, none⟩) n c) vl d) (i : Nat) (s : ByteArray) :
    DiskIs (w.setCell ⟨bb, i, none⟩ (.string s)) base g (.slice (some ⟨bb, 0, none⟩) n c) vl ⟨d.blocks.set i s, d.log, d.left, d.told, d.down⟩ := by
  have hn : d.blocks.length = n := by
    rcases h.2.2.1.2 with ⟨e, _⟩ | ⟨_, _, _, e, _⟩
    · cases e
    · injection e with _ e; exact e.symm
  obtain ⟨ho, hgr⟩ := World.ownsRow.stored (hn ▸ h.2.2.1) i (.string s)
  have hgb : bb ≠ g := own_ne h.2.2.1 h.2.1 (by decide) bb rfl
  have hlb : ∀ k, vl.ownBlock = some k → k ≠ bb := fun k hk e => own_apart h.2.2.2 h.2.2.1 (by decide) k hk (by rw [e]; rfl)
  have hm : Moved w (w.setCell ⟨bb, i, none⟩ (.string s)) (fun k => k = bb) := Moved.set (S := fun k => k = bb) rfl _
  refine ⟨h.1, hm.block h.2.1 (fun e => hgb e.symm), ?_, hm.own h.2.2.2 (fun k hk => hlb k hk)⟩
  show World.ownsRow _ base 9 1 _ (d.blocks.set i s).length (strs (d.blocks.set i s))
  rw [List.length_set, hn, show strs (d.blocks.set i s) = (strs d.blocks).set i (.string s) by simp [strs, List.map_set]]
  exact ho
theorem pgs_snoc (l : List Pg) (p : Pg) : pgs (l ++ [p]) = pgs l ++ [.int .i64 p.at_, .string p.data] := by
  simp [pgs, List.flatMap_append]
/-- A disk's log, one page longer: the new row told in its block. -/
theorem DiskIs.logged {w1 : World} {v1 : Value} (h : DiskIs w base g vb vl d) (p : Pg) (ho : w1.ownsRow base 62 2 v1 (d.log.length + 1) (pgs d.log ++ [.int .i64 p.at_, .string p.data])) (hg : w.grownBy w1 vl.ownBlock) :
    DiskIs (w1.setCell ⟨g, 1, none⟩ v1) base g vb v1 ⟨d.blocks, d.log ++ [p], d.left, d.told, d.down⟩ := by
  have hm : Moved w w1 (fun k => vl.ownBlock = some k) := Moved.of_grown hg (fun k hk => hk.symm)
  have h1 := hm.block h.2.1 (fun e => own_ne h.2.2.2 h.2.1 (by decide) g e rfl)
  have h2 := hm.own h.2.2.1 (fun k hk hk' => own_apart h.2.2.1 h.2.2.2 (by decide) k hk hk')
  have hs : Moved w1 (w1.setCell ⟨g, 1, none⟩ v1) (fun k => k = g) := Moved.set (S := fun k => k = g) rfl _
  refine ⟨h.1, blk_put h1 1 v1 rfl, hs.own h2 (own_ne h2 h1 (by decide)), ?_⟩
  have h3 := hs.own ho (own_ne ho h1 (by decide))
  rw [List.length_append, List.length_singleton, pgs_snoc]
  exact h3
set_option maxRecDepth 100000 in
set_option maxHeartbeats 2000000 in
theorem Write_calls (a : Int) (s : ByteArray) (h : DiskIs w base g vb vl d) (hlog : (d.log.length + 1) * 24 ≤ 140737488355328) : Calls Try.prog 30 #[.pointer (some ⟨g, 0, none⟩), .int .i64 a, .string s] w fun e w' => ∃ vl', e = .returned (.int .i64 (writeD d a s).2) ∧ DiskIs w' base g vb vl' (writeD d a s).1 ∧ (vl'.ownBlock = vl.ownBlock ∨ ∃ b, vl'.ownBlock = some b ∧ w.heap.size ≤ b) ∧ Moved w w' (Foot g vb vl) := by
  have hu78 := Try.underlying78
  have hu62 := Try.underlying62
  have HD := Aside0.mk h
  by_cases h0 : mayD d a = 0
  case neg =>
    have b0 : (mayD d a != 0) = true := bne_iff_ne.2 h0
    unfold writeD
    rw [if_neg h0]
    clear h h0
    go_enter Try.func30, Try.ntmps30
    go_wp2_with (go_at_call 60; refine (may_calls a HD.out).mono ?_; rintro e w2 ⟨rfl, hw⟩; obtain rfl := hw.symm)
    go_ret
    exact ⟨vl, rfl, HD.out, Or.inl rfl, Moved.refl _ _⟩
  obtain ⟨_, ha, hb⟩ := may_zero h0
  have b0 : (mayD d a != 0) = false := by rw [h0]; rfl
  unfold writeD
  rw [if_pos h0]
  by_cases hs : s.size = 256
  case neg =>
    have b1 : ((s.size : Int) != 256) = true := bne_iff_ne.2 (by omega)
    rw [if_neg hs]
    clear h h0 ha hb hs
    go_enter Try.func30, Try.ntmps30
    go_wp2_with (go_at_call 60; refine (may_calls a HD.out).mono ?_; rintro e w2 ⟨rfl, hw⟩; obtain rfl := hw.symm)
    go_ret
    exact ⟨vl, rfl, HD.out, Or.inl rfl, Moved.refl _ _⟩
  have b1 : ((s.size : Int) != 256) = false := bne_eq_false_iff_eq.2 (by omega)
  rw [if_pos hs]
  obtain ⟨Al, cl, rfl, _⟩ := own_slice h.2.2.2
  obtain ⟨bb, c, cur, rfl, hbb, hh, hc, hat⟩ := own_form h.2.2.1 (by omega)
  have c0 := (blk_cell h.2.1 0).trans rfl
  have c1 := (blk_cell h.2.1 1).trans rfl
  have c2 := (blk_cell h.2.1 2).trans rfl
  have c3 := (blk_cell h.2.1 3).trans rfl
  have c4 := (blk_cell h.2.1 4).trans rfl
  have f1 := blk_frozen h.2.1 1
  have f2 := blk_frozen h.2.1 2
  have f4 := blk_frozen h.2.1 4
  have q := (blk_cell hh a.toNat).trans ((hat a.toNat (by omega)).trans (strs_at d.blocks a.toNat (by omega)))
  have fq := blk_frozen hh a.toNat
  have hgb : g ≠ bb := fun e => own_ne h.2.2.1 h.2.1 (by decide) bb rfl e.symm
  have hbg : bb ≠ g := fun e => hgb e.symm
  have HL := Aside0.mk hlog
  generalize d.blocks.getD a.toNat ⟨#[]⟩ = x at q
  have hbs : base ≤ w.heap.size := Nat.le_of_lt (Nat.lt_of_le_of_lt h.1 (blk_lt h.2.1))
  clear h h0 hh hat hs hlog
  cases ht : d.told with
  | true =>
    rw [ht] at c3
    by_cases hl : d.left = 0
    · rw [if_pos ⟨rfl, hl⟩]
      have hlb : (d.left == 0) = true := beq_iff_eq.2 hl
      have HBb := Aside0.mk hbb
      clear hl ha hb hbs hbb
      go_enter Try.func30, Try.ntmps30
      go_wp2_with (go_at_call 60; refine (may_calls a HD.out).mono ?_; rintro e w2 ⟨rfl, hw⟩; obtain rfl := hw.symm)
      go_ret
      have hm : Moved w (w.setCell ⟨g, 4, none⟩ (.bool true)) (fun k => k = g) := Moved.set (S := fun k => k = g) rfl _
      have hD := HD.out.put (told' := d.told) (down' := true) (blk_put HD.out.2.1 4 _ rfl) hm
      rw [ht] at hD
      exact ⟨_, rfl, hD, Or.inl rfl, hm.mono (fun k _ hk => Or.inl hk)⟩
    · rw [if_neg (fun e => hl e.2)]
      have hlb : (d.left == 0) = false := beq_eq_false_iff_ne.2 hl
      have D1 := Aside0.mk (HD.out.put (w' := w.setCell ⟨g, 2, none⟩ (.int .i64 (wrap64 (d.left - 1)))) (left' := wrap64 (d.left - 1)) (told' := d.told) (down' := d.down) (blk_put HD.out.2.1 2 _ rfl) (Moved.set (S := fun k => k = g) rfl _))
      have D2 := Aside0.mk (D1.out.setBlock a.toNat s)
      have HBs : Aside0 (base ≤ ((w.setCell ⟨g, 2, none⟩ (.int .i64 (wrap64 (d.left - 1)))).setCell ⟨bb, a.toNat, none⟩ (.string s)).heap.size) := ⟨by simpa [World.setCell] using hbs⟩
      clear hl hbb hbs
      go_enter Try.func30, Try.ntmps30
      go_wp2_with (first
        | (go_at_call 60; refine (may_calls a HD.out).mono ?_; rintro e w2 ⟨rfl, hw⟩; obtain rfl := hw.symm)
        | ((with_reducible refine gate_builtin (b := .append) (xs := #[.tmp 53, .tmp 57]) rfl ?_); at_builtin; refine print_append_cells (w0 := (w.setCell ⟨g, 2, none⟩ (.int .i64 (wrap64 (d.left - 1)))).setCell ⟨bb, a.toNat, none⟩ (.string s)) base rfl (.tmp 53) (.tmp 57) 35 62 (.agg #[(.int .i64 0), (.string ⟨#[]⟩)]) 2 24 rfl Try.underlying35 info62 rfl (by decide) (by decide) (.slice Al d.log.length cl) d.log.length (pgs d.log) [.int .i64 a, .string s] rfl (by first | rfl | (simp [World.setCell]; done) | (show Value.slice (some ⟨w.heap.size, 0, none⟩) 1 1 = _; simp [World.setCell])) rfl (by intro u hu; simp at hu; rcases hu with rfl | rfl <;> rfl) D2.out.2.2.2 (Below.refl _ _) HBs.out HL.out ?_; intro v1 w3 ho _ hg hat; have hm3 := Moved.of_grown (S := fun k => (Value.slice Al d.log.length cl).ownBlock = some k) hg (fun k hk => hk.symm); have h1 := hm3.block D2.out.2.1 (fun e => own_ne D2.out.2.2.2 D2.out.2.1 (by decide) g e rfl); obtain ⟨A1, c1, e1, _⟩ := own_slice ho; subst e1; have HO := Aside0.mk ho; have HG := Aside0.mk hg; have HAt := Aside0.mk hat; have HM3 := Aside0.mk hm3; have z1 := (blk_cell h1 1).trans rfl; have z1f := blk_frozen h1 1; clear ho hg hat hm3 h1))
      go_ret
      have hD := D2.out.logged ⟨a, s⟩ HO.out HG.out
      unfold putD
      rw [if_pos ht]
      refine ⟨rfl, _, hD, ?_, ?_⟩
      · rcases HAt.out with e | ⟨b, e, hb'⟩
        · exact Or.inl e
        · exact Or.inr ⟨b, e, by simpa [World.setCell] using hb'⟩
      · refine Moved.trans (Moved.trans (Moved.trans (Moved.set (j := 2) (Or.inl rfl) _) (Moved.set (j := a.toNat) (Or.inr (Or.inl rfl)) _)) (HM3.out.mono (fun k _ hk => Or.inr (Or.inr hk)))) (Moved.set (Or.inl rfl) _)
  | false =>
    rw [ht] at c3
    rw [if_neg (fun e => by cases e.1)]
    have D2 := Aside0.mk (HD.out.setBlock a.toNat s)
    have HBs : Aside0 (base ≤ (w.setCell ⟨bb, a.toNat, none⟩ (.string s)).heap.size) := ⟨by simpa [World.setCell] using hbs⟩
    clear hbb hbs
    go_enter Try.func30, Try.ntmps30
    go_wp2_with (first
      | (go_at_call 60; refine (may_calls a HD.out).mono ?_; rintro e w2 ⟨rfl, hw⟩; obtain rfl := hw.symm)
      | ((with_reducible refine gate_builtin (b := .append) (xs := #[.tmp 53, .tmp 57]) rfl ?_); at_builtin; refine print_append_cells (w0 := w.setCell ⟨bb, a.toNat, none⟩ (.string s)) base rfl (.tmp 53) (.tmp 57) 35 62 (.agg #[(.int .i64 0), (.string ⟨#[]⟩)]) 2 24 rfl Try.underlying35 info62 rfl (by decide) (by decide) (.slice Al d.log.length cl) d.log.length (pgs d.log) [.int .i64 a, .string s] rfl (by first | rfl | (simp [World.setCell]; done) | (show Value.slice (some ⟨w.heap.size, 0, none⟩) 1 1 = _; simp [World.setCell])) rfl (by intro u hu; simp at hu; rcases hu with rfl | rfl <;> rfl) D2.out.2.2.2 (Below.refl _ _) HBs.out HL.out ?_; intro v1 w3 ho _ hg hat; have hm3 := Moved.of_grown (S := fun k => (Value.slice Al d.log.length cl).ownBlock = some k) hg (fun k hk => hk.symm); have h1 := hm3.block D2.out.2.1 (fun e => own_ne D2.out.2.2.2 D2.out.2.1 (by decide) g e rfl); obtain ⟨A1, c1, e1, _⟩ := own_slice ho; subst e1; have HO := Aside0.mk ho; have HG := Aside0.mk hg; have HAt := Aside0.mk hat; have HM3 := Aside0.mk hm3; have z1 := (blk_cell h1 1).trans rfl; have z1f := blk_frozen h1 1; clear ho hg hat hm3 h1))
    go_ret
    have hD := D2.out.logged ⟨a, s⟩ HO.out HG.out
    unfold putD
    rw [if_neg (by rw [ht]; decide)]
    refine ⟨rfl, _, hD, ?_, ?_⟩
    · rcases HAt.out with e | ⟨b, e, hb'⟩
      · exact Or.inl e
      · exact Or.inr ⟨b, e, by simpa [World.setCell] using hb'⟩
    · refine Moved.trans (Moved.trans (Moved.set (j := a.toNat) (Or.inr (Or.inl rfl)) _) (HM3.out.mono (fun k _ hk => Or.inr (Or.inr hk)))) (Moved.set (Or.inl rfl) _)
end
end Go.Proofs.Ytgageigcjeaenaa.Disk
namespace Go.Proofs.Ytgageigcjeaenaa.Disk
open Go.RowKit Go.Proofs.YtgageigcjeaenaaW.PrintWords Go.Proofs.YtgageigcjeaenaaW.PrintLast Go.Proofs.YtgageigcjeaenaaW.PrintMore Go.Proofs.Ytgageigcjeaenaa.MixBase Go.Proofs.Ytgageigcjeaenaa.MixPlain Go.Proofs.Ytgageigcjeaenaa.NumBase Go.Proofs.Ytgageigcjeaenaa.PadPlain
attribute [local go_sem] max2_int min2_int max_two min_two max_three min_three max_four min_four
set_option linter.unusedVariables false
set_option linter.unusedSimpArgs false
theorem wpList_make_rows {P : Program} {w : World} {ops : Array Oper} {rest : List Oper} {o : Oper} {a : Act} {Q : Exit → Act → World → Prop} (hgd : o.guard = none) (x : Operand) {t e : TypeId} {size bytes : Nat} {z : Value} (ho : o.op = .makeSlice t x x) (ht : P.underlying t = some (.slice e))
    (hinfo : (P.info? e).map (fun i => (i.zero, i.size, i.bytes)) = some (some z, size, bytes)) (n : Nat) (hx : a.eval x = .int .i64 (n : Int)) (hb : bytes * n ≤ 281474976710656) (hn : n ≤ 9223372036854775807)
    (h : ∀ cur : Array Value, cur.size = n * size → wpList P ops Q rest (a.put o.dst (.slice (some ⟨w.heap.size, 0, none⟩) n n)) (w.alloc (.cells cur e (0, 0)))) :
    wpList P ops Q (o :: rest) a w := by
  refine wpList_plain hgd fun K hK => ?_
  obtain ⟨i, hi, hzz⟩ := Option.map_eq_some_iff.1 hinfo
  simp only [Prod.mk.injEq] at hzz
  obtain ⟨hz, hs, hb'⟩ := hzz
  have hbi : (i.bytes : Int) * (n : Int) ≤ 281474976710656 := by
    rw [hb']
    have : ((bytes * n : Nat) : Int) ≤ 281474976710656 := by omega
    rwa [Int.natCast_mul] at this
  have hrun := run_make (P := P) w t e i z ht hi hz .i64 .i64 n n (by omega) (by omega) hbi (by omega)
  rw [hs] at hrun
  simp only [Int.toNat_natCast] at hrun
  unfold Oper.wp
  simp [execOp, ho, hx, hrun, Result.andThen]
  exact hK _ _ (h _ (size_madeCells _ _))
theorem run_copy_all {P : Program} (w : World) (dT sT ty elem : TypeId) (size : Nat) (hu : P.underlying dT = some (.slice elem)) (hs : (P.info? elem).map (·.size) = some size) (g n dCap base e : Nat) (v : Value) (xs : List Value) (cur : Array Value) (t : TypeId)
    (hg : w.heap[g]? = some (.cells cur t (0, 0))) (hcur : cur.size = n * size) (ho : w.ownsRow base e size v n xs) (h1 : ∀ u ∈ xs, u.oneCell' = true) :
    (Builtin.copy_ #[dT, sT] ty #[.slice (some ⟨g, 0, none⟩) n dCap, v]).run P w = .ok (goInt n) (w.setRow g xs.toArray) := by
  have hxl := ho.1
  rcases ho.2 with ⟨rfl, rfl⟩ | ⟨gs, cap, cur2, rfl, _, hgs, hnc, _, hsz, htake⟩
  · have hx0 : xs = [] := List.eq_nil_of_length_eq_zero (by rw [hxl]; simp)
    have hc0 : cur = #[] := Array.eq_empty_of_size_eq_zero (by rw [hcur]; simp)
    subst hx0 hc0
    rw [run_copy_nil P w dT sT ty elem ⟨g, 0, none⟩ 0 dCap hu (by cases hq : P.info? elem with | none => simp [hq] at hs | some i => rfl)]
    rw [setRow_self w g _ t (0, 0) hg]
    rfl
  · have hsrc : ∀ j u, xs[j]? = some u → w.cell? ((⟨gs, 0, none⟩ : Addr).add j) = some u := by
      intro j u hj
      have hjl := (List.getElem?_eq_some_iff.1 hj).1
      have e2 : cur2[j]? = xs[j]? := by
        conv => rhs; rw [← htake]
        rw [List.getElem?_take_of_lt (by omega), Array.getElem?_toList]
      rw [show (⟨gs, 0, none⟩ : Addr).add j = ⟨gs, j, none⟩ by unfold Addr.add; split <;> simp_all, blk_cell hgs, e2, hj]
    have hl := run_loadCells_list (P := P) w ⟨gs, 0, none⟩ xs hsrc
    have hst := run_storeCells_at P g 0 t xs 0 cur w hg (by rw [hcur, hxl]; omega) h1
    have hdrop : cur.toList.drop (0 + 0 + xs.length) = [] := List.drop_eq_nil_of_le (by rw [Array.length_toList, hcur, hxl]; omega)
    have htk : cur.toList.take (0 + 0) = [] := by simp
    rw [hdrop, htk, List.nil_append, List.append_nil] at hst
    cases hq : P.info? elem with
    | none => simp [hq] at hs
    | some i =>
      have hi : i.size = size := by simpa [hq] using hs
      simp [Builtin.copy_, run_underlying hu, Builtin.lenOf, Builtin.firstCells, sizeOf, typeInfo, hq, hi, ← hxl, hl, hst]
theorem wpList_copy_all {P : Program} {w : World} {ops : Array Oper} {rest : List Oper} {o : Oper} {a : Act} {Q : Exit → Act → World → Prop} (hgd : o.guard = none) (d s : Operand) (dT sT : TypeId)
    (ho : o.op = .call { callee := .builtin .copy, args := #[d, s], argTypes := #[dT, sT] }) (elem : TypeId) (size : Nat) (hu : P.underlying dT = some (.slice elem)) (hsz : (P.info? elem).map (·.size) = some size)
    (g n dCap base e : Nat) (v : Value) (xs : List Value) (hd : a.eval d = .slice (some ⟨g, 0, none⟩) n dCap) (hs : a.eval s = v) (cur : Array Value) (t : TypeId) (hg : w.heap[g]? = some (.cells cur t (0, 0))) (hcur : cur.size = n * size)
    (hown : w.ownsRow base e size v n xs) (h1 : ∀ u ∈ xs, u.oneCell' = true)
    (h : wpList P ops Q rest (a.put o.dst (goInt n)) (w.setRow g xs.toArray)) : wpList P ops Q (o :: rest) a w := by
  refine wpList_plain hgd fun K hK => ?_
  have hrun := run_copy_all (P := P) w dT sT o.type elem size hu hsz g n dCap base e v xs cur t hg hcur hown h1
  unfold Oper.wp
  simp [execOp, ho, resolve, invoke, builtin, hd, hs, hrun, Result.andThen]
  exact hK _ _ h
theorem strs_one (l : List ByteArray) : ∀ u ∈ strs l, u.oneCell' = true := by
  intro u hu
  obtain ⟨x, _, rfl⟩ := List.mem_map.1 hu
  rfl
theorem pgs_one (l : List Pg) : ∀ u ∈ pgs l, u.oneCell' = true := by
  intro u hu
  obtain ⟨x, _, hx⟩ := List.mem_flatMap.1 hu
  simp at hx
  rcases hx with rfl | rfl <;> rfl
/-- A row that has been made and laid whole. -/
theorem own_laid {w : World} {e size n : Nat} {xs : List Value} {cur : Array Value} (hx : xs.length = n * size) (hn : n ≤ maxLen) :
    ((w.alloc (.cells cur e (0, 0))).setRow w.heap.size xs.toArray).ownsRow w.heap.size e size (.slice (some ⟨w.heap.size, 0, none⟩) n n) n xs ∧ Below w.heap.size w ((w.alloc (.cells cur e (0, 0))).setRow w.heap.size xs.toArray) :=
  ⟨⟨hx, Or.inr ⟨_, n, xs.toArray, rfl, Nat.le_refl _, setRow_heap _ _ cur _ e _ (blk_new w _), Nat.le_refl _, hn, by simp [hx], by simp [← hx]⟩⟩, below_setRow (below_alloc (Below.refl _ _) _) (Nat.le_refl _) _⟩
section
variable {w : World} {base g : Nat} {vb vl : Value} {d : Dk}
set_option maxRecDepth 100000 in
theorem Image_calls (h : DiskIs w base g vb vl d) (hn : d.blocks.length * 16 ≤ 140737488355328) : Calls Try.prog 24 #[.pointer (some ⟨g, 0, none⟩)] w fun e w' => ∃ v, e = .returned v ∧ w'.ownsRow w.heap.size 9 1 v d.blocks.length (strs d.blocks) ∧ Below w.heap.size w w' := by
  have hu78 := Try.underlying78
  obtain ⟨A, c, rfl, hm⟩ := own_slice h.2.2.1
  have HD := Aside0.mk h
  have HN := Aside0.mk hn
  have HM := Aside0.mk hm
  have c0 := (blk_cell h.2.1 0).trans rfl
  clear h hn hm
  go_enter Try.func24, Try.ntmps24
  go_wp2_with (first
    | (refine wpList_make_rows rfl (.tmp 10) rfl Try.underlying37 info9 d.blocks.length rfl (by have := HN.out; omega) (by have := HN.out; omega) ?_; intro cur hcur; have HCur := Aside0.mk hcur; have BG := Aside0.mk (blk_new w (.cells cur 9 (0, 0))); have HO := Aside0.mk (own_alloc HD.out.2.2.1 (.cells cur 9 (0, 0))); have c0' := (blk_cell (blk_alloc HD.out.2.1 (.cells cur 9 (0, 0))) 0).trans rfl; clear hcur)
    | (refine wpList_copy_all rfl (.tmp 12) (.tmp 16) 37 37 rfl 9 1 Try.underlying37 (by kernel_rfl) w.heap.size d.blocks.length d.blocks.length base 9 (.slice A d.blocks.length c) (strs d.blocks) rfl rfl cur 9 BG.out HCur.out HO.out (strs_one _) ?_))
  go_ret
  have hl := own_laid (w := w) (e := 9) (size := 1) (n := d.blocks.length) (xs := strs d.blocks) (cur := cur) (by rw [strs_length]; omega) HM.out
  exact ⟨_, rfl, hl⟩
theorem Image_nil (w : World) : Calls Try.prog 24 #[.pointer none] w fun e w' => e = .returned (.slice none 0 0) ∧ w' = w := by
  go_enter Try.func24, Try.ntmps24
  go_wp2
  go_ret
  exact ⟨rfl, rfl⟩
set_option maxRecDepth 100000 in
theorem Log_calls (h : DiskIs w base g vb vl d) (hn : d.log.length * 24 ≤ 140737488355328) : Calls Try.prog 19 #[.pointer (some ⟨g, 0, none⟩)] w fun e w' => ∃ v, e = .returned v ∧ w'.ownsRow w.heap.size 62 2 v d.log.length (pgs d.log) ∧ Below w.heap.size w w' := by
  have hu78 := Try.underlying78
  obtain ⟨A, c, rfl, hm⟩ := own_slice h.2.2.2
  have HD := Aside0.mk h
  have HN := Aside0.mk hn
  have HM := Aside0.mk hm
  have c0 := (blk_cell h.2.1 1).trans rfl
  clear h hn hm
  go_enter Try.func19, Try.ntmps19
  go_wp2_with (first
    | (refine wpList_make_rows rfl (.tmp 10) rfl Try.underlying35 info62 d.log.length rfl (by have := HN.out; omega) (by have := HN.out; omega) ?_; intro cur hcur; have HCur := Aside0.mk hcur; have BG := Aside0.mk (blk_new w (.cells cur 62 (0, 0))); have HO := Aside0.mk (own_alloc HD.out.2.2.2 (.cells cur 62 (0, 0))); have c0' := (blk_cell (blk_alloc HD.out.2.1 (.cells cur 62 (0, 0))) 1).trans rfl; clear hcur)
    | (refine wpList_copy_all rfl (.tmp 12) (.tmp 16) 35 35 rfl 62 2 Try.underlying35 (by kernel_rfl) w.heap.size d.log.length d.log.length base 62 (.slice A d.log.length c) (pgs d.log) rfl rfl cur 62 BG.out HCur.out HO.out (pgs_one _) ?_))
  go_ret
  have hl := own_laid (w := w) (e := 62) (size := 2) (n := d.log.length) (xs := pgs d.log) (cur := cur) (pgs_length _) HM.out
  exact ⟨_, rfl, hl⟩
theorem Log_nil (w : World) : Calls Try.prog 19 #[.pointer none] w fun e w' => e = .returned (.slice none 0 0) ∧ w' = w := by
  go_enter Try.func19, Try.ntmps19
  go_wp2
  go_ret
  exact ⟨rfl, rfl⟩
end
end Go.Proofs.Ytgageigcjeaenaa.Disk
namespace Go.Proofs.Ytgageigcjeaenaa.Disk
open Go.RowKit Go.Proofs.YtgageigcjeaenaaW.PrintWords Go.Proofs.YtgageigcjeaenaaW.PrintLast Go.Proofs.YtgageigcjeaenaaW.PrintMore Go.Proofs.Ytgageigcjeaenaa.MixBase Go.Proofs.Ytgageigcjeaenaa.MixPlain Go.Proofs.Ytgageigcjeaenaa.NumBase Go.Proofs.Ytgageigcjeaenaa.PadPlain
attribute [local go_sem] max2_int min2_int max_two min_two max_three min_three max_four min_four
set_option linter.unusedVariables false
set_option linter.unusedSimpArgs false
theorem step_copy_strs {P : Program} {ops : Array Oper} {o : Oper} {a : Act} {w : World} {K : Act → World → Prop} {Q : Exit → Act → World → Prop} {E : Prop} (hgd : o.guard = none) (d s : Operand) (dT sT : TypeId)
    (ho : o.op = .call { callee := .builtin .copy, args := #[d, s], argTypes := #[dT, sT] }) (elem : TypeId) (hu : P.underlying dT = some (.slice elem)) (hsz : (P.info? elem).map (·.size) = some 1)
    (g off dLen dCap sLen sCap : Nat) (hd : a.eval d = .slice (some ⟨g, off, none⟩) dLen dCap) (hs : a.eval s = .slice (some ⟨g, 0, none⟩) sLen sCap)
    (cur : Array Value) (t : TypeId) (hg : w.heap[g]? = some (.cells cur t (0, 0))) (cs : List Value) (hn : cs.length = Nat.min sLen dLen)
    (hsrc : ∀ (j : Nat) (v : Value), cs[j]? = some v → cur[j]? = some v) (hfit : off + cs.length ≤ cur.size) (h1 : ∀ v ∈ cs, v.oneCell' = true)
    (h : K (a.put o.dst (goInt cs.length)) (w.setRow g (cur.toList.take off ++ (cs ++ cur.toList.drop (off + cs.length))).toArray)) :
    if Region.wanted o (yielded ops a.tmps) = true then Oper.wp P o a w K Q else E := by
  have hw : Region.wanted o (yielded ops a.tmps) = true := by simp [Region.wanted, hgd]
  rw [if_pos hw]
  have hsrc' : ∀ (j : Nat) (v : Value), cs[j]? = some v → w.cell? ((⟨g, 0, none⟩ : Addr).add j) = some v := by
    intro (j : Nat) v hj
    rw [show (⟨g, 0, none⟩ : Addr).add j = ⟨g, j, none⟩ by unfold Addr.add; split <;> simp_all, blk_cell hg]
    exact hsrc j v hj
  have hrun := run_copy_row P w dT sT o.type elem g off dLen dCap ⟨g, 0, none⟩ sLen sCap cur t cs hu hsz hg hn hsrc' hfit h1
  unfold Oper.wp
  simp [execOp, ho, resolve, invoke, builtin, hd, hs, hrun, Result.andThen]
  exact h
/-- A row of strings, laid as far as m. -/
def LaidTo (s : ByteArray) (n m : Nat) (cur : Array Value) : Prop := cur.size = n ∧ ∀ j, j < m → cur[j]? = some (.string s)
theorem laid_more {s : ByteArray} {n m k : Nat} {cur : Array Value} (h : LaidTo s n m cur) (hk : m + k ≤ n) : LaidTo s n (m + k) (cur.toList.take m ++ List.replicate k (Value.string s) ++ cur.toList.drop (m + k)).toArray := by
  obtain ⟨h1, h2⟩ := h
  have hl : (cur.toList.take m).length = m := by rw [List.length_take, Array.length_toList]; omega
  refine ⟨by simp [h1]; omega, fun j hj => ?_⟩
  rw [List.getElem?_toArray, List.append_assoc]
  by_cases hjm : j < m
  · rw [List.getElem?_append_left (by omega), List.getElem?_take_of_lt hjm, Array.getElem?_toList]
    exact h2 j hjm
  · rw [List.getElem?_append_right (by omega), List.getElem?_append_left (by rw [List.length_replicate, hl]; omega), List.getElem?_replicate, if_pos (by omega)]
theorem laid_all {s : ByteArray} {n : Nat} {cur : Array Value} (h : LaidTo s n n cur) : cur.toList = strs (List.replicate n s) := by
  apply List.ext_getElem?
  intro j
  rw [Array.getElem?_toList]
  by_cases hj : j < n
  · rw [h.2 j hj, strs, List.getElem?_map, List.getElem?_replicate, if_pos hj]
    rfl
  · rw [Array.getElem?_eq_none (by have := h.1; omega), List.getElem?_eq_none (by rw [strs_length, List.length_replicate]; omega)]
theorem laid_src {s : ByteArray} {n m k : Nat} {c : Array Value} (h : LaidTo s n m c) (hk : k ≤ m) : ∀ (j : Nat) (v : Value), (List.replicate k (Value.string s))[j]? = some v → c[j]? = some v := by
  intro j v hj
  rw [List.getElem?_replicate] at hj
  by_cases hjk : j < k
  · rw [if_pos hjk] at hj
    rw [h.2 j (by omega), hj]
  · rw [if_neg hjk] at hj
    cases hj
theorem first_copy {w : World} {cur : Array Value} {s : ByteArray} {n : Nat} (hcur : cur.size = n * 1) (h1 : 1 ≤ n) {Q : World → Prop} (h : ∀ w4 c, w4.heap[w.heap.size]? = some (.cells c 9 (0, 0)) → LaidTo s n 1 c → Below w.heap.size w w4 → Q w4) :
    Q ((w.alloc (.cells cur 9 (0, 0))).setRow w.heap.size (cur.toList.take 0 ++ ([Value.string s] ++ cur.toList.drop (0 + [Value.string s].length))).toArray) := by
  have hL0 : LaidTo s n 0 cur := ⟨by omega, fun j hj => absurd hj (by omega)⟩
  have hL1 := laid_more (k := 1) hL0 (by omega)
  exact h _ _ (setRow_heap _ _ cur _ 9 (0, 0) (blk_new w _)) (by simpa using hL1) (below_setRow (below_alloc (Below.refl _ _) _) (Nat.le_refl _) _)
theorem more_copy {w w0 : World} {g B : Nat} {cur : Array Value} {s : ByteArray} {n m k : Nat} (hg : w.heap[g]? = some (.cells cur 9 (0, 0))) (hL : LaidTo s n m cur) (hk : m + k ≤ n) (hB : B ≤ g) (hb : Below B w0 w) {Q : World → Prop} (h : ∀ w4 c, w4.heap[g]? = some (.cells c 9 (0, 0)) → LaidTo s n (m + k) c → Below B w0 w4 → w4.heap.size = w.heap.size → Q w4) :
    Q (w.setRow g (cur.toList.take m ++ (List.replicate k (Value.string s) ++ cur.toList.drop (m + (List.replicate k (Value.string s)).length))).toArray) := by
  have hL1 := laid_more (k := k) hL hk
  exact h _ _ (setRow_heap _ _ cur _ 9 (0, 0) hg) (by rw [List.length_replicate]; simpa using hL1) (below_setRow hb hB _) (by simp [World.setRow])
set_option maxRecDepth 100000 in
set_option maxHeartbeats 2000000 in
theorem sRepeat_calls (s : ByteArray) (n ga : Nat) (h1 : 1 ≤ n) (hn : n ≤ 4096) (w : World) (hA : w.heap[ga]? = some (.cells #[.string s] 9 (0, 0))) :
    Calls Try.prog 57 #[.slice (some ⟨ga, 0, none⟩) 1 1, .int .i64 (n : Int)] w fun e w' => ∃ v, e = .returned v ∧ w'.ownsRow w.heap.size 9 1 v n (strs (List.replicate n s)) ∧ Below w.heap.size w w' := by
  have HA := Aside0.mk hA
  have H1 := Aside0.mk h1
  have HN := Aside0.mk hn
  have b0 : decide ((n : Int) < 0) = false := decide_eq_false (by omega)
  have e1 : (1 * n / 18446744073709551616 : Nat) = 0 := by omega
  have e2 : (1 * n % 18446744073709551616 : Nat) = n := by omega
  have u1 : IntKind.u64.wrap (1 : Int) = ((1 : Nat) : Int) := rfl
  have u2 : IntKind.u64.wrap (n : Int) = (n : Int) := u64_small (by omega) (by omega)
  have b1 : decide ((9223372036854775807 : Int) < (n : Int)) = false := decide_eq_false (by omega)
  clear hA
  go_enter Try.func57, Try.ntmps57
  go_wp2_with (first
    | (go_at_call 78; refine (Try.bits_Mul 1 n (by decide) (by have := HN.out; omega) _).mono ?_; rintro e w2 ⟨rfl, hw⟩; obtain rfl := hw.symm; rw [e1, e2])
    | (refine wpList_make_rows rfl (.tmp 29) rfl Try.underlying37 info9 n rfl (by have := HN.out; omega) (by have := HN.out; omega) ?_; intro cur hcur; have HCur := Aside0.mk hcur; have BG := Aside0.mk (blk_new w (.cells cur 9 (0, 0))); have BA := Aside0.mk (blk_alloc HA.out (.cells cur 9 (0, 0))); clear hcur)
    | (refine wpList_copy_own rfl (.tmp 31) (.tmp 32) 37 37 rfl 9 Try.underlying37 (by kernel_rfl) w.heap.size 0 n n ⟨ga, 0, none⟩ 1 1 rfl rfl cur 9 BG.out [.string s] (Nat.min_eq_left H1.out).symm (fun j v hj => match j, hj with | 0, hj => (blk_cell BA.out 0).trans hj | j + 1, hj => by simp at hj) (by have := H1.out; have := HCur.out; show 0 + 1 ≤ cur.size; omega) (fun v hv => by simp at hv; subst hv; rfl) ?_; refine first_copy (Q := fun w4 => wpList _ _ _ _ _ w4) HCur.out H1.out ?_; intro w4 cur1 hr hl hb; have HR4 := Aside0.mk hr; have HL4 := Aside0.mk hl; have HB4 := Aside0.mk hb; clear hr hl hb HCur BG BA))
  go_loopg [8] (n - 1) (fun kq v8 wr => ∃ (m : Nat) (c : Array Value), v8 = .int .i64 (m : Int) ∧ m ≤ n ∧ Aside0 (kq = n - m) ∧ Aside0 (1 ≤ m) ∧ Aside0 (LaidTo s n m c) ∧ Aside0 (wr.heap[w.heap.size]? = some (.cells c 9 (0, 0))) ∧ Aside0 (Below w.heap.size w wr))
  case atStart => exact ⟨1, cur1, rfl, h1, ⟨rfl⟩, ⟨Nat.le_refl _⟩, HL4, HR4, HB4⟩
  case round =>
    clear HL4 HR4 HB4
    obtain ⟨m, c, rfl, hmn, hkq, HM1, HL, HR, HB⟩ := hrel
    by_cases hlt : m < n
    · have hz : (m : Int) < (n : Int) := by omega
      have hm0 : 0 ≤ (m : Int) := by omega
      have hmz : (m : Int) ≤ (n : Int) := by omega
      have hne : (n = m) = False := eq_false (by omega)
      go_wp2
      have HMN := Aside0.mk hlt
      go_region_held3 (fun w' => wr.heap.size ≤ w'.heap.size) (first | exact Nat.le_refl _ | exact HS5.out) (first | (refine step_copy_strs rfl (.tmp 41) (.tmp 44) 37 37 rfl 9 Try.underlying37 (by kernel_rfl) w.heap.size m (n - m) (n - m) m n rfl rfl c 9 (blk_drew HR.out) (List.replicate (min m (n - m)) (Value.string s)) (by simp) (laid_src HL.out (Nat.min_le_left _ _)) (by have := HL.out.1; have := HMN.out; rw [List.length_replicate]; omega) (fun v hv => by rw [List.eq_of_mem_replicate hv]; rfl) ?_; refine more_copy (Q := fun w4 => _) (k := min m (n - m)) (blk_drew HR.out) HL.out (by have := HMN.out; omega) (Nat.le_refl _) (below_drew1 HB.out) ?_; intro w5 c5 hr hl hb hs5; have HR5 := Aside0.mk hr; have HL5 := Aside0.mk hl; have HB5 := Aside0.mk hb; have HS5 : Aside0 (wr.heap.size ≤ w5.heap.size) := ⟨by rw [hs5]; exact Nat.le_refl _⟩; clear hr hl hb hs5))
      go_wp2
      go_roundg (n - (m + min m (n - m)))
      case measure => have := hkq.out; have := HM1.out; have := HMN.out; omega
      case rel => exact ⟨m + min m (n - m), c5, by have h1 := HMN.out; have h2 := HN.out; first | (rw [wrap64_small (by omega) (by omega)]; first | rfl | (simp; done) | (congr 1; omega)) | (have e : IntKind.i64.wrap ((m : Int) + ((min m (n - m) : Nat) : Int)) = (m : Int) + ((min m (n - m) : Nat) : Int) := (i64_w _).trans (wrap64_small (by omega) (by omega)); first | (simp [e]; done) | (simp; omega)), by have := HMN.out; omega, ⟨rfl⟩, ⟨by have := HM1.out; omega⟩, HL5, HR5, HB5⟩
    · obtain rfl : m = n := by omega
      clear hlt
      go_wp2
      go_ret
      refine ⟨_, rfl, ⟨by rw [strs_length, List.length_replicate, Nat.mul_one], Or.inr ⟨_, m, c, rfl, Nat.le_refl _, HR.out, Nat.le_refl _, by have := HN.out; simp only [maxLen]; omega, by rw [HL.out.1, Nat.mul_one], ?_⟩⟩, HB.out⟩
      rw [laid_all HL.out]
      exact List.take_of_length_le (by rw [strs_length, List.length_replicate]; omega)
end Go.Proofs.Ytgageigcjeaenaa.Disk
namespace Go.Proofs.Ytgageigcjeaenaa.Disk
open Go.RowKit Go.Proofs.YtgageigcjeaenaaW.PrintWords Go.Proofs.YtgageigcjeaenaaW.PrintLast Go.Proofs.YtgageigcjeaenaaW.PrintMore Go.Proofs.Ytgageigcjeaenaa.MixBase Go.Proofs.Ytgageigcjeaenaa.MixPlain Go.Proofs.Ytgageigcjeaenaa.NumBase Go.Proofs.Ytgageigcjeaenaa.PadPlain
attribute [local go_sem] max2_int min2_int max_two min_two max_three min_three max_four min_four
set_option linter.unusedVariables false
set_option linter.unusedSimpArgs false
def newD (n : Nat) : Dk := ⟨List.replicate n (zeros 256), [], 0, false, false⟩
theorem many_calls (a : Int) (w : World) : Calls Try.prog 55 #[.int .i64 a] w fun e w' => e = .returned (.bool (decide (64 ≤ a ∧ a ≤ 2048))) ∧ w' = w := by
  by_cases h1 : 64 ≤ a
  · have b1 : decide (64 ≤ a) = true := decide_eq_true h1
    by_cases h2 : a ≤ 2048
    · have b2 : decide (a ≤ 2048) = true := decide_eq_true h2
      rw [decide_eq_true (show 64 ≤ a ∧ a ≤ 2048 from ⟨h1, h2⟩)]
      go_enter Try.func55, Try.ntmps55
      go_wp2
      go_ret
      exact ⟨rfl, rfl⟩
    · have b2 : decide (a ≤ 2048) = false := decide_eq_false h2
      rw [decide_eq_false (show ¬ (64 ≤ a ∧ a ≤ 2048) from fun h => h2 h.2)]
      go_enter Try.func55, Try.ntmps55
      go_wp2
      go_ret
      exact ⟨rfl, rfl⟩
  · have b1 : decide (64 ≤ a) = false := decide_eq_false h1
    rw [decide_eq_false (show ¬ (64 ≤ a ∧ a ≤ 2048) from fun h => h1 h.1)]
    go_enter Try.func55, Try.ntmps55
    go_wp2
    go_ret
    exact ⟨rfl, rfl⟩
theorem own_none {w : World} (base e size : Nat) : w.ownsRow base e size (.slice none 0 0) 0 [] := own_nil _ _ _ _
theorem New_bad (a : Int) (h : ¬ (64 ≤ a ∧ a ≤ 2048)) (w : World) : Calls Try.prog 27 #[.int .i64 a] w fun e w' => e = .returned (.tuple #[.pointer none, .int .i64 1]) ∧ w' = w := by
  have hd := decide_eq_false h
  clear h
  go_enter Try.func27, Try.ntmps27
  go_wp2_with (go_at_call 55; refine (many_calls a _).mono ?_; rintro e w2 ⟨rfl, hw⟩; obtain rfl := hw.symm; rw [hd])
  go_ret2
  exact ⟨rfl, rfl⟩
set_option maxRecDepth 100000 in
theorem New_calls (n : Nat) (h1 : 64 ≤ n) (h2 : n ≤ 2048) (w : World) : Calls Try.prog 27 #[.int .i64 (n : Int)] w fun e w' => ∃ g vb, e = .returned (.tuple #[.pointer (some ⟨g, 0, none⟩), .int .i64 0]) ∧ DiskIs w' w.heap.size g vb (.slice none 0 0) (newD n) ∧ Below w.heap.size w w' := by
  have hu78 := Try.underlying78
  have hd : decide (64 ≤ (n : Int) ∧ (n : Int) ≤ 2048) = true := decide_eq_true (by omega)
  have H1 := Aside0.mk h1
  have H2 := Aside0.mk h2
  have hz : (⟨(Lib.repeatL (⟨#[0]⟩ : ByteArray).data.toList 256).toArray⟩ : ByteArray) = zeros 256 := repeat_zeros 256
  clear h1 h2
  go_enter Try.func27, Try.ntmps27
  go_wp2_with (first
    | (go_at_call 55; refine (many_calls n _).mono ?_; rintro e w2 ⟨rfl, hw⟩; obtain rfl := hw.symm; rw [hd])
    | (go_at_call 56; refine (Try.strings_Repeat ⟨#[0]⟩ 256 w (by decide) (by decide)).mono ?_; rintro e w3 ⟨rfl, hb⟩; rw [hz]; have HB3 := Aside0.mk hb; clear hb)
    | (go_at_call 57; refine (sRepeat_calls (zeros 256) n w3.heap.size (by have := H1.out; omega) (by have := H2.out; omega) _ (blk_new w3 _)).mono ?_; rintro e w4 ⟨v, rfl, ho, hb⟩; obtain ⟨A, c, rfl, _⟩ := own_slice ho; have HO := Aside0.mk ho; have HB4 := Aside0.mk (below_step (below_alloc HB3.out _) hb); have HLe := Aside0.mk (below_size (below_alloc HB3.out (.cells #[.string (zeros 256)] 9 (0, 0)))); clear ho hb))
  go_ret2
  refine ⟨_, _, rfl, ⟨?_, blk_new w4 _, ?_, own_none _ _ _⟩, below_alloc HB4.out _⟩
  · exact below_size HB4.out
  · show World.ownsRow _ _ 9 1 _ (List.replicate n (zeros 256)).length (strs (List.replicate n (zeros 256)))
    rw [List.length_replicate]
    exact own_alloc (own_less HO.out HLe.out) _
def ofErr (l : List ByteArray) : Int := if 64 ≤ l.length ∧ l.length ≤ 2048 then (if l.all (fun b => b.size == 256) = true then 0 else 3) else 1
theorem strs_cell {w : World} {base bb c n : Nat} {l : List ByteArray} (h : w.ownsRow base 9 1 (.slice (some ⟨bb, 0, none⟩) n c) n (strs l)) (hn : 0 < n) (i : Nat) (hi : i < l.length) : w.cell? ⟨bb, i, none⟩ = some (.string (l.getD i ⟨#[]⟩)) := by
  obtain ⟨b2, c2, cur, e, _, hh, _, hat⟩ := own_form h hn
  have hl : l.length = n := by have := h.1; rw [strs_length] at this; omega
  injection e with e1 e2 e3
  injection e1 with e1
  injection e1 with e1
  subst e1
  exact (blk_cell hh i).trans ((hat i (by omega)).trans (strs_at l i hi))
set_option maxRecDepth 100000 in
theorem Of_bad {w : World} {base : Nat} {v : Value} (l : List ByteArray) (h : w.ownsRow base 9 1 v l.length (strs l)) (he : ofErr l ≠ 0) : Calls Try.prog 35 #[v] w fun e w' => e = .returned (.tuple #[.pointer none, .int .i64 (ofErr l)]) ∧ w' = w := by
  obtain ⟨A, c, rfl, hm⟩ := own_slice h
  unfold ofErr at he ⊢
  by_cases hd : 64 ≤ l.length ∧ l.length ≤ 2048
  · rw [if_pos hd] at he ⊢
    by_cases ha : l.all (fun b => b.size == 256) = true
    · rw [if_pos ha] at he; exact absurd rfl he
    · rw [if_neg ha]
      have hdd : decide (64 ≤ (l.length : Int) ∧ (l.length : Int) ≤ 2048) = true := decide_eq_true (by omega)
      obtain ⟨bb, c2, cur, e, _⟩ := own_form h (by omega)
      injection e with e1 e2 e3
      subst e1 e3
      have HO := Aside0.mk h
      have HD := Aside0.mk hd
      have HA : Aside0 (¬ (l.drop 0).all (fun b => b.size == 256) = true) := ⟨ha⟩
      clear h hd he ha
      go_enter Try.func35, Try.ntmps35
      go_wp2_with (go_at_call 55; refine (many_calls l.length _).mono ?_; rintro e w2 ⟨rfl, hw⟩; obtain rfl := hw.symm; rw [hdd])
      go_loopg [12] l.length (fun kq v12 wr => ∃ (i : Nat), v12 = .int .i64 (i : Int) ∧ i ≤ l.length ∧ Aside0 (kq = l.length - i) ∧ Aside0 (¬ (l.drop i).all (fun b => b.size == 256) = true) ∧ wr = w)
      case atStart => exact ⟨0, rfl, Nat.zero_le _, ⟨rfl⟩, HA, rfl⟩
      case round =>
        clear HA
        obtain ⟨i, rfl, hi, hkq, HA, hw⟩ := hrel
        obtain rfl := hw.symm
        by_cases hil : i < l.length
        · have q := strs_cell HO.out (by have := HD.out; omega) i hil
          have hi0 : 0 ≤ (i : Int) := by omega
          have hiz : (i : Int) < (l.length : Int) := by omega
          have hda : (l.drop i).all (fun b => b.size == 256) = ((l.getD i ⟨#[]⟩).size == 256 && (l.drop (i + 1)).all (fun b => b.size == 256)) := by
            rw [List.drop_eq_getElem_cons hil, List.all_cons, List.getD_eq_getElem?_getD, List.getElem?_eq_getElem hil]
            rfl
          have HA2 := HA.out
          rw [hda] at HA2
          generalize l.getD i ⟨#[]⟩ = x at q HA2
          clear hda
          by_cases hx : x.size = 256
          · have hxb : ((x.size : Int) != 256) = false := bne_eq_false_iff_eq.2 (by omega)
            have HA3 : Aside0 (¬ (l.drop (i + 1)).all (fun b => b.size == 256) = true) := ⟨by rw [beq_iff_eq.2 hx, Bool.true_and] at HA2; exact HA2⟩
            clear HA2 hx
            go_wp2
            go_roundg (l.length - (i + 1))
            case measure => have := hkq.out; omega
            case rel => exact ⟨i + 1, by have := HD.out; rw [wrap64_small (by omega) (by omega)]; rfl, by omega, ⟨rfl⟩, HA3, rfl⟩
          · have hxb : ((x.size : Int) != 256) = true := bne_iff_ne.2 (by omega)
            clear HA2 hx
            go_wp2
            go_ret2
            exact ⟨rfl, rfl⟩
        · exact absurd (by rw [List.drop_eq_nil_of_le (by omega)]; rfl) HA.out
  · rw [if_neg hd]
    have hdd : decide (64 ≤ (l.length : Int) ∧ (l.length : Int) ≤ 2048) = false := decide_eq_false (by omega)
    clear h hd he
    go_enter Try.func35, Try.ntmps35
    go_wp2_with (go_at_call 55; refine (many_calls l.length _).mono ?_; rintro e w2 ⟨rfl, hw⟩; obtain rfl := hw.symm; rw [hdd])
    go_ret2
    exact ⟨rfl, rfl⟩
set_option maxRecDepth 100000 in
theorem Of_good {w : World} {base : Nat} {v : Value} (l : List ByteArray) (h : w.ownsRow base 9 1 v l.length (strs l)) (he : ofErr l = 0) : Calls Try.prog 35 #[v] w fun e w' => ∃ g vb, e = .returned (.tuple #[.pointer (some ⟨g, 0, none⟩), .int .i64 0]) ∧ DiskIs w' w.heap.size g vb (.slice none 0 0) ⟨l, [], 0, false, false⟩ ∧ Below w.heap.size w w' := by
  have hu78 := Try.underlying78
  obtain ⟨A, c, rfl, hm⟩ := own_slice h
  unfold ofErr at he
  by_cases hd : 64 ≤ l.length ∧ l.length ≤ 2048
  case neg => rw [if_neg hd] at he; exact absurd he (by decide)
  rw [if_pos hd] at he
  by_cases ha : l.all (fun b => b.size == 256) = true
  case neg => rw [if_neg ha] at he; exact absurd he (by decide)
  have hdd : decide (64 ≤ (l.length : Int) ∧ (l.length : Int) ≤ 2048) = true := decide_eq_true (by omega)
  obtain ⟨bb, c2, cur, e, _⟩ := own_form h (by omega)
  injection e with e1 e2 e3
  subst e1 e3
  have HO := Aside0.mk h
  have HD := Aside0.mk hd
  have HA := Aside0.mk ha
  clear h hd he ha
  go_enter Try.func35, Try.ntmps35
  go_wp2_with (go_at_call 55; refine (many_calls l.length _).mono ?_; rintro e w2 ⟨rfl, hw⟩; obtain rfl := hw.symm; rw [hdd])
  go_loopg [12] l.length (fun kq v12 wr => ∃ (i : Nat), v12 = .int .i64 (i : Int) ∧ i ≤ l.length ∧ Aside0 (kq = l.length - i) ∧ wr = w)
  case atStart => exact ⟨0, rfl, Nat.zero_le _, ⟨rfl⟩, rfl⟩
  case round =>
    obtain ⟨i, rfl, hi, hkq, hw⟩ := hrel
    obtain rfl := hw.symm
    by_cases hil : i < l.length
    · have q := strs_cell HO.out (by have := HD.out; omega) i hil
      have hi0 : 0 ≤ (i : Int) := by omega
      have hiz : (i : Int) < (l.length : Int) := by omega
      have hx : (l.getD i ⟨#[]⟩).size = 256 := by
        have := List.all_eq_true.1 HA.out (l.getD i ⟨#[]⟩) (by rw [List.getD_eq_getElem?_getD, List.getElem?_eq_getElem hil]; exact List.getElem_mem hil)
        exact beq_iff_eq.1 this
      generalize l.getD i ⟨#[]⟩ = x at q hx
      have hxb : ((x.size : Int) != 256) = false := bne_eq_false_iff_eq.2 (by omega)
      clear hx
      go_wp2
      go_roundg (l.length - (i + 1))
      case measure => have := hkq.out; omega
      case rel => exact ⟨i + 1, by have := HD.out; rw [wrap64_small (by omega) (by omega)]; rfl, by omega, ⟨rfl⟩, rfl⟩
    · obtain rfl : i = l.length := by omega
      clear hil hi
      go_wp2_with (go_at_call 61; refine (Try.slices_Clone_string bb 0 l.length c l w (Nat.le_refl _) (by have := HD.out; omega) (fun j hj => by rw [Nat.zero_add]; exact strs_cell HO.out (by have := HD.out; omega) j hj)).mono ?_; rintro e w3 ⟨v3, rfl, ho, _, hb⟩; obtain ⟨A3, c3, rfl, _⟩ := own_slice ho; have HO3 := Aside0.mk ho; have HB3 := Aside0.mk hb; clear ho hb)
      go_ret2
      refine ⟨_, _, rfl, ⟨HB3.out.size, blk_new w3 _, ?_, own_none _ _ _⟩, below_alloc HB3.out _⟩
      have ho := HO3.out
      rw [List.take_length] at ho
      exact own_alloc ho _
end Go.Proofs.Ytgageigcjeaenaa.Disk
