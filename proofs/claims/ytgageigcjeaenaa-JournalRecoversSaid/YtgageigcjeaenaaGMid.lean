/- Functions of the laws of the disk that need no disk: as the printer wrote them. -/
import Derived.Test.YtgageigcjeaenaaProg
import Derived.Below
import Derived.Deep.Draws
import Derived.Deep.AppendLies
import Derived.Maps.AppendAt
import Derived.OwnWalk
import Derived.Laws.BytesArg
import Derived.Laws.MakeOwn
import Derived.Laws.OwnMore
import Derived.Deep.OwnRows
import Derived.Tactics
import Derived.Lib.ConvBytes
import Derived.Laws.Slices
import Derived.WalkKit
import Derived.KernelRfl
import Derived.RowKit3
import Derived.Deep.LoopGhost
import Derived.Deep.QuietTactic
import Derived.BigQuiet
import Derived.WideLaws
import Derived.Deep.DeepCutAuto
import Derived.Deep.CutBlock
import Derived.Deep.RegionHeld3
import Derived.Laws.Rows
import Derived.Lib.AppendStr
import Derived.ArgAppend
import Derived.Laws.IdiomCopy
import Derived.OrdersHeld
import Derived.Laws.BitsLemmas
import Derived.RowKit
import Derived.Test.YtgageigcjeaenaaVWords
import Derived.Test.YtgageigcjeaenaaVLast
import Derived.Test.YtgageigcjeaenaaVTab
import Derived.Test.YtgageigcjeaenaaVFour
import Derived.Test.YtgageigcjeaenaaVQPut
import Derived.Test.YtgageigcjeaenaaVApart
import Derived.Test.YtgageigcjeaenaaVArr
import Derived.Test.YtgageigcjeaenaaVZeros
import Derived.Test.YtgageigcjeaenaaVFoot
import Derived.Test.YtgageigcjeaenaaVKept
import Derived.Test.YtgageigcjeaenaaVShare
import Derived.Test.YtgageigcjeaenaaVN
import Derived.Test.YtgageigcjeaenaaVFootNe
import Derived.Test.YtgageigcjeaenaaVAt
import Derived.Test.YtgageigcjeaenaaVEqStruct
import Derived.Test.YtgageigcjeaenaaVRepsOne
import Derived.Test.YtgageigcjeaenaaVInv
import Derived.Test.YtgageigcjeaenaaVInvWords
import Derived.Test.YtgageigcjeaenaaVGuard
import Derived.Test.YtgageigcjeaenaaVNEv
import Derived.Test.YtgageigcjeaenaaVMore
import Derived.Test.YtgageigcjeaenaaGDisk
import Derived.Deep.Slices
import Derived.Deep.Fields
import Derived.ChangeSame
import Derived.ProofKit
import Derived.SizedLaws
import Derived.StillTailTactics
namespace Go.Proofs.Ytgageigcjeaenaa.Disk
open Go.RowKit Go.Proofs.YtgageigcjeaenaaW.PrintWords Go.Proofs.YtgageigcjeaenaaW.PrintLast Go.Proofs.YtgageigcjeaenaaW.PrintMore
attribute [local go_sem] max2_int min2_int max_two min_two max_three min_three max_four min_four   -- for this text's walks alone
set_option linter.unusedVariables false
set_option linter.unusedSimpArgs false



def errW : Option Int → Value
  | none => .nilIface
  | some c => .iface 0 (.int .i64 c)
theorem errW_none : errW none = .nilIface := rfl
theorem errW_some (c : Int) : errW (some c) = .iface 0 (.int .i64 c) := rfl

theorem info5 : (Try.prog.info? 5).map (fun i => (i.zero, i.size, i.bytes)) = some (some (.int .u8 0), 1, 1) := by kernel_rfl
-- the values' own types
/-! #### struct type 62 -/
structure S62 where
  f0 : Int
  f1 : ByteArray
def z62 : S62 := ⟨(0 : Int), (⟨#[]⟩ : ByteArray)⟩
def k62 : Kd S62 := Kd.iso (Kd.pair (Kd.int .i64) Kd.string) (fun x : S62 => (x.f0, x.f1))
theorem k62_open {w : World} {x : S62} {cs : List Value} (h : k62.K w x cs) : cs = [.int .i64 x.f0, .string x.f1] := by
  obtain ⟨_, _, rfl, rfl, rfl⟩ := h
  exact rfl
theorem k62_openM {w : World} {base : Nat} {ok : Nat → Prop} {x : S62} {cs : List Value} (h : k62.M w base ok x cs) : cs = [.int .i64 x.f0, .string x.f1] := by
  obtain ⟨_, _, rfl, rfl, rfl⟩ := h
  exact rfl
theorem k62_mk (w : World) (x : S62)  : k62.K w x [.int .i64 x.f0, .string x.f1] := ⟨[.int .i64 x.f0], [.string x.f1], rfl, rfl, rfl⟩
theorem k62_mkM (w : World) (base : Nat) (ok : Nat → Prop) (x : S62)  : k62.M w base ok x [.int .i64 x.f0, .string x.f1] := ⟨[.int .i64 x.f0], [.string x.f1], rfl, rfl, rfl⟩
def rd_T62 (xs : List S62) (i : Int) : S62 := xs.getD i.toNat z62
theorem at_T62 {w : World} {A : Option Addr} {n : Nat} {xs : List S62} (h : Kd.C k62 w A n xs) (i : Int) (h0 : 0 ≤ i) (h1 : i < n) : ∃ ad , A = some ad ∧ w.cell? (ad.add (i.toNat * 2)) = some (.int .i64 (rd_T62 xs i).f0) ∧ w.cell? ⟨(ad.add (i.toNat * 2)).block, (ad.add (i.toNat * 2)).off + 1, none⟩ = some (.string (rd_T62 xs i).f1) := by
  obtain ⟨ad, c, e, _, hK, hc0⟩ := Kd.C_get h z62 i h0 h1
  have hc : ∀ j u, c[j]? = some u → w.cell? (ad.add (i.toNat * 2 + j)) = some u := hc0
  obtain rfl := k62_open hK
  exact ⟨ad, e, hc 0 _ rfl, by rw [← add_field _ _ 1 (by omega)]; exact hc 1 _ rfl⟩


theorem eqA62 (d : Nat) (w : World) (x0 y0 : Int) (x1 y1 : ByteArray) :
    (Op.equalIn (d + 2) 62 (.agg #[.int .i64 x0, .string x1]) (.agg #[.int .i64 y0, .string y1])).run Try.prog w = .ok (x0 == y0 && (x1.toList == y1.toList)) w := by
  refine eqA_of Try.underlying62 (by kernel_rfl) ?_
  refine eqf_cons (by rfl) (by go_simp; rfl) (by go_simp; rfl) (by go_simp) ?_
  exact eqf_last (by rfl) (by go_simp; rfl) (by go_simp; rfl) (by go_simp)
attribute [local go_sem high] eqA62
/-! ### aumbryref09_SamePages: function 18 -/
def aumbryref09_SamePages.l0 : Nat → List (S62) → List (S62) → Int → Int → Option (Bool)
  | 0, _, _, _, _ => none
  | k + 1, x0, x1, x12, x13 => if x13 < x12 then (if 0 ≤ x13 then (if x13 < (x0.length : Int) then (if x13 < (x1.length : Int) then (if (!(((rd_T62 x0 x13).f0) == ((rd_T62 x1 x13).f0)) || (!((((rd_T62 x0 x13).f1).toList) == (((rd_T62 x1 x13).f1).toList)))) = true then (some false) else (aumbryref09_SamePages.l0 k x0 x1 x12 (wrap64 (x13 + 1)))) else (none)) else (none)) else (none)) else (some true)
def aumbryref09_SamePages.f (k : Nat) (l0 : List (S62)) (l1 : List (S62)) : Option (Bool) := if (l0.length : Int) = (l1.length : Int) then (aumbryref09_SamePages.l0 k l0 l1 (l0.length : Int) 0) else (some false)
theorem aumbryref09_SamePages.mono_l : ∀ k, (∀ y0 y1 y2 y3, LeO (aumbryref09_SamePages.l0 k y0 y1 y2 y3) (aumbryref09_SamePages.l0 (k + 1) y0 y1 y2 y3))
  | 0 => fun _ _ _ _ r h => by simp [aumbryref09_SamePages.l0] at h
  | k + 1 => by
    have ih0 := aumbryref09_SamePages.mono_l k
    · intro y0 y1 y2 y3
      unfold aumbryref09_SamePages.l0
      repeat' first
      | (with_reducible exact ih0 _ _ _ _)
      | (with_reducible exact LeO.refl _)
      | (with_reducible exact LeO.none _)
      | (with_reducible refine LeO.ite ?_ ?_)
      | (with_reducible refine LeO.bind ?_ (fun _ => ?_))
      | exact ih0 _ _ _ _
      | exact LeO.none _
      | refine LeO.ite ?_ ?_
      | refine LeO.bind ?_ (fun _ => ?_)
theorem aumbryref09_SamePages.mono : ∀ a0 a1 k, LeO (aumbryref09_SamePages.f k a0 a1) (aumbryref09_SamePages.f (k + 1) a0 a1) := by
  intro a0 a1 k
  have ih0 := aumbryref09_SamePages.mono_l k
  unfold aumbryref09_SamePages.f
  repeat' first
      | (with_reducible exact ih0 _ _ _ _)
      | (with_reducible exact LeO.refl _)
      | (with_reducible exact LeO.none _)
      | (with_reducible refine LeO.ite ?_ ?_)
      | (with_reducible refine LeO.bind ?_ (fun _ => ?_))
      | exact ih0 _ _ _ _
      | exact LeO.none _
      | refine LeO.ite ?_ ?_
      | refine LeO.bind ?_ (fun _ => ?_)
set_option maxHeartbeats 8000000 in
set_option maxRecDepth 100000 in
theorem aumbryref09_SamePages.calls (k : Nat) (A0 : Option Addr) (c0 : Nat) (l0 : List (S62)) (A1 : Option Addr) (c1 : Nat) (l1 : List (S62)) (r : Bool) (w : World) (hr0 : Kd.C k62 w A0 l0.length l0) (hc0 : l0.length ≤ c0) (hr1 : Kd.C k62 w A1 l1.length l1) (hc1 : l1.length ≤ c1) (h : aumbryref09_SamePages.f k l0 l1 = some r) :
    Calls Try.prog 18 #[.slice A0 l0.length c0, .slice A1 l1.length c1] w fun e w' => e = .returned (.bool r) ∧ Drawn0 w w' := by
  have hu62 := Try.underlying62
  have HR0 := Aside0.mk hr0
  have HC0 := Aside0.mk hc0
  clear hr0 hc0
  have HR1 := Aside0.mk hr1
  have HC1 := Aside0.mk hc1
  clear hr1 hc1
  have H : (if (l0.length : Int) = (l1.length : Int) then (aumbryref09_SamePages.l0 k l0 l1 (l0.length : Int) 0) else (some false)) = some r := h
  clear h
  by_cases c3 : (l0.length : Int) = (l1.length : Int)
  · rw [if_pos c3] at H
    have c3b0 : ((l0.length : Int) == (l1.length : Int)) = true := beq_iff_eq.mpr c3
    have c3b1 : ((l0.length : Int) != (l1.length : Int)) = false := bne_eq_false_iff_eq.mpr c3
    have c3b2 : (l0.length == l1.length) = true := by first | simpa using c3 | (simp at c3 ⊢; omega)
    clear c3
    have H' := Aside0.mk H
    clear H
    go_enter Try.func18, Try.ntmps18
    go_wp2
    repeat (go_quiet (fail); try go_wp2)
    go_loopg [13] k (fun kq v13 w' => ∃ (x13_1 : Int), v13 = .int .i64 x13_1 ∧ Aside0 (aumbryref09_SamePages.l0 kq l0 l1 (l0.length : Int) x13_1 = some r) ∧ Aside0 (kq ≤ k) ∧ Drawn0 w w')
    case atStart => exact ⟨(0), (by first | rfl | (simp; done) | (simp [*]; done)), H', ⟨Nat.le_refl _⟩, by repeat (first | exact Drawn0.refl _ | apply Drawn0.step)⟩
    case round =>
      clear H'
      try clear c1
      try clear p2
      try clear c3
      try clear c3b0
      try clear c3b1
      try clear c3b2
      obtain ⟨x13_1, rfl, HA, HK1, ⟨m1, rfl⟩⟩ := hrel
      cases gk with
      | zero => exact absurd HA.out (by simp [aumbryref09_SamePages.l0])
      | succ k1 =>
        have H := HA.out
        clear HA
        simp only [aumbryref09_SamePages.l0] at H
        by_cases c4 : x13_1 < (l0.length : Int)
        · rw [if_pos c4] at H
          have c4b0 : decide (x13_1 < (l0.length : Int)) = true := decide_eq_true c4
          clear c4
          by_cases c5 : 0 ≤ x13_1
          · rw [if_pos c5] at H
            have c5b0 : decide (0 ≤ x13_1) = true := decide_eq_true c5
            clear c5
            by_cases c6 : x13_1 < (l0.length : Int)
            · rw [if_pos c6] at H
              have c6b0 : decide (x13_1 < (l0.length : Int)) = true := decide_eq_true c6
              clear c6
              by_cases c7 : x13_1 < (l1.length : Int)
              · rw [if_pos c7] at H
                have c7b0 : decide (x13_1 < (l1.length : Int)) = true := decide_eq_true c7
                clear c7
                by_cases c8 : (!(((rd_T62 l0 x13_1).f0) == ((rd_T62 l1 x13_1).f0)) || (!((((rd_T62 l0 x13_1).f1).toList) == (((rd_T62 l1 x13_1).f1).toList)))) = true
                · rw [if_pos c8] at H
                  have c8b0 : (!(((rd_T62 l0 x13_1).f0) == ((rd_T62 l1 x13_1).f0)) || (!((((rd_T62 l0 x13_1).f1).toList) == (((rd_T62 l1 x13_1).f1).toList)))) = true := c8
                  clear c8
                  obtain rfl := Option.some.inj H
                  have p101 : 0 ≤ (x13_1 : Int) := of_decide_eq_true (by first | (with_reducible assumption) | assumption)
                  have q101 : x13_1 < (l0.length : Int) := of_decide_eq_true (by first | (with_reducible assumption) | assumption)
                  obtain ⟨ad101, e101, hx101_0, hx101_1⟩ := at_T62 HR0.out x13_1 p101 q101
                  cases e101
                  replace p101 := eq_true p101
                  replace q101 := eq_true q101
                  have p102 : 0 ≤ (x13_1 : Int) := of_decide_eq_true (by first | (with_reducible assumption) | assumption)
                  have q102 : x13_1 < (l1.length : Int) := of_decide_eq_true (by first | (with_reducible assumption) | assumption)
                  obtain ⟨ad102, e102, hx102_0, hx102_1⟩ := at_T62 HR1.out x13_1 p102 q102
                  cases e102
                  replace p102 := eq_true p102
                  replace q102 := eq_true q102
                  go_wp2
                  repeat (go_quiet (fail); try go_wp2)
                  go_ret
                  exact ⟨by first | rfl | (simp; done) | (simp [*]; done), by repeat (first | exact Drawn0.refl _ | apply Drawn0.step)⟩
                · rw [if_neg c8] at H
                  have c8b0 : (!(((rd_T62 l0 x13_1).f0) == ((rd_T62 l1 x13_1).f0)) || (!((((rd_T62 l0 x13_1).f1).toList) == (((rd_T62 l1 x13_1).f1).toList)))) = false := by simpa using c8
                  clear c8
                  have H' := Aside0.mk H
                  clear H
                  have p101 : 0 ≤ (x13_1 : Int) := of_decide_eq_true (by first | (with_reducible assumption) | assumption)
                  have q101 : x13_1 < (l0.length : Int) := of_decide_eq_true (by first | (with_reducible assumption) | assumption)
                  obtain ⟨ad101, e101, hx101_0, hx101_1⟩ := at_T62 HR0.out x13_1 p101 q101
                  cases e101
                  replace p101 := eq_true p101
                  replace q101 := eq_true q101
                  have p102 : 0 ≤ (x13_1 : Int) := of_decide_eq_true (by first | (with_reducible assumption) | assumption)
                  have q102 : x13_1 < (l1.length : Int) := of_decide_eq_true (by first | (with_reducible assumption) | assumption)
                  obtain ⟨ad102, e102, hx102_0, hx102_1⟩ := at_T62 HR1.out x13_1 p102 q102
                  cases e102
                  replace p102 := eq_true p102
                  replace q102 := eq_true q102
                  go_wp2
                  repeat (go_quiet (fail); try go_wp2)
                  go_roundg k1
                  case measure => have := HK1.out; omega
                  case rel => exact ⟨(wrap64 (x13_1 + 1)), (by first | rfl | (simp; done) | (simp [*]; done)), H', ⟨by have := HK1.out; omega⟩, by repeat (first | exact Drawn0.refl _ | apply Drawn0.step)⟩
              · rw [if_neg c7] at H
                exact absurd H (by simp)
            · rw [if_neg c6] at H
              exact absurd H (by simp)
          · rw [if_neg c5] at H
            exact absurd H (by simp)
        · rw [if_neg c4] at H
          have c4b0 : decide (x13_1 < (l0.length : Int)) = false := decide_eq_false c4
          clear c4
          obtain rfl := Option.some.inj H
          go_wp2
          repeat (go_quiet (fail); try go_wp2)
          go_ret
          exact ⟨by first | rfl | (simp; done) | (simp [*]; done), by repeat (first | exact Drawn0.refl _ | apply Drawn0.step)⟩
  · rw [if_neg c3] at H
    have c3b0 : ((l0.length : Int) == (l1.length : Int)) = false := beq_eq_false_iff_ne.mpr c3
    have c3b1 : ((l0.length : Int) != (l1.length : Int)) = true := bne_iff_ne.mpr c3
    have c3b2 : (l0.length == l1.length) = false := by first | simpa using c3 | (simp at c3 ⊢; omega)
    obtain rfl := Option.some.inj H
    go_enter Try.func18, Try.ntmps18
    go_wp2
    repeat (go_quiet (fail); try go_wp2)
    go_ret
    exact ⟨by first | rfl | (simp; done) | (simp [*]; done), by repeat (first | exact Drawn0.refl _ | apply Drawn0.step)⟩

-- NOT PRINTED: function 19 (disk_Disk_Log)

/-! ### aumbryref03_Same: function 23 -/
def aumbryref03_Same.l0 : Nat → List ByteArray → List ByteArray → Int → Int → Option (Bool)
  | 0, _, _, _, _ => none
  | k + 1, x0, x1, x12, x13 => if x13 < x12 then (if 0 ≤ x13 then (if x13 < (x0.length : Int) then (if x13 < (x1.length : Int) then (if (rdOf ByteArray.empty x0 x13).toList = (rdOf ByteArray.empty x1 x13).toList then (aumbryref03_Same.l0 k x0 x1 x12 (wrap64 (x13 + 1))) else (some false)) else (none)) else (none)) else (none)) else (some true)
def aumbryref03_Same.f (k : Nat) (l0 : List ByteArray) (l1 : List ByteArray) : Option (Bool) := if (l0.length : Int) = (l1.length : Int) then (aumbryref03_Same.l0 k l0 l1 (l0.length : Int) 0) else (some false)
theorem aumbryref03_Same.mono_l : ∀ k, (∀ y0 y1 y2 y3, LeO (aumbryref03_Same.l0 k y0 y1 y2 y3) (aumbryref03_Same.l0 (k + 1) y0 y1 y2 y3))
  | 0 => fun _ _ _ _ r h => by simp [aumbryref03_Same.l0] at h
  | k + 1 => by
    have ih0 := aumbryref03_Same.mono_l k
    · intro y0 y1 y2 y3
      unfold aumbryref03_Same.l0
      repeat' first
      | (with_reducible exact ih0 _ _ _ _)
      | (with_reducible exact LeO.refl _)
      | (with_reducible exact LeO.none _)
      | (with_reducible refine LeO.ite ?_ ?_)
      | (with_reducible refine LeO.bind ?_ (fun _ => ?_))
      | exact ih0 _ _ _ _
      | exact LeO.none _
      | refine LeO.ite ?_ ?_
      | refine LeO.bind ?_ (fun _ => ?_)
theorem aumbryref03_Same.mono : ∀ a0 a1 k, LeO (aumbryref03_Same.f k a0 a1) (aumbryref03_Same.f (k + 1) a0 a1) := by
  intro a0 a1 k
  have ih0 := aumbryref03_Same.mono_l k
  unfold aumbryref03_Same.f
  repeat' first
      | (with_reducible exact ih0 _ _ _ _)
      | (with_reducible exact LeO.refl _)
      | (with_reducible exact LeO.none _)
      | (with_reducible refine LeO.ite ?_ ?_)
      | (with_reducible refine LeO.bind ?_ (fun _ => ?_))
      | exact ih0 _ _ _ _
      | exact LeO.none _
      | refine LeO.ite ?_ ?_
      | refine LeO.bind ?_ (fun _ => ?_)
set_option maxHeartbeats 8000000 in
set_option maxRecDepth 100000 in
theorem aumbryref03_Same.calls (k : Nat) (A0 : Option Addr) (c0 : Nat) (l0 : List ByteArray) (A1 : Option Addr) (c1 : Nat) (l1 : List ByteArray) (r : Bool) (w : World) (hr0 : Kd.C Kd.string w A0 l0.length l0) (hc0 : l0.length ≤ c0) (hr1 : Kd.C Kd.string w A1 l1.length l1) (hc1 : l1.length ≤ c1) (h : aumbryref03_Same.f k l0 l1 = some r) :
    Calls Try.prog 23 #[.slice A0 l0.length c0, .slice A1 l1.length c1] w fun e w' => e = .returned (.bool r) ∧ Drawn0 w w' := by
  have HR0 := Aside0.mk hr0
  have HC0 := Aside0.mk hc0
  clear hr0 hc0
  have HR1 := Aside0.mk hr1
  have HC1 := Aside0.mk hc1
  clear hr1 hc1
  have H : (if (l0.length : Int) = (l1.length : Int) then (aumbryref03_Same.l0 k l0 l1 (l0.length : Int) 0) else (some false)) = some r := h
  clear h
  by_cases c3 : (l0.length : Int) = (l1.length : Int)
  · rw [if_pos c3] at H
    have c3b0 : ((l0.length : Int) == (l1.length : Int)) = true := beq_iff_eq.mpr c3
    have c3b1 : ((l0.length : Int) != (l1.length : Int)) = false := bne_eq_false_iff_eq.mpr c3
    have c3b2 : (l0.length == l1.length) = true := by first | simpa using c3 | (simp at c3 ⊢; omega)
    clear c3
    have H' := Aside0.mk H
    clear H
    go_enter Try.func23, Try.ntmps23
    go_wp2
    repeat (go_quiet (fail); try go_wp2)
    go_loopg [13] k (fun kq v13 w' => ∃ (x13_1 : Int), v13 = .int .i64 x13_1 ∧ Aside0 (aumbryref03_Same.l0 kq l0 l1 (l0.length : Int) x13_1 = some r) ∧ Aside0 (kq ≤ k) ∧ Drawn0 w w')
    case atStart => exact ⟨(0), (by first | rfl | (simp; done) | (simp [*]; done)), H', ⟨Nat.le_refl _⟩, by repeat (first | exact Drawn0.refl _ | apply Drawn0.step)⟩
    case round =>
      clear H'
      try clear c1
      try clear c2
      try clear p2
      try clear c3
      try clear c3b0
      try clear c3b1
      try clear c3b2
      obtain ⟨x13_1, rfl, HA, HK1, ⟨m1, rfl⟩⟩ := hrel
      cases gk with
      | zero => exact absurd HA.out (by simp [aumbryref03_Same.l0])
      | succ k1 =>
        have H := HA.out
        clear HA
        simp only [aumbryref03_Same.l0] at H
        by_cases c4 : x13_1 < (l0.length : Int)
        · rw [if_pos c4] at H
          have c4b0 : decide (x13_1 < (l0.length : Int)) = true := decide_eq_true c4
          clear c4
          by_cases c5 : 0 ≤ x13_1
          · rw [if_pos c5] at H
            have c5b0 : decide (0 ≤ x13_1) = true := decide_eq_true c5
            clear c5
            by_cases c6 : x13_1 < (l0.length : Int)
            · rw [if_pos c6] at H
              have c6b0 : decide (x13_1 < (l0.length : Int)) = true := decide_eq_true c6
              clear c6
              by_cases c7 : x13_1 < (l1.length : Int)
              · rw [if_pos c7] at H
                have c7b0 : decide (x13_1 < (l1.length : Int)) = true := decide_eq_true c7
                clear c7
                by_cases c8 : (rdOf ByteArray.empty l0 x13_1).toList = (rdOf ByteArray.empty l1 x13_1).toList
                · rw [if_pos c8] at H
                  have c8b0 : ((rdOf ByteArray.empty l0 x13_1).toList == (rdOf ByteArray.empty l1 x13_1).toList) = true := beq_iff_eq.mpr c8
                  have c8b1 : ((rdOf ByteArray.empty l0 x13_1).toList != (rdOf ByteArray.empty l1 x13_1).toList) = false := bne_eq_false_iff_eq.mpr c8
                  clear c8
                  have H' := Aside0.mk H
                  clear H
                  have p103 : 0 ≤ (x13_1 : Int) := of_decide_eq_true (by first | (with_reducible assumption) | assumption)
                  have q103 : x13_1 < (l0.length : Int) := of_decide_eq_true (by first | (with_reducible assumption) | assumption)
                  obtain ⟨ad103, e103, hx103_0⟩ := Kd.at_string HR0.out x13_1 p103 q103
                  cases e103
                  replace p103 := eq_true p103
                  replace q103 := eq_true q103
                  have p104 : 0 ≤ (x13_1 : Int) := of_decide_eq_true (by first | (with_reducible assumption) | assumption)
                  have q104 : x13_1 < (l1.length : Int) := of_decide_eq_true (by first | (with_reducible assumption) | assumption)
                  obtain ⟨ad104, e104, hx104_0⟩ := Kd.at_string HR1.out x13_1 p104 q104
                  cases e104
                  replace p104 := eq_true p104
                  replace q104 := eq_true q104
                  go_wp2
                  repeat (go_quiet (fail); try go_wp2)
                  go_roundg k1
                  case measure => have := HK1.out; omega
                  case rel => exact ⟨(wrap64 (x13_1 + 1)), (by first | rfl | (simp; done) | (simp [*]; done)), H', ⟨by have := HK1.out; omega⟩, by repeat (first | exact Drawn0.refl _ | apply Drawn0.step)⟩
                · rw [if_neg c8] at H
                  have c8b0 : ((rdOf ByteArray.empty l0 x13_1).toList == (rdOf ByteArray.empty l1 x13_1).toList) = false := beq_eq_false_iff_ne.mpr c8
                  have c8b1 : ((rdOf ByteArray.empty l0 x13_1).toList != (rdOf ByteArray.empty l1 x13_1).toList) = true := bne_iff_ne.mpr c8
                  obtain rfl := Option.some.inj H
                  have p103 : 0 ≤ (x13_1 : Int) := of_decide_eq_true (by first | (with_reducible assumption) | assumption)
                  have q103 : x13_1 < (l0.length : Int) := of_decide_eq_true (by first | (with_reducible assumption) | assumption)
                  obtain ⟨ad103, e103, hx103_0⟩ := Kd.at_string HR0.out x13_1 p103 q103
                  cases e103
                  replace p103 := eq_true p103
                  replace q103 := eq_true q103
                  have p104 : 0 ≤ (x13_1 : Int) := of_decide_eq_true (by first | (with_reducible assumption) | assumption)
                  have q104 : x13_1 < (l1.length : Int) := of_decide_eq_true (by first | (with_reducible assumption) | assumption)
                  obtain ⟨ad104, e104, hx104_0⟩ := Kd.at_string HR1.out x13_1 p104 q104
                  cases e104
                  replace p104 := eq_true p104
                  replace q104 := eq_true q104
                  go_wp2
                  repeat (go_quiet (fail); try go_wp2)
                  go_ret
                  exact ⟨by first | rfl | (simp; done) | (simp [*]; done), by repeat (first | exact Drawn0.refl _ | apply Drawn0.step)⟩
              · rw [if_neg c7] at H
                exact absurd H (by simp)
            · rw [if_neg c6] at H
              exact absurd H (by simp)
          · rw [if_neg c5] at H
            exact absurd H (by simp)
        · rw [if_neg c4] at H
          have c4b0 : decide (x13_1 < (l0.length : Int)) = false := decide_eq_false c4
          clear c4
          obtain rfl := Option.some.inj H
          go_wp2
          repeat (go_quiet (fail); try go_wp2)
          go_ret
          exact ⟨by first | rfl | (simp; done) | (simp [*]; done), by repeat (first | exact Drawn0.refl _ | apply Drawn0.step)⟩
  · rw [if_neg c3] at H
    have c3b0 : ((l0.length : Int) == (l1.length : Int)) = false := beq_eq_false_iff_ne.mpr c3
    have c3b1 : ((l0.length : Int) != (l1.length : Int)) = true := bne_iff_ne.mpr c3
    have c3b2 : (l0.length == l1.length) = false := by first | simpa using c3 | (simp at c3 ⊢; omega)
    obtain rfl := Option.some.inj H
    go_enter Try.func23, Try.ntmps23
    go_wp2
    repeat (go_quiet (fail); try go_wp2)
    go_ret
    exact ⟨by first | rfl | (simp; done) | (simp [*]; done), by repeat (first | exact Drawn0.refl _ | apply Drawn0.step)⟩

-- NOT PRINTED: function 24 (disk_Disk_Image)

-- NOT PRINTED: function 14 (disk_Disk_Cut)

-- NOT PRINTED: function 25 (disk_Disk_Down)

/-! ### aumbryref01_Zeros: function 37 -/
def aumbryref01_Zeros.f (a0 : Int) : Option (ByteArray) := if 0 ≤ a0 then (if (a0 : Int).toNat ≤ 281474976710656 then (some (strOfNums (List.replicate (a0 : Int).toNat 0))) else (none)) else (none)
set_option maxHeartbeats 8000000 in
set_option maxRecDepth 100000 in
theorem aumbryref01_Zeros.calls (a0 : Int) (r : ByteArray) (w : World) (h : aumbryref01_Zeros.f a0 = some r) :
    Calls Try.prog 37 #[.int .i64 a0] w fun e w' => e = .returned (.string r) ∧ Below w.heap.size w w' := by
  have HB := Aside0.mk (Below.refl w.heap.size w)
  have H : (if 0 ≤ a0 then (if (a0 : Int).toNat ≤ 281474976710656 then (some (strOfNums (List.replicate (a0 : Int).toNat 0))) else (none)) else (none)) = some r := h
  clear h
  by_cases c2 : 0 ≤ a0
  · rw [if_pos c2] at H
    have c2b0 := eq_true c2
    have c2b1 : decide (0 ≤ a0) = true := decide_eq_true c2
    clear c2
    by_cases c3 : (a0 : Int).toNat ≤ 281474976710656
    · rw [if_pos c3] at H
      have c3b0 := eq_true c3
      have c3b1 : decide ((a0 : Int).toNat ≤ 281474976710656) = true := decide_eq_true c3
      clear c3
      obtain ⟨y108, hy108⟩ : ∃ y_ : List Int, y_ = (List.replicate (a0 : Int).toNat 0) := ⟨_, rfl⟩
      replace H : (some (strOfNums y108)) = some r := by first | (rw [hy108]; with_reducible exact H) | (have H2_ := (Option.bind_some _ _).symm.trans H; rw [hy108]; with_reducible exact H2_) | (have H2_ := (Option.bind_some _ _).symm.trans H; with_reducible exact H2_) | with_reducible exact H | (rw [hy108]; exact H) | exact H
      have Ny108 := Aside0.mk hy108
      clear hy108
      obtain rfl := Option.some.inj H
      go_enter Try.func37, Try.ntmps37
      go_wp2_with (first | ((with_reducible refine gate_dst (N := 4) rfl ?_); refine Kd.R_make (Kd.int .u8) _ 5 rfl (N := 4) rfl 97 _ _ rfl a0 rfl rfl Try.underlying97 (.int .u8 0) 1 info5 rfl (by decide) (by omega) 0 (ok := fun _ => True) (okp := fun _ => True) rfl (fun _ hk => hk) trivial (of_decide_eq_true (by first | (with_reducible assumption) | assumption)) (Nat.le_trans (Nat.mul_le_mul_right _ (of_decide_eq_true (by first | (with_reducible assumption) | assumption) : a0.toNat ≤ 281474976710656)) (by omega)) (Below.refl _ _) (Nat.le_refl _) ?_; intro v109 w4 ho5 hb hg_ hnew_; clear hg_ hnew_; (first | rw [← Ny108.out] at ho5 | (simp only [Int.reduceToNat] at ho5; rw [← Ny108.out] at ho5)); have n0_ := Aside0.mk (Kd.R_lower ho5 (below_size (by repeat (first | (with_reducible first | exact HB.out | apply below_alloc | apply pw_below_drewN | apply below_drew1) | exact HB.out)))); have n1_ := Aside0.mk (below_step (by repeat (first | (with_reducible first | exact HB.out | apply below_alloc | apply pw_below_drewN | apply below_drew1) | exact HB.out)) hb); clear HB; have HO110 := n0_; have HB := n1_; clear n0_ n1_; clear hb ho5; have hcv6 := own_string (P := Try.prog) Try.underlying97 Try.underlying5 Try.underlying9 (Kd.own_of_R HO110.out)))
      go_ret
      exact ⟨by first | rfl | (simp [errW_none, errW_some] <;> rfl) | (simp [*, errW_none, errW_some] <;> rfl), by repeat (first | (with_reducible first | exact HB.out | apply below_alloc | apply pw_below_drewN | apply below_drew1) | exact HB.out)⟩
    · rw [if_neg c3] at H
      exact absurd H (by simp)
  · rw [if_neg c2] at H
    exact absurd H (by simp)

/-! ### aumbrylaw09_kind: function 36 -/
def aumbrylaw09_kind.f (a0 : Int) (a1 : Int) : Option (Int) := if (IntKind.u64.wrap (a1)) = 0 then (none) else (some (wrap64 (Int.tmod (IntKind.u64.wrap (a0)) (IntKind.u64.wrap (a1)))))
set_option maxHeartbeats 8000000 in
set_option maxRecDepth 100000 in
theorem aumbrylaw09_kind.calls (a0 : Int) (a1 : Int) (r : Int) (w : World) (h : aumbrylaw09_kind.f a0 a1 = some r) :
    Calls Try.prog 36 #[.int .i64 a0, .int .i64 a1] w fun e w' => e = .returned (.int .i64 r) ∧ Drawn0 w w' := by
  have H : (if (IntKind.u64.wrap (a1)) = 0 then (none) else (some (wrap64 (Int.tmod (IntKind.u64.wrap (a0)) (IntKind.u64.wrap (a1)))))) = some r := h
  clear h
  by_cases c3 : (IntKind.u64.wrap (a1)) = 0
  · rw [if_pos c3] at H
    exact absurd H (by simp)
  · rw [if_neg c3] at H
    have c3b0 : ((IntKind.u64.wrap (a1)) == 0) = false := beq_eq_false_iff_ne.mpr c3
    have c3b1 : ((IntKind.u64.wrap (a1)) != 0) = true := bne_iff_ne.mpr c3
    obtain rfl := Option.some.inj H
    go_enter Try.func36, Try.ntmps36
    go_wp2
    go_ret
    exact ⟨by first | rfl | (simp; done) | (simp [*]; done), by repeat (first | exact Drawn0.refl _ | apply Drawn0.step)⟩


end Go.Proofs.Ytgageigcjeaenaa.Disk
namespace Go.Proofs.Ytgageigcjeaenaa.Disk
open Go.RowKit Go.Proofs.YtgageigcjeaenaaW.PrintWords Go.Proofs.YtgageigcjeaenaaW.PrintLast Go.Proofs.YtgageigcjeaenaaW.PrintMore Go.Proofs.Ytgageigcjeaenaa.MixBase Go.Proofs.Ytgageigcjeaenaa.MixPlain Go.Proofs.Ytgageigcjeaenaa.NumBase Go.Proofs.Ytgageigcjeaenaa.PadPlain
attribute [local go_sem] max2_int min2_int max_two min_two max_three min_three max_four min_four
set_option linter.unusedVariables false
set_option linter.unusedSimpArgs false
def blockS (s : ByteArray) : ByteArray := if s.size > 256 then s.extract 0 256 else s ++ zeros (256 - s.size)
theorem blockS_size (s : ByteArray) : (blockS s).size = 256 := by
  unfold blockS
  split
  · rw [ByteArray.size_extract]; omega
  · rw [ByteArray.size_append, zeros_size]; omega
theorem Zeros_calls (m : Nat) (h : m ≤ 65536) (w : World) : Calls Try.prog 37 #[.int .i64 (m : Int)] w fun e w' => e = .returned (.string (zeros m)) ∧ Below w.heap.size w w' :=
  aumbryref01_Zeros.calls (m : Int) (zeros m) w (by
    unfold aumbryref01_Zeros.f
    rw [if_pos (by omega), show ((m : Int)).toNat = m by omega, if_pos (by omega)]
    rfl)
set_option maxRecDepth 100000 in
theorem block_calls (s : ByteArray) (w : World) : Calls Try.prog 31 #[.string s] w fun e w' => e = .returned (.string (blockS s)) ∧ Below w.heap.size w w' := by
  unfold blockS
  by_cases h : s.size > 256
  · have b0 : decide (256 < (s.size : Int)) = true := decide_eq_true (by omega)
    have b1 : (256 ≤ (s.size : Int)) = True := eq_true (by omega)
    have b2 : (256 ≤ s.size) = True := eq_true (by omega)
    rw [if_pos h]
    clear h
    go_enter Try.func31, Try.ntmps31
    go_wp2
    go_ret
    exact ⟨rfl, Below.refl _ _⟩
  · have b0 : decide (256 < (s.size : Int)) = false := decide_eq_false (by omega)
    rw [if_neg h]
    have e : wrap64 (256 - (s.size : Int)) = ((256 - s.size : Nat) : Int) := by rw [wrap64_small (by omega) (by omega)]; omega
    have e2 : IntKind.i64.wrap (256 - (s.size : Int)) = ((256 - s.size : Nat) : Int) := (i64_w _).trans e
    obtain ⟨m, hm⟩ : ∃ m, m = 256 - s.size := ⟨_, rfl⟩
    have hz : (zeros m).size = m := zeros_size m
    have hm' : m ≤ 65536 := by omega
    have hs : (9223372036854775807 < s.size + m) = False := eq_false (by omega)
    rw [← hm] at e e2 ⊢
    generalize hzz : zeros m = z at hz ⊢
    clear h hm
    go_enter Try.func31, Try.ntmps31
    go_wp2_with (go_at_call 37; refine (Zeros_calls m hm' w).mono ?_; rintro e w2 ⟨rfl, hb⟩; rw [hzz]; have HB := Aside0.mk hb; clear hb)
    go_ret
    exact ⟨rfl, HB.out⟩
/-- A disk of the call's own, in a world that has gone on from W. -/
def St (W w : World) (g : Nat) (vb vl : Value) (d : Dk) : Prop := DiskIs w W.heap.size g vb vl d ∧ Below W.heap.size W w
theorem DiskIs.lower {w : World} {base base' g : Nat} {vb vl : Value} {d : Dk} (h : DiskIs w base g vb vl d) (hb : base' ≤ base) : DiskIs w base' g vb vl d := ⟨Nat.le_trans hb h.1, h.2.1, own_less h.2.2.1 hb, own_less h.2.2.2 hb⟩
section
variable {W w w' : World} {g : Nat} {vb vl : Value} {d : Dk}
theorem St.moved (h : St W w g vb vl d) {S : Nat → Prop} (hm : Moved w w' S) (hn : ∀ k, Foot g vb vl k → ¬ S k) (hs : ∀ k, k < w.heap.size → S k → W.heap.size ≤ k) : St W w' g vb vl d :=
  ⟨h.1.moved hm hn, hm.below h.2 h.2.size hs⟩
theorem St.below (h : St W w g vb vl d) (hb : Below w.heap.size w w') : St W w' g vb vl d := ⟨h.1.moved (Moved.of_below hb (fun _ => False)) (fun _ _ h => h), below_step h.2 hb⟩
theorem St.foot (h : St W w g vb vl d) {k : Nat} (hk : Foot g vb vl k) : W.heap.size ≤ k ∧ k < w.heap.size := h.1.foot_lt hk
theorem Cut_st (n : Int) (h : St W w g vb vl d) : Calls Try.prog 14 #[.pointer (some ⟨g, 0, none⟩), .int .i64 n] w fun e w' => e = .returned (.tuple #[]) ∧ St W w' g vb vl (cutD d n) ∧ Moved w w' (Foot g vb vl) :=
  (Cut_calls n h.1).mono fun e w' ⟨h1, h2, h3⟩ => ⟨h1, ⟨h2, h3.below h.2 h.2.size (fun k _ hk => hk ▸ h.1.1)⟩, h3.mono (fun k _ hk => Or.inl hk)⟩
theorem Restore_st (h : St W w g vb vl d) : Calls Try.prog 32 #[.pointer (some ⟨g, 0, none⟩)] w fun e w' => e = .returned (.tuple #[]) ∧ St W w' g vb vl (restoreD d) ∧ Moved w w' (Foot g vb vl) :=
  (Restore_calls h.1).mono fun e w' ⟨h1, h2, h3⟩ => ⟨h1, ⟨h2, h3.below h.2 h.2.size (fun k _ hk => hk ▸ h.1.1)⟩, h3.mono (fun k _ hk => Or.inl hk)⟩
theorem Write_st (a : Int) (s : ByteArray) (h : St W w g vb vl d) (hlog : (d.log.length + 1) * 24 ≤ 140737488355328) : Calls Try.prog 30 #[.pointer (some ⟨g, 0, none⟩), .int .i64 a, .string s] w fun e w' => ∃ vl', e = .returned (.int .i64 (writeD d a s).2) ∧ St W w' g vb vl' (writeD d a s).1 ∧ (∀ k, Foot g vb vl' k → Foot g vb vl k ∨ w.heap.size ≤ k) ∧ Moved w w' (Foot g vb vl) :=
  (Write_calls a s h.1 hlog).mono fun e w' ⟨vl', h1, h2, h3, h4⟩ => ⟨vl', h1, ⟨h2, h4.below h.2 h.2.size (fun k _ hk => (h.foot hk).1)⟩, fun k hk => by
    rcases hk with hk | hk | hk
    · exact Or.inl (Or.inl hk)
    · exact Or.inl (Or.inr (Or.inl hk))
    · rcases h3 with e | ⟨b, e, hb⟩
      · exact Or.inl (Or.inr (Or.inr (e ▸ hk)))
      · rw [e] at hk
        injection hk with hk
        exact Or.inr (hk ▸ hb), h4⟩
theorem New_st (n : Nat) (h1 : 64 ≤ n) (h2 : n ≤ 2048) (hW : Below W.heap.size W w) : Calls Try.prog 27 #[.int .i64 (n : Int)] w fun e w' => ∃ g vb, e = .returned (.tuple #[.pointer (some ⟨g, 0, none⟩), .int .i64 0]) ∧ St W w' g vb (.slice none 0 0) (newD n) ∧ (∀ k, Foot g vb (.slice none 0 0) k → w.heap.size ≤ k) ∧ Below w.heap.size w w' :=
  (New_calls n h1 h2 w).mono fun e w' ⟨g, vb, e1, h3, h4⟩ => ⟨g, vb, e1, ⟨h3.lower hW.size, below_step hW h4⟩, fun k hk => (h3.foot_lt hk).1, h4⟩
end
theorem writeD_ok {d : Dk} {a : Int} {s : ByteArray} (h : mayD d a = 0) (hs : s.size = 256) (hc : ¬ (d.told = true ∧ d.left = 0)) : writeD d a s = (putD d a s, 0) := by
  unfold writeD
  rw [if_pos h, if_pos hs, if_neg hc]
theorem writeD_cut {d : Dk} {a : Int} {s : ByteArray} (h : mayD d a = 0) (hs : s.size = 256) (hc : d.told = true ∧ d.left = 0) : writeD d a s = (⟨d.blocks, d.log, d.left, d.told, true⟩, 17) := by
  unfold writeD
  rw [if_pos h, if_pos hs, if_pos hc]
def xTxt : ByteArray := ⟨#[120]⟩
/-- The disk of 'wakes', step by step. -/
def wk1 : Dk := cutD (newD 64) 1
def wk2 : Dk := putD wk1 3 (blockS xTxt)
def wk3 : Dk := ⟨wk2.blocks, wk2.log, wk2.left, wk2.told, true⟩
theorem wk_len (n : Nat) : (newD n).blocks.length = n := List.length_replicate
theorem wk_w1 : writeD wk1 3 (blockS xTxt) = (wk2, 0) := by
  refine writeD_ok ?_ (blockS_size _) ?_
  · show mayD wk1 3 = 0
    decide
  · intro h
    exact absurd h.2 (by decide)
theorem wk2_len : wk2.blocks.length = 64 := by
  show ((newD 64).blocks.set (3 : Int).toNat (blockS xTxt)).length = 64
  rw [List.length_set, wk_len]
theorem wk_w2 : writeD wk2 4 (blockS xTxt) = (wk3, 17) := by
  have hl : wk2.left = 0 := by
    show (if decide ((1 : Int) ≥ 0) = true then wrap64 (1 - 1) else 1) = 0
    rw [if_pos (by decide), wrap64_small (by decide) (by decide)]
    decide
  refine writeD_cut ?_ (blockS_size _) ⟨rfl, hl⟩
  show (if wk2.down = true then (17 : Int) else if (4 : Int) < 0 ∨ (4 : Int) ≥ (wk2.blocks.length : Int) then 1 else 0) = 0
  rw [wk2_len]
  decide
theorem wk_r : readD (restoreD wk3) 3 = (blockS xTxt, 0) := by
  have hm : mayD (restoreD wk3) 3 = 0 := by
    show (if false = true then (17 : Int) else if (3 : Int) < 0 ∨ (3 : Int) ≥ (wk2.blocks.length : Int) then 1 else 0) = 0
    rw [wk2_len]
    decide
  unfold readD
  rw [if_pos hm]
  have hg : (wk2.blocks).getD 3 ⟨#[]⟩ = blockS xTxt := by
    show ((newD 64).blocks.set 3 (blockS xTxt)).getD 3 ⟨#[]⟩ = blockS xTxt
    rw [List.getD_eq_getElem?_getD, List.getElem?_set_self (by rw [wk_len]; omega)]
    rfl
  exact Prod.ext hg rfl
set_option maxRecDepth 100000 in
set_option maxHeartbeats 2000000 in
theorem wakes_calls (W : World) : Calls Try.prog 26 #[] W fun e w' => e = .returned (.bool true) ∧ Below W.heap.size W w' := by
  have w1 := wk_w1
  have w2 := wk_w2
  have rd := wk_r
  have hd : wk3.down = true := rfl
  have hl0 := wk_len 64
  have hx : (⟨#[120]⟩ : ByteArray) = xTxt := rfl
  generalize hb : blockS xTxt = B at w1 w2 rd
  go_enter Try.func26, Try.ntmps26
  go_wp2_with (first
    | (go_at_call 27; refine (New_st 64 (by decide) (by decide) (Below.refl _ _)).mono ?_; rintro e wa ⟨g, vb, rfl, hs, _, _⟩; have S1 := Aside0.mk hs; clear hs)
    | (go_at_call 34; refine (Len_calls S1.out.1).mono ?_; rintro e wb ⟨rfl, hw⟩; obtain rfl := hw.symm; rw [hl0])
    | (go_at_call 14; refine (Cut_st 1 S1.out).mono ?_; rintro e wc ⟨rfl, hs, _⟩; have S2 : Aside0 (St W wc g vb (.slice none 0 0) wk1) := ⟨hs⟩; clear hs)
    | (go_at_call 31; refine (block_calls ⟨#[120]⟩ _).mono ?_; rintro e wd ⟨rfl, hb'⟩; rw [hx, hb]; have HB1 := Aside0.mk hb'; clear hb')
    | (go_at_call 30; first
        | (refine (Write_st 3 B (S2.out.below HB1.out) (by decide)).mono ?_; rintro e we ⟨vl, rfl, hs, _, _⟩; rw [w1] at hs ⊢; have S3 := Aside0.mk hs; clear hs)
        | (refine (Write_st 4 B (S3.out.below HB1.out) (by decide)).mono ?_; rintro e we ⟨vl3, rfl, hs, _, _⟩; rw [w2] at hs ⊢; have S4 := Aside0.mk hs; clear hs))
    | (go_at_call 25; refine (Down_calls S4.out.1).mono ?_; rintro e wb ⟨rfl, hw⟩; obtain rfl := hw.symm; rw [hd])
    | (go_at_call 32; refine (Restore_st S4.out).mono ?_; rintro e wb ⟨rfl, hs, _⟩; have S5 := Aside0.mk hs; clear hs)
    | (go_at_call 33; refine (Read_calls 3 S5.out.1).mono ?_; rintro e wb ⟨rfl, hw⟩; obtain rfl := hw.symm; rw [rd]))
  go_ret
  exact ⟨rfl, below_step S5.out.2 HB1.out⟩
end Go.Proofs.Ytgageigcjeaenaa.Disk
namespace Go.Proofs.Ytgageigcjeaenaa.Disk
open Go.RowKit Go.Proofs.YtgageigcjeaenaaW.PrintWords Go.Proofs.YtgageigcjeaenaaW.PrintLast Go.Proofs.YtgageigcjeaenaaW.PrintMore Go.Proofs.Ytgageigcjeaenaa.MixBase Go.Proofs.Ytgageigcjeaenaa.MixPlain Go.Proofs.Ytgageigcjeaenaa.NumBase Go.Proofs.Ytgageigcjeaenaa.PadPlain
attribute [local go_sem] max2_int min2_int max_two min_two max_three min_three max_four min_four
set_option linter.unusedVariables false
set_option linter.unusedSimpArgs false
theorem strs_C {w : World} {base n : Nat} {v : Value} {l : List ByteArray} (h : w.ownsRow base 9 1 v n (strs l)) : ∃ A c, v = .slice A l.length c ∧ l.length ≤ c ∧ Kd.C Kd.string w A l.length l := by
  have hl : l.length = n := by have := h.1; rw [strs_length] at this; omega
  subst hl
  exact Kd.R_reads (Kd.R_of_own (enc := Value.string) (h1 := fun _ => rfl) (ok := fun _ => True) h (fun _ _ => trivial))
theorem same_l0 (l : List ByteArray) (hl : l.length ≤ 1000000000000000000) (d : Nat) : ∀ (k i : Nat), i + d = l.length → d < k → aumbryref03_Same.l0 k l l (l.length : Int) (i : Int) = some true := by
  induction d with
  | zero =>
    intro k i hi hk
    obtain ⟨k, rfl⟩ : ∃ m, k = m + 1 := ⟨k - 1, by omega⟩
    simp only [aumbryref03_Same.l0]
    rw [if_neg (by omega)]
  | succ d ih =>
    intro k i hi hk
    obtain ⟨k, rfl⟩ : ∃ m, k = m + 1 := ⟨k - 1, by omega⟩
    simp only [aumbryref03_Same.l0]
    rw [if_pos (by omega), if_pos (by omega), if_pos (by omega), if_true, if_pos (by omega), wrap64_small (by omega) (by omega), show (i : Int) + 1 = ((i + 1 : Nat) : Int) by omega]
    exact ih k (i + 1) (by omega) (by omega)
/-- Two rows of one list are alike. -/
theorem Same_true {w : World} {base base' n n' : Nat} {v v' : Value} {l : List ByteArray} (h : w.ownsRow base 9 1 v n (strs l)) (h' : w.ownsRow base' 9 1 v' n' (strs l)) (hl : l.length ≤ 1000000000000000000) :
    Calls Try.prog 23 #[v, v'] w fun e w' => e = .returned (.bool true) ∧ Below w.heap.size w w' := by
  obtain ⟨A, c, rfl, hc, hC⟩ := strs_C h
  obtain ⟨A', c', rfl, hc', hC'⟩ := strs_C h'
  refine (aumbryref03_Same.calls (l.length + 1) A c l A' c' l true w hC hc hC' hc' ?_).mono ?_
  · unfold aumbryref03_Same.f
    rw [if_pos rfl]
    exact same_l0 l hl l.length _ 0 (by omega) (by omega)
  · rintro e w' ⟨rfl, ⟨nd, rfl⟩⟩
    exact ⟨rfl, pw_below_drewN (Below.refl _ _) _⟩
/-- A call, as it is told. -/
structure Act3 where
  kind : Int
  at_ : Int
  text : ByteArray
/-- The calls that came in, in memory. -/
def ActsAt (w : World) (A : Option Addr) (l : List Act3) : Prop := ∀ (i : Nat) (e : Act3), l[i]? = some e → ∃ ad, A = some ad ∧ w.cell? (ad.add (i * 3)) = some (.int .i64 e.kind) ∧ w.cell? ⟨(ad.add (i * 3)).block, (ad.add (i * 3)).off + 1, none⟩ = some (.int .i64 e.at_) ∧ w.cell? ⟨(ad.add (i * 3)).block, (ad.add (i * 3)).off + 2, none⟩ = some (.string e.text)
/-- What a cut disk keeps. -/
def CI (n : Int) (d : Dk) : Prop := d.told = true ∧ d.blocks.length = 64 ∧ (d.log.length : Int) + d.left = n ∧ 0 ≤ d.left ∧ (d.down = true → d.left = 0)
theorem CI_step {n : Int} {d : Dk} (h : CI n d) (hn : n ≤ 1000000) (a : Int) (s : ByteArray) : CI n (writeD d a s).1 := by
  obtain ⟨h1, h2, h3, h4, h5⟩ := h
  unfold writeD
  by_cases hm : mayD d a = 0
  · rw [if_pos hm]
    obtain ⟨hd, _, _⟩ := may_zero hm
    by_cases hs : s.size = 256
    · rw [if_pos hs]
      by_cases hc : d.told = true ∧ d.left = 0
      · rw [if_pos hc]
        exact ⟨h1, h2, h3, h4, fun _ => hc.2⟩
      · rw [if_neg hc]
        have hl : d.left ≠ 0 := fun e => hc ⟨h1, e⟩
        refine ⟨h1, ?_, ?_, ?_, ?_⟩
        · show (d.blocks.set _ _).length = 64
          rw [List.length_set, h2]
        · show (((d.log ++ [(⟨a, s⟩ : Pg)]).length : Nat) : Int) + (if d.told = true then wrap64 (d.left - 1) else d.left) = n
          rw [if_pos h1, wrap64_small (by omega) (by omega), List.length_append, List.length_singleton]
          omega
        · show 0 ≤ (if d.told = true then wrap64 (d.left - 1) else d.left)
          rw [if_pos h1, wrap64_small (by omega) (by omega)]
          omega
        · intro e
          exact absurd (show d.down = true from e) (by rw [hd]; decide)
    · rw [if_neg hs]
      exact ⟨h1, h2, h3, h4, h5⟩
  · rw [if_neg hm]
    exact ⟨h1, h2, h3, h4, h5⟩
theorem CI_new (n : Int) (h : 0 ≤ n) : CI n (cutD (newD 64) n) := ⟨decide_eq_true h, wk_len 64, by show ((0 : Nat) : Int) + n = n; omega, h, fun e => absurd (show false = true from e) (by decide)⟩
theorem may_restored {n : Int} {d : Dk} (h : CI n d) : mayD (restoreD d) 0 = 0 := by
  show (if false = true then (17 : Int) else if (0 : Int) < 0 ∨ (0 : Int) ≥ (d.blocks.length : Int) then 1 else 0) = 0
  rw [h.2.1]
  decide
theorem write_restored {n : Int} {d : Dk} (h : CI n d) (s : ByteArray) (hs : s.size = 256) : writeD (restoreD d) 0 s = (putD (restoreD d) 0 s, 0) := writeD_ok (may_restored h) hs (fun e => absurd (show false = true from e.1) (by decide))
end Go.Proofs.Ytgageigcjeaenaa.Disk
namespace Go.Proofs.Ytgageigcjeaenaa.Disk
open Go.RowKit Go.Proofs.YtgageigcjeaenaaW.PrintWords Go.Proofs.YtgageigcjeaenaaW.PrintLast Go.Proofs.YtgageigcjeaenaaW.PrintMore Go.Proofs.Ytgageigcjeaenaa.MixBase Go.Proofs.Ytgageigcjeaenaa.MixPlain Go.Proofs.Ytgageigcjeaenaa.NumBase Go.Proofs.Ytgageigcjeaenaa.PadPlain
attribute [local go_sem] max2_int min2_int max_two min_two max_three min_three max_four min_four
set_option linter.unusedVariables false
set_option linter.unusedSimpArgs false
theorem cellB {w w' : World} (hb : Below w.heap.size w w') {a : Addr} {v : Value} (hc : w.cell? a = some v) : w'.cell? a = some v := by
  refine (hb.cell ?_).trans hc
  by_cases h : a.block < w.heap.size
  · exact h
  · have e : w.heap[a.block]? = none := Array.getElem?_eq_none (by omega)
    simp [World.cell?, e] at hc
theorem acts_below {W w : World} {A : Option Addr} {l : List Act3} (h : ActsAt W A l) (hb : Below W.heap.size W w) : ActsAt w A l := fun i e hi => by
  obtain ⟨ad, h0, h1, h2, h3⟩ := h i e hi
  exact ⟨ad, h0, cellB hb h1, cellB hb h2, cellB hb h3⟩
set_option maxRecDepth 100000 in
set_option maxHeartbeats 4000000 in
theorem DiskCuts_walk (n : Int) (hn0 : 0 ≤ n) (hn1 : n ≤ 255) (A : Option Addr) (c : Nat) (l : List Act3) (W : World) (hA : ActsAt W A l) (hc : l.length ≤ c) : Calls Try.prog 6 #[.int .u8 n, .slice A l.length c] W fun e w' => e = .returned (.bool true) ∧ Below W.heap.size W w' := by
  have hu53 := Try.underlying53
  have HA := Aside0.mk hA
  have HN0 := Aside0.mk hn0
  have HN1 := Aside0.mk hn1
  have en : IntKind.i64.wrap n = n := (i64_w _).trans (wrap64_small (by omega) (by omega))
  have ew : wrap64 n = n := wrap64_small (by omega) (by omega)
  by_cases h2 : 2000 < l.length
  case pos =>
    have b2 : decide (2000 < (l.length : Int)) = true := decide_eq_true (by omega)
    clear hA h2 hc hn0 hn1
    go_enter Try.func6, Try.ntmps6
    go_wp2_with (go_at_call 26; refine (wakes_calls _).mono ?_; rintro e wa ⟨rfl, hb⟩; have HB0 := Aside0.mk hb; clear hb)
    go_ret
    exact ⟨rfl, HB0.out⟩
  have b2 : decide (2000 < (l.length : Int)) = false := decide_eq_false (by omega)
  have HL := Aside0.mk h2
  clear hA h2 hn0 hn1
  go_enter Try.func6, Try.ntmps6
  go_wp2_with (first
    | (go_at_call 26; refine (wakes_calls _).mono ?_; rintro e wa ⟨rfl, hb⟩; have HB0 := Aside0.mk hb; clear hb)
    | (go_at_call 27; refine (New_st 64 (by decide) (by decide) HB0.out).mono ?_; rintro e wn ⟨g, vb, rfl, hs, _, _⟩; have S1 := Aside0.mk hs; clear hs)
    | (go_at_call 14; refine (Cut_st n S1.out).mono ?_; rintro e wc ⟨rfl, hs, _⟩; have S2 := Aside0.mk hs; clear hs))
  go_loopg [27] l.length (fun kq v27 wr => ∃ (i : Nat) (vl : Value) (d : Dk), v27 = .int .i64 (i : Int) ∧ i ≤ l.length ∧ Aside0 (kq = l.length - i) ∧ Aside0 (St W wr g vb vl d) ∧ Aside0 (CI n d))
  case atStart => exact ⟨0, _, _, rfl, Nat.zero_le _, ⟨rfl⟩, S2, ⟨CI_new n HN0.out⟩⟩
  case round =>
    clear S1 S2
    obtain ⟨i, vl, d, rfl, hi, hkq, S, HC⟩ := hrel
    by_cases hil : i < l.length
    · obtain ⟨e0, he⟩ : ∃ e, l[i]? = some e := ⟨_, List.getElem?_eq_getElem hil⟩
      obtain ⟨ad, hAd, q0, q1, q2⟩ := HA.out i e0 he
      subst hAd
      have Q1 := Aside0.mk q1
      have Q2 := Aside0.mk q2
      have hi0 : 0 ≤ (i : Int) := by omega
      have hiz : (i : Int) < (l.length : Int) := by omega
      have hlog : (d.log.length + 1) * 24 ≤ 140737488355328 := by have := HC.out.2.2.1; have := HC.out.2.2.2.1; have := HN1.out; omega
      have HLg := Aside0.mk hlog
      clear q0 q1 q2 he hlog
      go_wp2
      go_region_held3 (fun w' => w'.cell? ⟨(ad.add (i * 3)).block, (ad.add (i * 3)).off + 1, none⟩ = some (.int .i64 e0.at_) ∧ w'.cell? ⟨(ad.add (i * 3)).block, (ad.add (i * 3)).off + 2, none⟩ = some (.string e0.text)) (first | exact ⟨cellB (below_drew1 S.out.2) Q1.out, cellB (below_drew1 S.out.2) Q2.out⟩ | exact ⟨cellB S6.out.2 Q1.out, cellB S6.out.2 Q2.out⟩ | exact ⟨cellB S7.out.2 Q1.out, cellB S7.out.2 Q2.out⟩) (first
        | (go_at_call 31; refine (block_calls _ _).mono ?_; rintro e wk ⟨rfl, hb⟩; have S6 := Aside0.mk ((S.out.below (below_drew1 (Below.refl _ _))).below hb); clear hb)
        | (go_at_call 30; refine (Write_st e0.at_ (blockS e0.text) S6.out HLg.out).mono ?_; rintro e wv ⟨vl2, rfl, hs, _, _⟩; have S7 := Aside0.mk hs; clear hs))
      go_wp2
      go_roundg (l.length - (i + 1))
      case measure => have := hkq.out; omega
      case rel => exact ⟨i + 1, vl2, _, by have := HL.out; rw [wrap64_small (by omega) (by omega)]; rfl, by omega, ⟨rfl⟩, S7, ⟨CI_step HC.out (by have := HN1.out; omega) _ _⟩⟩
    · obtain rfl : i = l.length := by omega
      clear hil hi
      obtain ⟨i1, i2, i3, i4, i5⟩ := HC.out
      have hlog : (d.log.length + 1) * 24 ≤ 140737488355328 := by have := HN1.out; omega
      have hlog2 : d.log.length * 24 ≤ 140737488355328 := by omega
      have hblk : d.blocks.length * 16 ≤ 140737488355328 := by rw [i2]; decide
      have bgt : decide (n < (d.log.length : Int)) = false := decide_eq_false (by omega)
      have bgt2 : decide ((d.log.length : Int) > n) = false := decide_eq_false (by omega)
      have hwl : wrap64 ((d.log.length : Int) + 1) = ((d.log.length + 1 : Nat) : Int) := by have := HN1.out; rw [wrap64_small (by omega) (by omega)]; rfl
      have hwl2 : IntKind.i64.wrap ((d.log.length : Int) + 1) = ((d.log.length + 1 : Nat) : Int) := (i64_w _).trans hwl
      have HLg := Aside0.mk hlog
      have HLg2 := Aside0.mk hlog2
      have HBk := Aside0.mk hblk
      have wr0 := write_restored HC.out (blockS ⟨#[113]⟩) (blockS_size _)
      have hll : (putD (restoreD d) 0 (blockS ⟨#[113]⟩)).log.length = d.log.length + 1 := by
        show (d.log ++ [_]).length = _
        rw [List.length_append, List.length_singleton]
      have HLL := Aside0.mk hll
      have HB64 := Aside0.mk i2
      have hdn : (restoreD d).down = false := rfl
      generalize hdq : putD (restoreD d) 0 (blockS ⟨#[113]⟩) = dq at wr0 HLL
      clear hlog hlog2 hblk hll i3 i4 hdq
      cases hd : d.down with
      | true =>
        have bne : ((d.log.length : Int) != n) = false := bne_eq_false_iff_eq.2 (by have := i5 hd; have := HC.out.2.2.1; omega)
        clear i1 i2 i5
        go_wp2_with (first
          | (go_at_call 19; first
              | (refine (Log_calls S12.out.1 (by rw [HLL.out]; exact HLg.out)).mono ?_; rintro e wq ⟨v5, rfl, ho, hb⟩; rw [HLL.out] at ho; obtain ⟨A5, c5, rfl, _⟩ := own_slice ho; have S13 := Aside0.mk (S12.out.below hb); clear ho hb)
              | (refine (Log_calls S.out.1 HLg2.out).mono ?_; rintro e wl ⟨v1, rfl, ho, hb⟩; obtain ⟨A1, c1, rfl, _⟩ := own_slice ho; have S8 := Aside0.mk (S.out.below hb); clear ho hb))
          | (go_at_call 24; first
              | (refine (Image_calls S10.out.1 HBk.out).mono ?_; rintro e wj ⟨v3, rfl, ho, hb⟩; have HI2 := Aside0.mk ho; have HI1c := Aside0.mk ((Moved.of_below hb (fun _ => False)).own HI1b.out (fun _ _ h => h)); have S11 := Aside0.mk (S10.out.below hb); clear ho hb)
              | (refine (Image_calls S8.out.1 HBk.out).mono ?_; rintro e wi ⟨v2, rfl, ho, hb⟩; have HI1 := Aside0.mk ho; have S9 := Aside0.mk (S8.out.below hb); clear ho hb))
          | (go_at_call 25; first
              | (refine (Down_calls S10.out.1).mono ?_; rintro e wb ⟨rfl, hw⟩; obtain rfl := hw.symm; rw [hdn])
              | (refine (Down_calls S9.out.1).mono ?_; rintro e wb ⟨rfl, hw⟩; obtain rfl := hw.symm; rw [hd]))
          | (go_at_call 32; refine (Restore_st S9.out).mono ?_; rintro e wo ⟨rfl, hs, hm⟩; have S10 := Aside0.mk hs; have HI1b := Aside0.mk (hm.own HI1.out (fun k hk hf => by have := own_base HI1.out k hk; have := (S8.out.foot hf).2; omega)); clear hs hm)
          | (go_at_call 23; refine (Same_true HI2.out HI1c.out (by rw [show (restoreD d).blocks = d.blocks from rfl, HB64.out]; decide)).mono ?_; rintro e ws ⟨rfl, hb⟩; have S11b := Aside0.mk (S11.out.below hb); clear hb)
          | (go_at_call 31; refine (block_calls _ _).mono ?_; rintro e wk ⟨rfl, hb⟩; have S11c := Aside0.mk (S11b.out.below hb); clear hb)
          | (go_at_call 30; refine (Write_st 0 (blockS ⟨#[113]⟩) S11c.out HLg.out).mono ?_; rintro e wv ⟨vl2, rfl, hs, _, _⟩; rw [wr0] at hs ⊢; have S12 := Aside0.mk hs; clear hs))
        go_ret
        exact ⟨by first | rfl | simp, S13.out.2⟩
      | false =>
        clear i1 i2 i5
        go_wp2_with (first
          | (go_at_call 19; first
              | (refine (Log_calls S12.out.1 (by rw [HLL.out]; exact HLg.out)).mono ?_; rintro e wq ⟨v5, rfl, ho, hb⟩; rw [HLL.out] at ho; obtain ⟨A5, c5, rfl, _⟩ := own_slice ho; have S13 := Aside0.mk (S12.out.below hb); clear ho hb)
              | (refine (Log_calls S.out.1 HLg2.out).mono ?_; rintro e wl ⟨v1, rfl, ho, hb⟩; obtain ⟨A1, c1, rfl, _⟩ := own_slice ho; have S8 := Aside0.mk (S.out.below hb); clear ho hb))
          | (go_at_call 24; first
              | (refine (Image_calls S10.out.1 HBk.out).mono ?_; rintro e wj ⟨v3, rfl, ho, hb⟩; have HI2 := Aside0.mk ho; have HI1c := Aside0.mk ((Moved.of_below hb (fun _ => False)).own HI1b.out (fun _ _ h => h)); have S11 := Aside0.mk (S10.out.below hb); clear ho hb)
              | (refine (Image_calls S8.out.1 HBk.out).mono ?_; rintro e wi ⟨v2, rfl, ho, hb⟩; have HI1 := Aside0.mk ho; have S9 := Aside0.mk (S8.out.below hb); clear ho hb))
          | (go_at_call 25; first
              | (refine (Down_calls S10.out.1).mono ?_; rintro e wb ⟨rfl, hw⟩; obtain rfl := hw.symm; rw [hdn])
              | (refine (Down_calls S9.out.1).mono ?_; rintro e wb ⟨rfl, hw⟩; obtain rfl := hw.symm; rw [hd]))
          | (go_at_call 32; refine (Restore_st S9.out).mono ?_; rintro e wo ⟨rfl, hs, hm⟩; have S10 := Aside0.mk hs; have HI1b := Aside0.mk (hm.own HI1.out (fun k hk hf => by have := own_base HI1.out k hk; have := (S8.out.foot hf).2; omega)); clear hs hm)
          | (go_at_call 23; refine (Same_true HI2.out HI1c.out (by rw [show (restoreD d).blocks = d.blocks from rfl, HB64.out]; decide)).mono ?_; rintro e ws ⟨rfl, hb⟩; have S11b := Aside0.mk (S11.out.below hb); clear hb)
          | (go_at_call 31; refine (block_calls _ _).mono ?_; rintro e wk ⟨rfl, hb⟩; have S11c := Aside0.mk (S11b.out.below hb); clear hb)
          | (go_at_call 30; refine (Write_st 0 (blockS ⟨#[113]⟩) S11c.out HLg.out).mono ?_; rintro e wv ⟨vl2, rfl, hs, _, _⟩; rw [wr0] at hs ⊢; have S12 := Aside0.mk hs; clear hs))
        go_ret
        exact ⟨by first | rfl | simp, S13.out.2⟩
end Go.Proofs.Ytgageigcjeaenaa.Disk
namespace Go.Proofs.Ytgageigcjeaenaa.Disk
open Go.RowKit Go.Proofs.YtgageigcjeaenaaW.PrintWords Go.Proofs.YtgageigcjeaenaaW.PrintLast Go.Proofs.YtgageigcjeaenaaW.PrintMore Go.Proofs.Ytgageigcjeaenaa.MixBase Go.Proofs.Ytgageigcjeaenaa.MixPlain Go.Proofs.Ytgageigcjeaenaa.NumBase Go.Proofs.Ytgageigcjeaenaa.PadPlain
attribute [local go_sem] max2_int min2_int max_two min_two max_three min_three max_four min_four
set_option linter.unusedVariables false
set_option linter.unusedSimpArgs false
def TextsAt (w : World) (A : Option Addr) (n : Nat) (Sx : Nat → ByteArray) : Prop := ∀ i, i < n → ∃ ad, A = some ad ∧ w.cell? (ad.add i) = some (.string (Sx i))
def textOf (n : Nat) (Sx : Nat → ByteArray) (i : Nat) : ByteArray := if i < n then Sx i else ⟨#[]⟩
def blks (n : Nat) (Sx : Nat → ByteArray) (m : Nat) : List ByteArray := (List.range m).map fun i => blockS (textOf n Sx i)
theorem blks_length (n : Nat) (Sx : Nat → ByteArray) (m : Nat) : (blks n Sx m).length = m := by simp [blks]
theorem blks_succ (n : Nat) (Sx : Nat → ByteArray) (m : Nat) : blks n Sx (m + 1) = blks n Sx m ++ [blockS (textOf n Sx m)] := by simp [blks, List.range_succ]
theorem blks_of (n : Nat) (Sx : Nat → ByteArray) : ofErr (blks n Sx 64) = 0 := by
  unfold ofErr
  rw [blks_length, if_pos (by omega), if_pos]
  rw [List.all_eq_true]
  intro x hx
  obtain ⟨i, _, rfl⟩ := List.mem_map.1 hx
  rw [blockS_size]
  rfl
def replay (b : List ByteArray) (log : List Pg) : List ByteArray := log.foldl (fun b p => b.set p.at_.toNat p.data) b
theorem replay_snoc (b : List ByteArray) (log : List Pg) (p : Pg) : replay b (log ++ [p]) = (replay b log).set p.at_.toNat p.data := by simp [replay, List.foldl_append]
theorem replay_length (log : List Pg) : ∀ b : List ByteArray, (replay b log).length = b.length := by
  induction log with
  | nil => intro b; rfl
  | cons p log ih => intro b; show (replay (b.set _ _) log).length = _; rw [ih, List.length_set]
/-- What the writes come to. -/
def LI (b : List ByteArray) (m : Nat) (d : Dk) : Prop := d.told = false ∧ d.down = false ∧ d.log.length = m ∧ d.blocks = replay b d.log ∧ d.blocks.length = 64 ∧ ∀ p ∈ d.log, 0 ≤ p.at_ ∧ p.at_ < 64
theorem LI_step {b : List ByteArray} {m : Nat} {d : Dk} (h : LI b m d) (a : Int) (h0 : 0 ≤ a) (h1 : a < 64) (s : ByteArray) (hs : s.size = 256) : LI b (m + 1) (writeD d a s).1 := by
  obtain ⟨i1, i2, i3, i4, i5, i6⟩ := h
  have hm : mayD d a = 0 := by
    unfold mayD
    rw [i2, if_neg (by decide), if_neg (by rw [i5]; omega)]
  rw [writeD_ok hm hs (fun e => by rw [i1] at e; exact absurd e.1 (by decide))]
  refine ⟨i1, i2, ?_, ?_, ?_, ?_⟩
  · show (d.log ++ [_]).length = m + 1
    rw [List.length_append, i3]
    rfl
  · show d.blocks.set a.toNat s = replay b (d.log ++ [⟨a, s⟩])
    rw [replay_snoc, ← i4]
  · show (d.blocks.set a.toNat s).length = 64
    rw [List.length_set, i5]
  · intro p hp
    rcases List.mem_append.1 (show p ∈ d.log ++ [⟨a, s⟩] from hp) with h | h
    · exact i6 p h
    · rw [List.mem_singleton.1 h]
      exact ⟨h0, h1⟩
def kindS (a n : Int) : Int := (IntKind.u64.wrap a) % n
theorem kindS_in (a n : Int) (hn : 0 < n) : 0 ≤ kindS a n ∧ kindS a n < n := ⟨Int.emod_nonneg _ (by omega), Int.emod_lt_of_pos _ hn⟩
theorem kind_calls (a n : Int) (hn : 0 < n) (hn1 : n < 1000) (w : World) : Calls Try.prog 36 #[.int .i64 a, .int .i64 n] w fun e w' => e = .returned (.int .i64 (kindS a n)) ∧ Drawn0 w w' :=
  aumbrylaw09_kind.calls a n (kindS a n) w (by
    have hk := kindS_in a n hn
    have hu : IntKind.u64.wrap n = n := u64_small (by omega) (by omega)
    have h0 : 0 ≤ IntKind.u64.wrap a := by
      have h : IntKind.u64.wrap a = a % 18446744073709551616 := rfl
      omega
    unfold aumbrylaw09_kind.f
    rw [hu, if_neg (by omega), Int.tmod_eq_emod_of_nonneg h0]
    have e : wrap64 (IntKind.u64.wrap a % n) = kindS a n := wrap64_small (by unfold kindS at hk; omega) (by unfold kindS at hk; omega)
    rw [e])
theorem pgs_at (l : List Pg) : ∀ (i : Nat) (p : Pg), l[i]? = some p → (pgs l)[i * 2]? = some (.int .i64 p.at_) ∧ (pgs l)[i * 2 + 1]? = some (.string p.data) := by
  induction l with
  | nil => intro i p h; simp at h
  | cons a l ih =>
    intro i p h
    have e : pgs (a :: l) = [.int .i64 a.at_, .string a.data] ++ pgs l := by simp [pgs]
    rw [e]
    cases i with
    | zero =>
      simp at h
      subst h
      exact ⟨rfl, rfl⟩
    | succ i =>
      rw [List.getElem?_cons_succ] at h
      obtain ⟨h1, h2⟩ := ih i p h
      refine ⟨?_, ?_⟩
      · rw [List.getElem?_append_right (by simp; omega)]
        simpa [show (i + 1) * 2 - 2 = i * 2 by omega] using h1
      · rw [List.getElem?_append_right (by simp; omega)]
        simpa [show (i + 1) * 2 + 1 - 2 = i * 2 + 1 by omega] using h2
end Go.Proofs.Ytgageigcjeaenaa.Disk
namespace Go.Proofs.Ytgageigcjeaenaa.Disk
open Go.RowKit Go.Proofs.YtgageigcjeaenaaW.PrintWords Go.Proofs.YtgageigcjeaenaaW.PrintLast Go.Proofs.YtgageigcjeaenaaW.PrintMore Go.Proofs.Ytgageigcjeaenaa.MixBase Go.Proofs.Ytgageigcjeaenaa.MixPlain Go.Proofs.Ytgageigcjeaenaa.NumBase Go.Proofs.Ytgageigcjeaenaa.PadPlain
attribute [local go_sem] max2_int min2_int max_two min_two max_three min_three max_four min_four
set_option linter.unusedVariables false
set_option linter.unusedSimpArgs false
section
open Go.ChangeShapes Go.WideShapes Go.Deep
variable {H : Type} {enc : TypeId × Value → H} {P : Program} {w : World} {base : Nat} {spare : Nat → Bool} {held : Bool}
theorem open_slice_fields {t e : TypeId} {fs : Array Field} {fuel : Nat} {cs : List Value} {x : DataW H × List MemPlace} (ht : P.underlying t = some (.slice e)) (he : P.underlying e = some (.struct fs))
    (hone : oneCellFields P fs = true) (hC : P.cellsOf e = fs.size) (h : DataW.trod enc P w base spare held fuel t cs = some x) :
    (cs = [.slice none 0 0] ∧ x = (.nil, [])) ∨
    ∃ (a : Addr) (len cap m : Nat) (D : Nat → DataW H) (Pl : Nat → List MemPlace), cs = [.slice (some a) len cap] ∧ base ≤ a.block ∧ len ≤ cap ∧ cap ≤ maxLen ∧ m = (if spare a.block then cap else len) ∧
      x = (.slice ((List.range len).map D) ((List.range (m - len)).map fun j => D (len + j)), MemPlace.row a (m * fs.size) ++ (List.range m).flatMap Pl) ∧
      ∀ i, i < m → ∃ (ys : List (DataW H × List MemPlace)) (n : Nat), D i = .agg (ys.map (·.1)) ∧ Pl i = ys.flatMap (·.2) ∧ ys.length = fs.size ∧
        ∀ (j : Nat) (f : Field), fs[j]? = some f → ∃ (v : Value) (y : DataW H × List MemPlace), w.cell? (a.add (i * fs.size + j)) = some v ∧ ys[j]? = some y ∧ DataW.trod enc P w base spare held n f.type [v] = some y := by
  rcases open_slice ht h with h0 | ⟨a, len, cap, m, n, D, Pl, hcs, hb, hl, hm, hmm, hx, hi⟩
  · exact .inl h0
  · refine .inr ⟨a, len, cap, m, D, Pl, hcs, hb, hl, hm, hmm, by rw [hC] at hx; exact hx, fun i him => ?_⟩
    obtain ⟨cs', hc, ht'⟩ := hi i him
    rw [hC] at hc
    obtain ⟨ys, n', hn', hy, hlen, hyl, hf⟩ := DataW.trod_struct he ht'
    obtain ⟨_, hcl, hat⟩ := World.cells?_some hc
    simp only [Prod.mk.injEq] at hy
    refine ⟨ys, n', hy.1, hy.2, hyl, fun j f hj => ?_⟩
    obtain ⟨ho, hk⟩ := hone_of hone j f hj
    have hjl : j < fs.size := (Array.getElem?_eq_some_iff.1 hj).1
    have hcell := hat j hjl
    have hv : cs'[j]? = some (cs'[j]'(by omega)) := List.getElem?_eq_getElem (by omega)
    have h1 := hf j f hj
    rw [ho, hk] at h1
    have hone' : (cs'.drop j).take 1 = [cs'[j]'(by omega)] := by
      rw [List.drop_eq_getElem_cons (by omega)]
      rfl
    rw [hone'] at h1
    have hys : ys[j]? = some (ys[j]'(by omega)) := List.getElem?_eq_getElem (by omega)
    refine ⟨_, _, ?_, hys, h1.trans hys⟩
    rw [← Go.Deep.add_add, hcell, hv]
/-- A slice of calls that came in. -/
theorem open_acts {ts : List TypeId} {ds : List (DataW H)} {j : Nat} {a : Option Addr} {len cap : Nat} {d : DataW H} {ps : List MemPlace}
    (hsz : (DataW.weightsEach Try.prog ts ds).all (· ≤ reachBytes) = true) (htj : ts[j]? = some 47) (hdj : ds[j]? = some d)
    (h : DataW.Trod enc Try.prog w 0 (fun _ => true) true 47 (.slice a len cap) d ps) :
    ∃ l : List Act3, l.length = len ∧ len ≤ cap ∧ ActsAt w a l ∧ len * 32 ≤ 140737488351232 := by
  obtain ⟨fuel, hf⟩ := h
  rcases open_slice_fields Try.underlying47 Try.underlying53 (by kernel_rfl) (by kernel_rfl) hf with ⟨hcs, _⟩ | ⟨x, l, c, m, D, Pl, hcs, _, hl, hm, hmm, hx, hel⟩
  · simp [Value.cells] at hcs
    obtain ⟨rfl, rfl, rfl⟩ := hcs
    exact ⟨[], rfl, Nat.le_refl _, fun i e hi => by simp at hi, by omega⟩
  · simp [Value.cells] at hcs
    obtain ⟨rfl, rfl, rfl⟩ := hcs
    simp only [if_true] at hmm
    obtain ⟨hx, _⟩ := Prod.mk.inj hx
    subst hx
    have z := sized_slice hsz htj hdj Try.underlying47
    rw [show Try.prog.bytesOf 53 = 32 from by kernel_rfl] at z
    simp only [List.length_map, List.length_range] at z
    have hz : (len + (m - len)) * 32 ≤ 140737488351232 := z
    have hent : ∀ i, i < len → ∃ e : Act3, w.cell? (x.add (i * 3)) = some (.int .i64 e.kind) ∧ w.cell? ⟨(x.add (i * 3)).block, (x.add (i * 3)).off + 1, none⟩ = some (.int .i64 e.at_) ∧ w.cell? ⟨(x.add (i * 3)).block, (x.add (i * 3)).off + 2, none⟩ = some (.string e.text) := by
      intro i hi
      obtain ⟨ys, n, _, _, _, hfs⟩ := hel i (by omega)
      obtain ⟨v0, y0, hc0, _, ht0⟩ := hfs 0 _ rfl
      obtain ⟨v1, y1, hc1, _, ht1⟩ := hfs 1 _ rfl
      obtain ⟨v2, y2, hc2, _, ht2⟩ := hfs 2 _ rfl
      obtain ⟨a0, e0, _, _⟩ := DataW.trod_int Try.underlying3 ht0
      obtain ⟨a1, e1, _, _⟩ := DataW.trod_int Try.underlying3 ht1
      obtain ⟨a2, e2, _, _⟩ := DataW.trod_string Try.underlying9 ht2
      simp only [List.cons.injEq, and_true] at e0 e1 e2
      subst e0 e1 e2
      exact ⟨⟨a0, a1, a2⟩, by simpa using hc0, by rw [← add_field _ _ 1 (by omega)]; exact hc1, by rw [← add_field _ _ 2 (by omega)]; exact hc2⟩
    have key : ∀ n, n ≤ len → ∃ l : List Act3, l.length = n ∧ ∀ i e, l[i]? = some e → w.cell? (x.add (i * 3)) = some (.int .i64 e.kind) ∧ w.cell? ⟨(x.add (i * 3)).block, (x.add (i * 3)).off + 1, none⟩ = some (.int .i64 e.at_) ∧ w.cell? ⟨(x.add (i * 3)).block, (x.add (i * 3)).off + 2, none⟩ = some (.string e.text) := by
      intro n
      induction n with
      | zero => intro _; exact ⟨[], rfl, fun i e h => by simp at h⟩
      | succ n ih =>
        intro hn
        obtain ⟨l, h1, h2⟩ := ih (by omega)
        obtain ⟨e, he⟩ := hent n (by omega)
        refine ⟨l ++ [e], by rw [List.length_append, h1]; rfl, fun i e' hi => ?_⟩
        rcases Nat.lt_or_ge i l.length with h3 | h3
        · rw [List.getElem?_append_left h3] at hi
          exact h2 i e' hi
        · have h4 := (List.getElem?_eq_some_iff.1 hi).1
          rw [List.length_append, List.length_singleton] at h4
          obtain rfl : i = l.length := by omega
          simp at hi
          subst hi
          rw [h1]
          exact he
    obtain ⟨l, hll, hle⟩ := key len (Nat.le_refl _)
    exact ⟨l, hll, hl, fun i e hi => ⟨x, rfl, hle i e hi⟩, by omega⟩
end
theorem u8_in {a : Int} (h : (Lit.int .u8 a).wf = true) : 0 ≤ a ∧ a ≤ 255 := by
  simp [Lit.wf, IntKind.min, IntKind.max, IntKind.signed, IntKind.bits] at h
  omega
theorem DiskCuts_row (n : Int) (A : Option Addr) (c : Nat) (l : List Act3) (W : World) (hn : (Lit.int .u8 n).wf = true) (hA : ActsAt W A l) (hc : l.length ≤ c) (_ : l.length * 32 ≤ 140737488351232) : Calls Try.prog 6 #[.int .u8 n, .slice A l.length c] W fun e w' => e = .returned (.bool true) ∧ Below W.heap.size W w' :=
  DiskCuts_walk n (u8_in hn).1 (u8_in hn).2 A c l W hA hc
end Go.Proofs.Ytgageigcjeaenaa.Disk
namespace Go.Proofs.Ytgageigcjeaenaa.Disk
open Go.RowKit Go.Proofs.YtgageigcjeaenaaW.PrintWords Go.Proofs.YtgageigcjeaenaaW.PrintLast Go.Proofs.YtgageigcjeaenaaW.PrintMore Go.Proofs.Ytgageigcjeaenaa.MixBase Go.Proofs.Ytgageigcjeaenaa.MixPlain Go.Proofs.Ytgageigcjeaenaa.NumBase Go.Proofs.Ytgageigcjeaenaa.PadPlain
attribute [local go_sem] max2_int min2_int max_two min_two max_three min_three max_four min_four
set_option linter.unusedVariables false
set_option linter.unusedSimpArgs false
theorem kind_b (a n : Int) (hn : 0 < n) (hn1 : n < 1000) (w : World) : Calls Try.prog 36 #[.int .i64 a, .int .i64 n] w fun e w' => e = .returned (.int .i64 (kindS a n)) ∧ Below w.heap.size w w' :=
  (kind_calls a n hn hn1 w).mono (by rintro e w' ⟨rfl, ⟨nd, rfl⟩⟩; exact ⟨rfl, pw_below_drewN (Below.refl _ _) nd⟩)
set_option maxRecDepth 100000 in
set_option maxHeartbeats 4000000 in
theorem DiskLogs_walk (TA : Option Addr) (tn tc : Nat) (Sx : Nat → ByteArray) (A : Option Addr) (c : Nat) (l : List Act3) (W : World) (hT : TextsAt W TA tn Sx) (htn : tn ≤ 1000000000000000000) (htc : tn ≤ tc) (hA : ActsAt W A l) (hc : l.length ≤ c) (hll : l.length ≤ 1000000000000000000) :
    Calls Try.prog 8 #[.slice TA tn tc, .slice A l.length c] W fun e w' => e = .returned (.bool true) ∧ Below W.heap.size W w' := by
  have hu53 := Try.underlying53
  have hu62 := Try.underlying62
  have HA := Aside0.mk hA
  have HT := Aside0.mk hT
  have HTn := Aside0.mk htn
  by_cases h2 : 2000 < l.length
  case pos =>
    have b2 : decide (2000 < (l.length : Int)) = true := decide_eq_true (by omega)
    clear hA hT h2 hc htc htn hll
    go_enter Try.func8, Try.ntmps8
    go_wp2_with (go_at_call 26; refine (wakes_calls _).mono ?_; rintro e wa ⟨rfl, hb⟩; have HB0 := Aside0.mk hb; clear hb)
    go_ret
    exact ⟨rfl, HB0.out⟩
  have b2 : decide (2000 < (l.length : Int)) = false := decide_eq_false (by omega)
  have HL := Aside0.mk h2
  clear hA hT h2 htn hll
  go_enter Try.func8, Try.ntmps8
  go_wp2_with (go_at_call 26; refine (wakes_calls _).mono ?_; rintro e wa ⟨rfl, hb⟩; have HB0 := Aside0.mk hb; clear hb)
  go_loopg [5, 6] 64 (fun kq v5 v6 wr => ∃ (i : Nat), v6 = .int .i64 (i : Int) ∧ i ≤ 64 ∧ Aside0 (kq = 64 - i) ∧ Aside0 (wr.ownsRow W.heap.size 9 1 v5 i (strs (blks tn Sx i))) ∧ Aside0 (Below W.heap.size W wr))
  case atStart => exact ⟨0, rfl, Nat.zero_le _, ⟨rfl⟩, ⟨own_none _ _ _⟩, HB0⟩
  case round =>
    clear HB0
    obtain ⟨i, rfl, hi, hkq, HO, HB⟩ := hrel
    obtain ⟨A5, c5, rfl, _⟩ := own_slice HO.out
    by_cases hil : i < 64
    · have hi0 : 0 ≤ (i : Int) := by omega
      have hiz : (i : Int) < 64 := by omega
      have hb64 : decide ((i : Int) < 64) = true := decide_eq_true hiz
      have HI := Aside0.mk hil
      by_cases hit : i < tn
      · obtain ⟨ad, hAd, q⟩ := HT.out i hit
        subst hAd
        have q' := cellB HB.out q
        have hitz : (i : Int) < (tn : Int) := by omega
        have hbt : decide ((i : Int) < (tn : Int)) = true := decide_eq_true hitz
        have et : textOf tn Sx i = Sx i := by unfold textOf; rw [if_pos hit]
        have es := blks_succ tn Sx i
        rw [et] at es
        clear q hit
        go_wp2_with (first
          | (go_at_call 31; refine (block_calls _ _).mono ?_; rintro e wk ⟨rfl, hb⟩; have HO2 := Aside0.mk ((Moved.of_below hb (fun _ => False)).own HO.out (fun _ _ h => h)); have HB2 := Aside0.mk (below_step HB.out hb); clear hb)
          | ((with_reducible refine gate_builtin (b := .append) (xs := #[.tmp 30, .tmp 33]) rfl ?_); at_builtin; refine print_append_cells (w0 := W) W.heap.size rfl (.tmp 30) (.tmp 33) 37 9 (.string ⟨#[]⟩) 1 16 rfl Try.underlying37 info9 rfl (by decide) (by decide) (.slice A5 i c5) i (strs (blks tn Sx i)) [.string (blockS (Sx i))] rfl rfl rfl (by intro u hu; simp at hu; subst hu; rfl) HO2.out HB2.out (below_size HB2.out) (by have := HI.out; omega) ?_; intro v1 w3 ho hb _ _; have HO3 := Aside0.mk ho; have HB3 := Aside0.mk hb; clear ho hb))
        go_roundg (64 - (i + 1))
        case measure => have := hkq.out; have := HI.out; omega
        case rel => exact ⟨i + 1, by first | rfl | (rw [wrap64_small (by omega) (by omega)]; rfl), by omega, ⟨rfl⟩, ⟨by rw [es, show strs (blks tn Sx i ++ [blockS (Sx i)]) = strs (blks tn Sx i) ++ [.string (blockS (Sx i))] by simp [strs]]; exact HO3.out⟩, HB3⟩
      · have hitz : ¬ (i : Int) < (tn : Int) := by omega
        have hbt : decide ((i : Int) < (tn : Int)) = false := decide_eq_false hitz
        have et : textOf tn Sx i = ⟨#[]⟩ := by unfold textOf; rw [if_neg hit]
        have es := blks_succ tn Sx i
        rw [et] at es
        clear hit
        go_wp2_with (first
          | (go_at_call 31; refine (block_calls _ _).mono ?_; rintro e wk ⟨rfl, hb⟩; have HO2 := Aside0.mk ((Moved.of_below hb (fun _ => False)).own HO.out (fun _ _ h => h)); have HB2 := Aside0.mk (below_step HB.out hb); clear hb)
          | ((with_reducible refine gate_builtin (b := .append) (xs := #[.tmp 30, .tmp 33]) rfl ?_); at_builtin; refine print_append_cells (w0 := W) W.heap.size rfl (.tmp 30) (.tmp 33) 37 9 (.string ⟨#[]⟩) 1 16 rfl Try.underlying37 info9 rfl (by decide) (by decide) (.slice A5 i c5) i (strs (blks tn Sx i)) [.string (blockS ⟨#[]⟩)] rfl rfl rfl (by intro u hu; simp at hu; subst hu; rfl) HO2.out HB2.out (below_size HB2.out) (by have := HI.out; omega) ?_; intro v1 w3 ho hb _ _; have HO3 := Aside0.mk ho; have HB3 := Aside0.mk hb; clear ho hb))
        go_roundg (64 - (i + 1))
        case measure => have := hkq.out; have := HI.out; omega
        case rel => exact ⟨i + 1, by first | rfl | (rw [wrap64_small (by omega) (by omega)]; rfl), by omega, ⟨rfl⟩, ⟨by rw [es, show strs (blks tn Sx i ++ [blockS ⟨#[]⟩]) = strs (blks tn Sx i) ++ [.string (blockS ⟨#[]⟩)] by simp [strs]]; exact HO3.out⟩, HB3⟩
    · obtain rfl : i = 64 := by omega
      clear hil hi hkq
      obtain ⟨zf, hzf⟩ : ∃ zf, zf = wr.heap.size := ⟨_, rfl⟩
      have HV5 : Aside0 (∀ k, (Value.slice A5 64 c5).ownBlock = some k → k < zf) := ⟨fun k hk => by rw [hzf]; exact own_lt HO.out k hk⟩
      have HO' := HO.out
      go_wp2_with (go_at_call 35; refine (Of_good (blks tn Sx 64) (by rw [blks_length]; exact HO.out) (blks_of _ _)).mono ?_; rintro e wd ⟨g, vb, rfl, hd, hb⟩; have S1 : Aside0 (St W wd g vb (.slice none 0 0) ⟨blks tn Sx 64, [], 0, false, false⟩) := ⟨⟨hd.lower HB.out.size, below_step HB.out hb⟩⟩; have HO1 := Aside0.mk ((Moved.of_below hb (fun _ => False)).own HO.out (fun _ _ h => h)); have HF1 : Aside0 (∀ k, Foot g vb (.slice none 0 0) k → zf ≤ k) := ⟨fun k hk => by rw [hzf]; exact (hd.foot_lt hk).1⟩; clear hd hb)
      clear HO'
      have HLI : Aside0 (LI (blks tn Sx 64) 0 ⟨blks tn Sx 64, [], 0, false, false⟩) := ⟨⟨rfl, rfl, rfl, rfl, blks_length _ _ _, fun p hp => by cases hp⟩⟩
      generalize hbl : blks tn Sx 64 = bl at HO1 S1 HLI
      have HBL : Aside0 (bl.length = 64) := ⟨by rw [← hbl]; exact blks_length _ _ _⟩
      clear hbl hzf HO HB HT
      go_loopg [44] l.length (fun kq v44 wr => ∃ (i : Nat) (vl : Value) (d : Dk), v44 = .int .i64 (i : Int) ∧ i ≤ l.length ∧ Aside0 (kq = l.length - i) ∧ Aside0 (St W wr g vb vl d) ∧ Aside0 (LI bl i d) ∧ Aside0 (∀ k, Foot g vb vl k → zf ≤ k) ∧ Aside0 (wr.ownsRow W.heap.size 9 1 (.slice A5 64 c5) 64 (strs bl)))
      case atStart => exact ⟨0, _, _, rfl, Nat.zero_le _, ⟨rfl⟩, S1, HLI, HF1, HO1⟩
      case round =>
        clear S1 HLI HF1 HO1
        obtain ⟨i, vl, d, rfl, hi, hkq, S, HLI, HF, HO⟩ := hrel
        by_cases hil : i < l.length
        · obtain ⟨e0, he⟩ : ∃ e, l[i]? = some e := ⟨_, List.getElem?_eq_getElem hil⟩
          obtain ⟨ad, hAd, q0, q1, q2⟩ := HA.out i e0 he
          subst hAd
          have Q1 := Aside0.mk q1
          have Q2 := Aside0.mk q2
          have hi0 : 0 ≤ (i : Int) := by omega
          have hiz : (i : Int) < (l.length : Int) := by omega
          have HLg : Aside0 ((d.log.length + 1) * 24 ≤ 140737488355328) := ⟨by have := HLI.out.2.2.1; have := HL.out; omega⟩
          have S6 := Aside0.mk (S.out.below (below_drew1 (Below.refl _ _)))
          have HO6 := Aside0.mk ((Moved.of_below (below_drew1 (Below.refl wr.heap.size wr)) (fun _ => False)).own HO.out (fun _ _ h => h))
          clear q0 q1 q2 he
          go_wp2
          go_region_held3 (fun w' => w'.cell? ⟨(ad.add (i * 3)).block, (ad.add (i * 3)).off + 1, none⟩ = some (.int .i64 e0.at_) ∧ w'.cell? ⟨(ad.add (i * 3)).block, (ad.add (i * 3)).off + 2, none⟩ = some (.string e0.text)) (first | exact ⟨cellB S6.out.2 Q1.out, cellB S6.out.2 Q2.out⟩ | exact ⟨cellB S7.out.2 Q1.out, cellB S7.out.2 Q2.out⟩) (first
            | (go_at_call 36; refine (kind_b e0.at_ 64 (by decide) (by decide) _).mono ?_; rintro e wk ⟨rfl, hb⟩; have n1 := Aside0.mk (S6.out.below hb); have n2 := Aside0.mk ((Moved.of_below hb (fun _ => False)).own HO6.out (fun _ _ h => h)); clear S6 HO6; have S6 := n1; have HO6 := n2; clear n1 n2 hb)
            | (go_at_call 31; refine (block_calls _ _).mono ?_; rintro e wk ⟨rfl, hb⟩; have n1 := Aside0.mk (S6.out.below hb); have n2 := Aside0.mk ((Moved.of_below hb (fun _ => False)).own HO6.out (fun _ _ h => h)); clear S6 HO6; have S6 := n1; have HO6 := n2; clear n1 n2 hb)
            | (go_at_call 30; refine (Write_st (kindS e0.at_ 64) (blockS e0.text) S6.out HLg.out).mono ?_; rintro e wv ⟨vl2, rfl, hs, hf, hm⟩; have S7 := Aside0.mk hs; have HO7 := Aside0.mk (hm.own HO6.out (fun k hk hk' => by have := HV5.out k hk; have := HF.out k hk'; omega)); have HF7 : Aside0 (∀ k, Foot g vb vl2 k → zf ≤ k) := ⟨fun k hk => (hf k hk).elim (fun h => HF.out k h) (fun h => by have := HF.out g (Or.inl rfl); have := (S6.out.foot (Or.inl rfl : Foot g vb vl g)).2; omega)⟩; clear hs hf hm))
          go_wp2
          go_roundg (l.length - (i + 1))
          case measure => have := hkq.out; omega
          case rel => exact ⟨i + 1, vl2, _, by have := HL.out; rw [wrap64_small (by omega) (by omega)]; rfl, by omega, ⟨rfl⟩, S7, ⟨LI_step HLI.out _ (kindS_in e0.at_ 64 (by decide)).1 (kindS_in e0.at_ 64 (by decide)).2 _ (blockS_size _)⟩, HF7, HO7⟩
        · obtain rfl : i = l.length := by omega
          clear hil hi hkq
          have HLn := Aside0.mk HLI.out.2.2.1
          have hlog : d.log.length * 24 ≤ 140737488355328 := by have := HLI.out.2.2.1; have := HL.out; omega
          have HLg := Aside0.mk hlog
          clear hlog
          go_wp2_with (go_at_call 19; refine (Log_calls S.out.1 HLg.out).mono ?_; rintro e wl ⟨v1, rfl, ho, hb⟩; rw [HLn.out] at ho; obtain ⟨A1, c1, rfl, _⟩ := own_slice ho; have S8 := Aside0.mk (S.out.below hb); have HG8 := Aside0.mk ho; have HO8 := Aside0.mk ((Moved.of_below hb (fun _ => False)).own HO.out (fun _ _ h => h)); clear ho hb)
          go_loopg [66] l.length (fun kq v66 wr => ∃ (i : Nat), v66 = .int .i64 (i : Int) ∧ i ≤ l.length ∧ Aside0 (kq = l.length - i) ∧ Aside0 (St W wr g vb vl d) ∧ Aside0 (wr.ownsRow W.heap.size 62 2 (.slice A1 l.length c1) l.length (pgs d.log)) ∧ Aside0 (wr.ownsRow W.heap.size 9 1 (.slice A5 64 c5) 64 (strs (replay bl (d.log.take i)))))
          case atStart => exact ⟨0, rfl, Nat.zero_le _, ⟨rfl⟩, S8, ⟨own_less HG8.out S.out.2.size⟩, HO8⟩
          case round =>
            clear S8 HG8 HO8 S HO
            obtain ⟨i, rfl, hi, hkq, S, HG, HO⟩ := hrel
            by_cases hil : i < l.length
            · obtain ⟨p, hp⟩ : ∃ p, d.log[i]? = some p := ⟨_, List.getElem?_eq_getElem (by rw [HLn.out]; exact hil)⟩
              have hpm : p ∈ d.log := List.mem_of_getElem? hp
              obtain ⟨hp0, hp1⟩ := HLI.out.2.2.2.2.2 p hpm
              have htk : d.log.take (i + 1) = d.log.take i ++ [p] := by rw [List.take_add_one, hp]; rfl
              have HTk := Aside0.mk htk
              obtain ⟨gl, cg, cur, eg, _, hgl, _, hatg⟩ := own_form HG.out (by omega)
              injection eg with eg1 eg2 eg3
              subst eg1 eg3
              obtain ⟨hq0, hq1⟩ := pgs_at d.log i p hp
              have q0 := (blk_cell hgl (i * 2)).trans ((hatg (i * 2) (by omega)).trans hq0)
              have q1 := (blk_cell hgl (i * 2 + 1)).trans ((hatg (i * 2 + 1) (by omega)).trans hq1)
              obtain ⟨bb, c6, cur6, eb, _, hbb, hc6, hat6⟩ := own_form HO.out (by omega)
              injection eb with eb1 eb2 eb3
              subst eb1 eb3
              have hlr : (replay bl (d.log.take i)).length = 64 := by rw [replay_length]; exact HBL.out
              have r0 := (blk_cell hbb p.at_.toNat).trans ((hat6 p.at_.toNat (by omega)).trans (strs_at _ p.at_.toNat (by rw [hlr]; omega)))
              have f0 := blk_frozen hbb p.at_.toNat
              generalize (replay bl (d.log.take i)).getD p.at_.toNat ⟨#[]⟩ = xx at r0
              have hi0 : 0 ≤ (i : Int) := by omega
              have hiz : (i : Int) < (l.length : Int) := by omega
              have bp0 : decide (p.at_ < 0) = false := decide_eq_false (by omega)
              have bp1 : decide (64 ≤ p.at_) = false := decide_eq_false (by omega)
              have hp64 : p.at_ < ((64 : Nat) : Int) := by omega
              have HBB := Aside0.mk hbb
              have HGL := Aside0.mk hgl
              clear hgl hbb hatg hat6 hq0 hq1 hpm htk hlr hp
              go_wp2
              have r0d : wr.drew.cell? ⟨bb, p.at_.toNat, none⟩ = some (.string xx) := r0
              have f0d : wr.drew.frozen? ⟨bb, p.at_.toNat, none⟩ = false := f0
              have Sd := Aside0.mk (S.out.below (below_drew1 (Below.refl wr.heap.size wr)))
              have HGd := Aside0.mk ((Moved.of_below (below_drew1 (Below.refl wr.heap.size wr)) (fun _ => False)).own HG.out (fun _ _ h => h))
              have HOd := Aside0.mk ((Moved.of_below (below_drew1 (Below.refl wr.heap.size wr)) (fun _ => False)).own HO.out (fun _ _ h => h))
              go_still_tail 12, (by kernel_rfl)
              change wpList _ _ _ _ _ wr.drew
              generalize wr.drew = w2 at r0d f0d Sd HGd HOd ⊢
              go_wp2
              go_roundg (l.length - (i + 1))
              case measure => have := hkq.out; omega
              case rel =>
                have hbz : bb < zf := HV5.out bb rfl
                have hbW : W.heap.size ≤ bb := own_base HO.out bb rfl
                have hm : Moved w2 (w2.setCell ⟨bb, p.at_.toNat, none⟩ (.string p.data)) (fun k => k = bb) := Moved.set (S := fun k => k = bb) rfl _
                refine ⟨i + 1, by have := HL.out; first | rfl | (rw [wrap64_small (by omega) (by omega)]; rfl), by omega, ⟨rfl⟩, ⟨Sd.out.moved hm (fun k hk e => by have := HF.out k hk; omega) (fun k _ e => by omega)⟩, ⟨hm.own HGd.out (fun k hk e => own_apart HGd.out HOd.out (by decide) k hk (by rw [e]; rfl))⟩, ⟨?_⟩⟩
                have hst := (World.ownsRow.stored HOd.out p.at_.toNat (.string p.data)).1
                rw [HTk.out, replay_snoc, show strs ((replay bl (d.log.take i)).set p.at_.toNat p.data) = (strs (replay bl (d.log.take i))).set p.at_.toNat (.string p.data) by simp [strs, List.map_set]]
                exact hst
            · obtain rfl : i = l.length := by omega
              clear hil hi hkq
              have hfull : d.log.take l.length = d.log := by rw [← HLn.out]; exact List.take_length
              have hrb : replay bl d.log = d.blocks := HLI.out.2.2.2.1.symm
              have HO2 : Aside0 (wr.ownsRow W.heap.size 9 1 (.slice A5 64 c5) 64 (strs d.blocks)) := ⟨by have h := HO.out; rw [hfull, hrb] at h; exact h⟩
              have HBk : Aside0 (d.blocks.length * 16 ≤ 140737488355328) := ⟨by rw [HLI.out.2.2.2.2.1]; decide⟩
              have HBk2 : Aside0 (d.blocks.length ≤ 1000000000000000000) := ⟨by rw [HLI.out.2.2.2.2.1]; decide⟩
              clear hfull hrb HO
              go_wp2_with (first
                | (go_at_call 24; refine (Image_calls S.out.1 HBk.out).mono ?_; rintro e wi ⟨v2, rfl, ho, hb⟩; have HI1 := Aside0.mk ho; have S9 := Aside0.mk (S.out.below hb); have HO3 := Aside0.mk ((Moved.of_below hb (fun _ => False)).own HO2.out (fun _ _ h => h)); clear ho hb)
                | (go_at_call 23; refine (Same_true HI1.out HO3.out HBk2.out).mono ?_; rintro e ws ⟨rfl, hb⟩; have S10 := Aside0.mk (S9.out.below hb); clear hb))
              go_ret
              exact ⟨by first | rfl | simp, S10.out.2⟩
end Go.Proofs.Ytgageigcjeaenaa.Disk
