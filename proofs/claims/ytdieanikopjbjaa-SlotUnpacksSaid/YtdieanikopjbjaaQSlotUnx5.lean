/- Written by a program of this session out of the translation: Lean functions with the same answers as the Go functions, and the walks that show it. -/
import Derived.Test.YtdieanikopjbjaaQSlotUnx0
import Derived.Test.YtdieanikopjbjaaQSlotUnx2
import Derived.Test.YtdieanikopjbjaaQSlotUnx4
namespace Go.Proofs.Ytdieanikopjbjaa.QSlotUn
open Go.RowKit Go.Proofs.YtdieanikopjbjaaW.PrintWords Go.Proofs.YtdieanikopjbjaaW.PrintLast Go.Proofs.YtdieanikopjbjaaW.PrintMore
attribute [local go_sem] max2_int min2_int max_two min_two max_three min_three max_four min_four
attribute [local go_sem high] StepStr.leq_str StepStr.gtr_str
set_option linter.unusedVariables false
set_option linter.unusedSimpArgs false

/-! ### num_Get: function 63 -/
mutual
def num_Get.j0 : Nat → ByteArray → Int → Int → Bool → Option (Int × Int)
  | 0, _, _, _, _ => none
  | k + 1, x0, x1, x2, x10 => if x10 = true then (some (0, 1)) else (if x1 < 0 then (some (0, 3)) else (if x1 > (wrap64 ((x0.size : Int) - x2)) then (some (0, 3)) else (num_Get.l0 k x0 x1 0 x2 0)))
def num_Get.l0 : Nat → ByteArray → Int → Int → Int → Int → Option (Int × Int)
  | 0, _, _, _, _, _ => none
  | k + 1, x0, x1, x8, x28, x29 => if x29 < x28 then (if 0 ≤ (wrap64 (x1 + x29)) then (if (wrap64 (x1 + x29)) < (x0.size : Int) then (num_Get.l0 k x0 x1 (Go.bits .or .u64 (IntKind.u64.wrap (x8 * 256)) (IntKind.u64.wrap (bt x0 (wrap64 (x1 + x29))))) x28 (wrap64 (x29 + 1))) else (none)) else (none)) else (some (x8, 0))
end
def num_Get.f (k : Nat) (a0 : ByteArray) (a1 : Int) (a2 : Int) : Option (Int × Int) := if a2 < 1 then (num_Get.j0 k a0 a1 a2 true) else (num_Get.j0 k a0 a1 a2 (decide (a2 > 8)))
theorem num_Get.mono_l : ∀ k, (∀ y0 y1 y2 y3, LeO (num_Get.j0 k y0 y1 y2 y3) (num_Get.j0 (k + 1) y0 y1 y2 y3)) ∧ (∀ y0 y1 y2 y3 y4, LeO (num_Get.l0 k y0 y1 y2 y3 y4) (num_Get.l0 (k + 1) y0 y1 y2 y3 y4))
  | 0 => ⟨fun _ _ _ _ r h => by simp [num_Get.j0] at h, fun _ _ _ _ _ r h => by simp [num_Get.l0] at h⟩
  | k + 1 => by
    obtain ⟨ih0, ih1⟩ := num_Get.mono_l k
    refine ⟨?_, ?_⟩
    · intro y0 y1 y2 y3
      unfold num_Get.j0
      repeat' first
      | (with_reducible exact ih0 _ _ _ _)
      | (with_reducible exact ih1 _ _ _ _ _)
      | (with_reducible exact LeO.refl _)
      | (with_reducible exact LeO.none _)
      | (with_reducible refine LeO.ite ?_ ?_)
      | (with_reducible refine LeO.bind ?_ (fun _ => ?_))
      | exact ih0 _ _ _ _
      | exact ih1 _ _ _ _ _
      | exact LeO.none _
      | refine LeO.ite ?_ ?_
      | refine LeO.bind ?_ (fun _ => ?_)
    · intro y0 y1 y2 y3 y4
      unfold num_Get.l0
      repeat' first
      | (with_reducible exact ih0 _ _ _ _)
      | (with_reducible exact ih1 _ _ _ _ _)
      | (with_reducible exact LeO.refl _)
      | (with_reducible exact LeO.none _)
      | (with_reducible refine LeO.ite ?_ ?_)
      | (with_reducible refine LeO.bind ?_ (fun _ => ?_))
      | exact ih0 _ _ _ _
      | exact ih1 _ _ _ _ _
      | exact LeO.none _
      | refine LeO.ite ?_ ?_
      | refine LeO.bind ?_ (fun _ => ?_)
theorem num_Get.mono : ∀ a0 a1 a2 k, LeO (num_Get.f k a0 a1 a2) (num_Get.f (k + 1) a0 a1 a2) := by
  intro a0 a1 a2 k
  obtain ⟨ih0, ih1⟩ := num_Get.mono_l k
  unfold num_Get.f
  repeat' first
      | (with_reducible exact ih0 _ _ _ _)
      | (with_reducible exact ih1 _ _ _ _ _)
      | (with_reducible exact LeO.refl _)
      | (with_reducible exact LeO.none _)
      | (with_reducible refine LeO.ite ?_ ?_)
      | (with_reducible refine LeO.bind ?_ (fun _ => ?_))
      | exact ih0 _ _ _ _
      | exact ih1 _ _ _ _ _
      | exact LeO.none _
      | refine LeO.ite ?_ ?_
      | refine LeO.bind ?_ (fun _ => ?_)
set_option maxHeartbeats 8000000 in
set_option maxRecDepth 100000 in
theorem num_Get.calls (k : Nat) (a0 : ByteArray) (a1 : Int) (a2 : Int) (r1 : Int) (r2 : Int) (w : World) (h : num_Get.f k a0 a1 a2 = some (r1, r2)) :
    Calls Try.prog 63 #[.string a0, .int .i64 a1, .int .i64 a2] w fun e w' => e = .returned (.tuple #[.int .u64 r1, .int .i64 r2]) ∧ Drawn0 w w' := by
  have H : (if a2 < 1 then (num_Get.j0 k a0 a1 a2 true) else (num_Get.j0 k a0 a1 a2 (decide (a2 > 8)))) = some (r1, r2) := h
  clear h
  have HC4 := Aside0.mk H
  clear H
  go_enter Try.func63, Try.ntmps63
  go_upto_region 1 with (fail)
  go_cut [10] (fun v10 wc => ∃ (kq : Nat) (x10_3 : Bool), v10 = .bool x10_3 ∧ Aside0 (num_Get.j0 kq a0 a1 a2 x10_3 = some (r1, r2)) ∧ Aside0 (kq ≤ k) ∧ Drawn0 w wc)
  case first =>
    have H := HC4.out
    clear HC4
    by_cases c5 : a2 < 1
    · rw [if_pos c5] at H
      have c5b0 : decide (a2 < 1) = true := decide_eq_true c5
      clear c5
      (first | rw [c5b0] | (simp only [i64_w, i32_w]; rw [c5b0]) | skip)
      have H' := Aside0.mk H
      clear H
      go_wp2
      go_meet
      case rel => exact ⟨_, (true), (by first | rfl | (simp; done) | (simp [*]; done)), H', ⟨by first | omega | exact Nat.le_refl _⟩, by repeat (first | exact Drawn0.refl _ | apply Drawn0.step)⟩
    · rw [if_neg c5] at H
      have c5b0 : decide (a2 < 1) = false := decide_eq_false c5
      clear c5
      (first | rw [c5b0] | (simp only [i64_w, i32_w]; rw [c5b0]) | skip)
      have H' := Aside0.mk H
      clear H
      go_wp2
      go_meet
      case rel => exact ⟨_, (decide (a2 > 8)), (by first | rfl | (simp; done) | (simp [*]; done)), H', ⟨by first | omega | exact Nat.le_refl _⟩, by repeat (first | exact Drawn0.refl _ | apply Drawn0.step)⟩
  case rest =>
    clear HC4
    try clear p2
    try clear c5
    try clear c5b0
    obtain ⟨kq, x10_3, rfl, HA, HJ3, ⟨mc3, rfl⟩⟩ := hcut
    cases kq with
    | zero => exact absurd HA.out (by simp [num_Get.j0])
    | succ kj3 =>
      have H := HA.out
      clear HA
      simp only [num_Get.j0] at H
      by_cases c6 : x10_3 = true
      · subst c6
        have H1 : (some (0, 1)) = some (r1, r2) := by rw [if_pos rfl] at H; exact H
        clear H
        have H := H1
        clear H1
        simp only [Option.some.injEq, Prod.mk.injEq] at H
        obtain ⟨rfl, rfl⟩ := H
        go_wp2
        go_ret2
        exact ⟨by first | rfl | (simp; done) | (simp [*]; done), by repeat (first | exact Drawn0.refl _ | apply Drawn0.step)⟩
      · replace c6 := Bool.eq_false_iff.mpr c6
        subst c6
        have H1 : (if a1 < 0 then (some (0, 3)) else (if a1 > (wrap64 ((a0.size : Int) - a2)) then (some (0, 3)) else (num_Get.l0 kj3 a0 a1 0 a2 0))) = some (r1, r2) := by rw [if_neg (show ¬ (false = true) by decide)] at H; exact H
        clear H
        have H := H1
        clear H1
        by_cases c7 : a1 < 0
        · rw [if_pos c7] at H
          have c7b0 : decide (a1 < 0) = true := decide_eq_true c7
          clear c7
          simp only [Option.some.injEq, Prod.mk.injEq] at H
          obtain ⟨rfl, rfl⟩ := H
          go_wp2
          go_ret2
          exact ⟨by first | rfl | (simp; done) | (simp [*]; done), by repeat (first | exact Drawn0.refl _ | apply Drawn0.step)⟩
        · rw [if_neg c7] at H
          have c7b0 : decide (a1 < 0) = false := decide_eq_false c7
          clear c7
          by_cases c8 : a1 > (wrap64 ((a0.size : Int) - a2))
          · rw [if_pos c8] at H
            have c8b0 : decide ((wrap64 ((a0.size : Int) - a2)) < a1) = true := decide_eq_true c8
            clear c8
            simp only [Option.some.injEq, Prod.mk.injEq] at H
            obtain ⟨rfl, rfl⟩ := H
            go_wp2
            go_ret2
            exact ⟨by first | rfl | (simp; done) | (simp [*]; done), by repeat (first | exact Drawn0.refl _ | apply Drawn0.step)⟩
          · rw [if_neg c8] at H
            have c8b0 : decide ((wrap64 ((a0.size : Int) - a2)) < a1) = false := decide_eq_false c8
            clear c8
            have H' := Aside0.mk H
            clear H
            go_wp2
            go_loopg [8, 29] kj3 (fun kq v8 v29 w' => ∃ (x8_2 : Int) (x29_2 : Int), v8 = .int .u64 x8_2 ∧ v29 = .int .i64 x29_2 ∧ Aside0 (num_Get.l0 kq a0 a1 x8_2 a2 x29_2 = some (r1, r2)) ∧ Aside0 (kq ≤ kj3) ∧ Drawn0 w w')
            case atStart => exact ⟨(0), (0), (by first | rfl | (simp; done) | (simp [*]; done)), (by first | rfl | (simp; done) | (simp [*]; done)), H', ⟨Nat.le_refl _⟩, by repeat (first | exact Drawn0.refl _ | apply Drawn0.step)⟩
            case round =>
              clear H'
              try clear p2
              try clear c3
              try clear c5
              try clear c5b0
              try clear c6
              try clear p6
              try clear c7
              try clear c7b0
              try clear c8
              try clear c8b0
              try clear p2
              obtain ⟨x8_2, x29_2, rfl, rfl, HA, HK2, ⟨m2, rfl⟩⟩ := hrel
              cases gk with
              | zero => exact absurd HA.out (by simp [num_Get.l0])
              | succ k2 =>
                have H := HA.out
                clear HA
                simp only [num_Get.l0] at H
                by_cases c9 : x29_2 < a2
                · rw [if_pos c9] at H
                  have c9b0 : decide (x29_2 < a2) = true := decide_eq_true c9
                  clear c9
                  obtain ⟨ji10, hji10⟩ : ∃ j_ : Int, (wrap64 (a1 + x29_2)) = j_ := ⟨_, rfl⟩
                  replace H : (if 0 ≤ (ji10) then (if (ji10) < (a0.size : Int) then (num_Get.l0 k2 a0 a1 (Go.bits .or .u64 (IntKind.u64.wrap (x8_2 * 256)) (IntKind.u64.wrap (bt a0 (ji10)))) a2 (wrap64 (x29_2 + 1))) else (none)) else (none)) = some (r1, r2) := by first | (rw [hji10] at H; exact H) | (simp only [hji10] at H ⊢; exact H)
                  have hji10w : (IntKind.i64.wrap (a1 + x29_2)) = ji10 := (i64_w _).trans hji10
                  by_cases c11 : 0 ≤ (ji10)
                  · rw [if_pos c11] at H
                    have c11b0 : decide (0 ≤ (ji10)) = true := decide_eq_true c11
                    clear c11
                    by_cases c12 : (ji10) < (a0.size : Int)
                    · rw [if_pos c12] at H
                      have c12b0 : decide ((ji10) < (a0.size : Int)) = true := decide_eq_true c12
                      clear c12
                      have H' := Aside0.mk H
                      clear H
                      have p13 : 0 ≤ ((ji10) : Int) := of_decide_eq_true (by first | (with_reducible assumption) | assumption)
                      have q13 : (ji10) < (a0.size : Int) := of_decide_eq_true (by first | (with_reducible assumption) | assumption)
                      have hx13 := bt_at a0 (ji10)
                      replace p13 := eq_true p13
                      replace q13 := eq_true q13
                      go_wp2
                      go_roundg k2
                      case measure => have := HJ3.out; have := HK2.out; omega
                      case rel => exact ⟨(Go.bits .or .u64 (IntKind.u64.wrap (x8_2 * 256)) (IntKind.u64.wrap (bt a0 (ji10)))), (wrap64 (x29_2 + 1)), (by first | rfl | (simp; done) | (simp only [← hji10] <;> (first | rfl | simp)) | (simp [*]; done)), (by first | rfl | (simp; done) | (simp [*]; done)), H', ⟨by have := HJ3.out; have := HK2.out; omega⟩, by repeat (first | exact Drawn0.refl _ | apply Drawn0.step)⟩
                    · rw [if_neg c12] at H
                      exact absurd H (by simp)
                  · rw [if_neg c11] at H
                    exact absurd H (by simp)
                · rw [if_neg c9] at H
                  have c9b0 : decide (x29_2 < a2) = false := decide_eq_false c9
                  clear c9
                  simp only [Option.some.injEq, Prod.mk.injEq] at H
                  obtain ⟨rfl, rfl⟩ := H
                  go_wp2
                  go_ret2
                  exact ⟨by first | rfl | (simp; done) | (simp [*]; done), by repeat (first | exact Drawn0.refl _ | apply Drawn0.step)⟩

/-! ### num_Trim: function 76 -/
def num_Trim.l0 : Nat → ByteArray → Option (ByteArray)
  | 0, _ => none
  | k + 1, x0 => if x0.toList = ([] : List UInt8) then (some x0) else (if 0 ≤ (wrap64 ((x0.size : Int) - 1)) then (if (wrap64 ((x0.size : Int) - 1)) < (x0.size : Int) then (if (bt x0 (wrap64 ((x0.size : Int) - 1))) = 0 then (if (wrap64 ((x0.size : Int) - 1)) ≤ (x0.size : Int) then (num_Trim.l0 k (x0.extract 0 ((wrap64 ((x0.size : Int) - 1)) : Int).toNat)) else (none)) else (some x0)) else (none)) else (none))
def num_Trim.f (k : Nat) (a0 : ByteArray) : Option (ByteArray) := num_Trim.l0 k a0
theorem num_Trim.mono_l : ∀ k, (∀ y0, LeO (num_Trim.l0 k y0) (num_Trim.l0 (k + 1) y0))
  | 0 => fun _ r h => by simp [num_Trim.l0] at h
  | k + 1 => by
    have ih0 := num_Trim.mono_l k
    · intro y0
      unfold num_Trim.l0
      repeat' first
      | (with_reducible exact ih0 _)
      | (with_reducible exact LeO.refl _)
      | (with_reducible exact LeO.none _)
      | (with_reducible refine LeO.ite ?_ ?_)
      | (with_reducible refine LeO.bind ?_ (fun _ => ?_))
      | exact ih0 _
      | exact LeO.none _
      | refine LeO.ite ?_ ?_
      | refine LeO.bind ?_ (fun _ => ?_)
theorem num_Trim.mono : ∀ a0 k, LeO (num_Trim.f k a0) (num_Trim.f (k + 1) a0) := by
  intro a0 k
  have ih0 := num_Trim.mono_l k
  unfold num_Trim.f
  repeat' first
      | (with_reducible exact ih0 _)
      | (with_reducible exact LeO.refl _)
      | (with_reducible exact LeO.none _)
      | (with_reducible refine LeO.ite ?_ ?_)
      | (with_reducible refine LeO.bind ?_ (fun _ => ?_))
      | exact ih0 _
      | exact LeO.none _
      | refine LeO.ite ?_ ?_
      | refine LeO.bind ?_ (fun _ => ?_)
set_option maxHeartbeats 8000000 in
set_option maxRecDepth 100000 in
theorem num_Trim.calls (k : Nat) (a0 : ByteArray) (r : ByteArray) (w : World) (h : num_Trim.f k a0 = some r) :
    Calls Try.prog 76 #[.string a0] w fun e w' => e = .returned (.string r) ∧ Drawn0 w w' := by
  have H : (num_Trim.l0 k a0) = some r := h
  clear h
  have H' := Aside0.mk H
  clear H
  go_enter Try.func76, Try.ntmps76
  go_wp2
  go_loopg [0] k (fun kq v0 w' => ∃ (x0_1 : ByteArray), v0 = .string x0_1 ∧ Aside0 (num_Trim.l0 kq x0_1 = some r) ∧ Aside0 (kq ≤ k) ∧ Drawn0 w w')
  case atStart => exact ⟨(a0), (by first | rfl | (simp; done) | (simp [*]; done)), H', ⟨Nat.le_refl _⟩, by repeat (first | exact Drawn0.refl _ | apply Drawn0.step)⟩
  case round =>
    clear H'
    obtain ⟨x0_1, rfl, HA, HK1, ⟨m1, rfl⟩⟩ := hrel
    cases gk with
    | zero => exact absurd HA.out (by simp [num_Trim.l0])
    | succ k1 =>
      have H := HA.out
      clear HA
      simp only [num_Trim.l0] at H
      by_cases c2 : x0_1.toList = ([] : List UInt8)
      · rw [if_pos c2] at H
        have c2b0 : (x0_1.toList == ([] : List UInt8)) = true := beq_iff_eq.mpr c2
        have c2b1 : (x0_1.toList != ([] : List UInt8)) = false := bne_eq_false_iff_eq.mpr c2
        clear c2
        obtain rfl := Option.some.inj H
        go_wp2
        go_ret
        exact ⟨by first | rfl | (simp; done) | (simp [*]; done), by repeat (first | exact Drawn0.refl _ | apply Drawn0.step)⟩
      · rw [if_neg c2] at H
        have c2b0 : (x0_1.toList == ([] : List UInt8)) = false := beq_eq_false_iff_ne.mpr c2
        have c2b1 : (x0_1.toList != ([] : List UInt8)) = true := bne_iff_ne.mpr c2
        obtain ⟨ji3, hji3⟩ : ∃ j_ : Int, (wrap64 ((x0_1.size : Int) - 1)) = j_ := ⟨_, rfl⟩
        replace H : (if 0 ≤ (ji3) then (if (ji3) < (x0_1.size : Int) then (if (bt x0_1 (ji3)) = 0 then (if (ji3) ≤ (x0_1.size : Int) then (num_Trim.l0 k1 (x0_1.extract 0 ((ji3) : Int).toNat)) else (none)) else (some x0_1)) else (none)) else (none)) = some r := by first | (rw [hji3] at H; exact H) | (simp only [hji3] at H ⊢; exact H)
        have hji3w : (IntKind.i64.wrap ((x0_1.size : Int) - 1)) = ji3 := (i64_w _).trans hji3
        by_cases c4 : 0 ≤ (ji3)
        · rw [if_pos c4] at H
          have c4b0 : decide (0 ≤ (ji3)) = true := decide_eq_true c4
          clear c4
          by_cases c5 : (ji3) < (x0_1.size : Int)
          · rw [if_pos c5] at H
            have c5b0 : decide ((ji3) < (x0_1.size : Int)) = true := decide_eq_true c5
            clear c5
            by_cases c7 : (bt x0_1 (ji3)) = 0
            · rw [if_pos c7] at H
              have c7b0 : ((bt x0_1 (ji3)) == 0) = true := beq_iff_eq.mpr c7
              have c7b1 : ((bt x0_1 (ji3)) != 0) = false := bne_eq_false_iff_eq.mpr c7
              clear c7
              have c8b0 := eq_true (of_decide_eq_true (by first | (with_reducible assumption) | assumption) : 0 ≤ (ji3))
              by_cases c9 : (ji3) ≤ (x0_1.size : Int)
              · rw [if_pos c9] at H
                have c9b0 := eq_true c9
                have c9b1 : decide ((ji3) ≤ (x0_1.size : Int)) = true := decide_eq_true c9
                clear c9
                have H' := Aside0.mk H
                clear H
                have p6 : 0 ≤ ((ji3) : Int) := of_decide_eq_true (by first | (with_reducible assumption) | assumption)
                have q6 : (ji3) < (x0_1.size : Int) := of_decide_eq_true (by first | (with_reducible assumption) | assumption)
                have hx6 := bt_at x0_1 (ji3)
                replace p6 := eq_true p6
                replace q6 := eq_true q6
                go_wp2
                go_roundg k1
                case measure => have := HK1.out; omega
                case rel => exact ⟨(x0_1.extract 0 ((ji3) : Int).toNat), (by first | rfl | (simp; done) | (simp only [← hji3] <;> (first | rfl | simp)) | (simp [*]; done)), H', ⟨by have := HK1.out; omega⟩, by repeat (first | exact Drawn0.refl _ | apply Drawn0.step)⟩
              · rw [if_neg c9] at H
                exact absurd H (by simp)
            · rw [if_neg c7] at H
              have c7b0 : ((bt x0_1 (ji3)) == 0) = false := beq_eq_false_iff_ne.mpr c7
              have c7b1 : ((bt x0_1 (ji3)) != 0) = true := bne_iff_ne.mpr c7
              obtain rfl := Option.some.inj H
              have p6 : 0 ≤ ((ji3) : Int) := of_decide_eq_true (by first | (with_reducible assumption) | assumption)
              have q6 : (ji3) < (x0_1.size : Int) := of_decide_eq_true (by first | (with_reducible assumption) | assumption)
              have hx6 := bt_at x0_1 (ji3)
              replace p6 := eq_true p6
              replace q6 := eq_true q6
              go_wp2
              go_ret
              exact ⟨by first | rfl | (simp; done) | (simp only [← hji3] <;> (first | rfl | simp)) | (simp [*]; done), by repeat (first | exact Drawn0.refl _ | apply Drawn0.step)⟩
          · rw [if_neg c5] at H
            exact absurd H (by simp)
        · rw [if_neg c4] at H
          exact absurd H (by simp)

/-! ### slot_read: function 64 -/
/-- Nothing but block bn, and new blocks. -/
def Keeps (bn : Nat) (w w' : World) : Prop := w.heap.size ≤ w'.heap.size ∧ (∀ k o, k ≠ bn → w.heap[k]? = some o → w'.heap[k]? = some o) ∧ (∀ B w0, Below B w0 w → B ≤ bn → B ≤ w.heap.size → Below B w0 w')
theorem keeps_set (bn j : Nat) (v : Value) (w : World) : Keeps bn w (w.setCell ⟨bn, j, none⟩ v) := by
  refine ⟨?_, fun k o hk h => ?_, fun B w0 hb hB _ => hb.setCell hB _⟩
  · simp [World.setCell]
  · rw [Below.heap_setCell _ _ _ _ hk]; exact h
theorem keeps_alloc {bn : Nat} {w w' : World} (h : Keeps bn w w') (hlt : w.heap.size ≤ w'.heap.size) (o : Obj) : Keeps bn w (w'.alloc o) := by
  refine ⟨Nat.le_trans h.1 (by rw [World.size_alloc]; omega), fun k o' hk hh => blk_alloc (h.2.1 k o' hk hh) _, fun B w0 hb hB hs => (h.2.2 B w0 hb hB hs).alloc (Nat.le_trans hs hlt) _⟩
def kidsNo (v2 : Int) : Nat := (min v2 4).toNat
def NodeSt (B bn : Nat) (nm : ByteArray) (v0 v1 v2 v3 v4 : Int) : Nat → World → Prop
  | 0, w => w.heap[bn]? = some (.cells #[.int .u64 0, .string nm, .slice none 0 0, .int .i64 0, .bool false, .int .u64 0] 76 (0, 0))
  | 1, w => w.heap[bn]? = some (.cells #[.int .u64 0, .string nm, .slice none 0 0, .int .i64 0, .bool (v0 != 0), .int .u64 0] 76 (0, 0))
  | 2, w => w.heap[bn]? = some (.cells #[.int .u64 v1, .string nm, .slice none 0 0, .int .i64 0, .bool (v0 != 0), .int .u64 0] 76 (0, 0))
  | 3, w => ∃ gk, B ≤ gk ∧ gk ≠ bn ∧ w.heap[gk]? = some (.cells (List.replicate (kidsNo v2) (.int .u64 0)).toArray 55 (0, 0)) ∧ w.heap[bn]? = some (.cells #[.int .u64 v1, .string nm, .slice (some ⟨gk, 0, none⟩) (kidsNo v2) (kidsNo v2), .int .i64 0, .bool (v0 != 0), .int .u64 0] 76 (0, 0))
  | 4, w => ∃ gk, B ≤ gk ∧ gk ≠ bn ∧ w.heap[gk]? = some (.cells (List.replicate (kidsNo v2) (.int .u64 0)).toArray 55 (0, 0)) ∧ w.heap[bn]? = some (.cells #[.int .u64 v1, .string nm, .slice (some ⟨gk, 0, none⟩) (kidsNo v2) (kidsNo v2), .int .i64 (wrap64 v3), .bool (v0 != 0), .int .u64 0] 76 (0, 0))
  | _, w => ∃ gk, B ≤ gk ∧ gk ≠ bn ∧ w.heap[gk]? = some (.cells (List.replicate (kidsNo v2) (.int .u64 0)).toArray 55 (0, 0)) ∧ w.heap[bn]? = some (.cells #[.int .u64 v1, .string nm, .slice (some ⟨gk, 0, none⟩) (kidsNo v2) (kidsNo v2), .int .i64 (wrap64 v3), .bool (v0 != 0), .int .u64 v4] 76 (0, 0))
set_option maxRecDepth 100000 in
set_option maxHeartbeats 1000000 in
theorem slot_set1.calls (bn : Nat) (v : Int) (w : World) (x4 : Value) (hc : w.cell? ⟨bn, 4, none⟩ = some x4) (hf : w.frozen? ⟨bn, 4, none⟩ = false) :
    Calls Try.prog 88 #[.pointer (some ⟨bn, 0, none⟩), .int .u64 v] w fun e w' => e = .returned (.tuple #[]) ∧ w' = w.setCell ⟨bn, 4, none⟩ (.bool (v != 0)) := by
  have hu76 := Try.underlying76
  go_enter Try.func88, Try.ntmps88
  go_wp2
  go_end0
  exact ⟨rfl, rfl⟩
set_option maxRecDepth 100000 in
set_option maxHeartbeats 1000000 in
theorem slot_set2.calls (bn : Nat) (v : Int) (w : World) (x4 : Value) (hc : w.cell? ⟨bn, 0, none⟩ = some x4) (hf : w.frozen? ⟨bn, 0, none⟩ = false) :
    Calls Try.prog 90 #[.pointer (some ⟨bn, 0, none⟩), .int .u64 v] w fun e w' => e = .returned (.tuple #[]) ∧ w' = w.setCell ⟨bn, 0, none⟩ (.int .u64 v) := by
  have hu76 := Try.underlying76
  go_enter Try.func90, Try.ntmps90
  go_wp2
  go_end0
  exact ⟨rfl, rfl⟩
set_option maxRecDepth 100000 in
set_option maxHeartbeats 1000000 in
theorem slot_set4.calls (bn : Nat) (v : Int) (w : World) (x4 : Value) (hc : w.cell? ⟨bn, 3, none⟩ = some x4) (hf : w.frozen? ⟨bn, 3, none⟩ = false) :
    Calls Try.prog 94 #[.pointer (some ⟨bn, 0, none⟩), .int .u64 v] w fun e w' => e = .returned (.tuple #[]) ∧ w' = w.setCell ⟨bn, 3, none⟩ (.int .i64 (wrap64 v)) := by
  have hu76 := Try.underlying76
  go_enter Try.func94, Try.ntmps94
  go_wp2
  go_end0
  exact ⟨rfl, rfl⟩
set_option maxRecDepth 100000 in
set_option maxHeartbeats 1000000 in
theorem slot_set5.calls (bn : Nat) (v : Int) (w : World) (x4 : Value) (hc : w.cell? ⟨bn, 5, none⟩ = some x4) (hf : w.frozen? ⟨bn, 5, none⟩ = false) :
    Calls Try.prog 96 #[.pointer (some ⟨bn, 0, none⟩), .int .u64 v] w fun e w' => e = .returned (.tuple #[]) ∧ w' = w.setCell ⟨bn, 5, none⟩ (.int .u64 v) := by
  have hu76 := Try.underlying76
  go_enter Try.func96, Try.ntmps96
  go_wp2
  go_end0
  exact ⟨rfl, rfl⟩
theorem madeU64_0 : madeCells (Value.int IntKind.u64 0).cells 0 = (List.replicate 0 (Value.int .u64 0)).toArray := by kernel_rfl
theorem madeU64_1 : madeCells (Value.int IntKind.u64 0).cells 1 = (List.replicate 1 (Value.int .u64 0)).toArray := by kernel_rfl
theorem madeU64_2 : madeCells (Value.int IntKind.u64 0).cells 2 = (List.replicate 2 (Value.int .u64 0)).toArray := by kernel_rfl
theorem madeU64_3 : madeCells (Value.int IntKind.u64 0).cells 3 = (List.replicate 3 (Value.int .u64 0)).toArray := by kernel_rfl
theorem madeU64_4 : madeCells (Value.int IntKind.u64 0).cells 4 = (List.replicate 4 (Value.int .u64 0)).toArray := by kernel_rfl
set_option maxRecDepth 100000 in
theorem wpList_make_u64 {w : World} {ops : Array Oper} {rest : List Oper} {o : Oper} {a : Act} {Q : Exit → Act → World → Prop} (hgd : o.guard = none) (x : Operand) (ho : o.op = .makeSlice 46 x x) (m : Nat) (hm : m ≤ 4) (hx : a.eval x = .int .u64 (m : Int))
    (h : ∀ w', Aside0 (w' = w.alloc (.cells (List.replicate m (.int .u64 0)).toArray 55 (0, 0))) → wpList Try.prog ops Q rest (a.put o.dst (.slice (some ⟨w.heap.size, 0, none⟩) m m)) w') :
    wpList Try.prog ops Q (o :: rest) a w := by
  refine wpList_plain hgd fun K hK => ?_
  obtain ⟨i, hi⟩ : ∃ i, Try.prog.info? 55 = some i := by
    cases h : Try.prog.info? 55 with
    | none => exact absurd info55 (by rw [h]; simp)
    | some i => exact ⟨i, rfl⟩
  have hi5 := info55
  rw [hi] at hi5
  simp only [Option.map_some, Option.some.injEq, Prod.mk.injEq] at hi5
  obtain ⟨hz, hs, hb⟩ := hi5
  have hrun := run_make (P := Try.prog) w 46 55 i (.int .u64 0) Try.underlying46 hi hz .u64 .u64 m m (by omega) (by omega) (by rw [hb]; omega) (by omega)
  rw [hs] at hrun
  have hmk : madeCells (Value.int IntKind.u64 0).cells (((m : Int)).toNat * 1) = (List.replicate m (.int .u64 0)).toArray := by
    rw [show ((m : Int)).toNat * 1 = m by omega]
    match m, hm with
    | 0, _ => exact madeU64_0
    | 1, _ => exact madeU64_1
    | 2, _ => exact madeU64_2
    | 3, _ => exact madeU64_3
    | 4, _ => exact madeU64_4
  rw [hmk, show ((m : Int)).toNat = m by omega] at hrun
  unfold Oper.wp
  simp only [execOp, ho, hx]
  simp [hrun, Result.andThen]
  exact hK _ _ (h _ ⟨by simp⟩)
def KidsMade (bn m : Nat) (w w' : World) : Prop := w' = (w.alloc (.cells (List.replicate m (.int .u64 0)).toArray 55 (0, 0))).setCell ⟨bn, 2, none⟩ (.slice (some ⟨w.heap.size, 0, none⟩) m m)
set_option maxRecDepth 100000 in
set_option maxHeartbeats 1000000 in
theorem slot_set3.calls (bn : Nat) (v : Int) (h0 : 0 ≤ v) (w : World) (x4 : Value) (hc : w.cell? ⟨bn, 2, none⟩ = some x4) (hf : w.frozen? ⟨bn, 2, none⟩ = false) :
    Calls Try.prog 92 #[.pointer (some ⟨bn, 0, none⟩), .int .u64 v] w fun e w' => e = .returned (.tuple #[]) ∧ KidsMade bn (kidsNo v) w w' := by
  have hu76 := Try.underlying76
  have hlt : bn < w.heap.size := World.block_lt_of_cell? w _ hc
  have hm : (kidsNo v : Int) = min v 4 := by unfold kidsNo; omega
  have hm4 : kidsNo v ≤ 4 := by unfold kidsNo; omega
  obtain ⟨m, em⟩ : ∃ m, m = kidsNo v := ⟨_, rfl⟩
  rw [← em] at hm hm4 ⊢
  have HC := Aside0.mk hc
  have HF := Aside0.mk hf
  have HLt := Aside0.mk hlt
  have HM4 := Aside0.mk hm4
  by_cases hv : v ≤ 4
  · obtain rfl : v = (m : Int) := by omega
    have hv2 : ¬ (4 : Int) < (m : Int) := by omega
    have hv3 : min (m : Int) 4 = (m : Int) := by omega
    have HM := Aside0.mk hm4
    clear hm hm4 em
    go_enter Try.func92, Try.ntmps92
    go_wp2_with (refine wpList_make_u64 rfl (.tmp 6) rfl m HM4.out (by first | rfl | (simp; done)) ?_; intro w3 E3; have c3 : w3.cell? ⟨bn, 2, none⟩ = some x4 := (by rw [E3.out]; exact cell_below (below_alloc (Below.refl _ _) _) HC.out); have f3 : w3.frozen? ⟨bn, 2, none⟩ = false := (by rw [E3.out]; first | (simp; done) | (rw [frozen_alloc]; exact HF.out) | (go_simp; done)))
    go_end0
    exact ⟨rfl, by unfold KidsMade; rw [E3.out]⟩
  · obtain rfl : m = 4 := by omega
    have hv2 : (4 : Int) < v := by omega
    have hv3 : min v 4 = 4 := by omega
    clear hm hm4 em
    go_enter Try.func92, Try.ntmps92
    go_wp2_with (refine wpList_make_u64 rfl (.tmp 6) rfl 4 (by omega) (by first | rfl | (simp; done)) ?_; intro w3 E3; have c3 : w3.cell? ⟨bn, 2, none⟩ = some x4 := (by rw [E3.out]; exact cell_below (below_alloc (Below.refl _ _) _) HC.out); have f3 : w3.frozen? ⟨bn, 2, none⟩ = false := (by rw [E3.out]; first | (simp; done) | (rw [frozen_alloc]; exact HF.out) | (go_simp; done)))
    go_end0
    exact ⟨rfl, by unfold KidsMade; rw [E3.out]⟩
def getsOf (v0 v1 v2 v3 v4 : Int) : List (Nat × Int × Int) := [(1, 1, v0), (2, 2, v1), (12, 1, v2), (13, 4, v3), (17, 6, v4)]
theorem node_keeps {B bn : Nat} {nm : ByteArray} {v0 v1 v2 v3 v4 : Int} {i : Nat} {w w' : World} (h : NodeSt B bn nm v0 v1 v2 v3 v4 i w) (hk : ∀ (k : Nat) (o : Obj), w.heap[k]? = some o → w'.heap[k]? = some o) : NodeSt B bn nm v0 v1 v2 v3 v4 i w' := by
  match i, h with
  | 0, h => exact hk _ _ h
  | 1, h => exact hk _ _ h
  | 2, h => exact hk _ _ h
  | 3, ⟨gk, h1, h2, h3, h4⟩ => exact ⟨gk, h1, h2, hk _ _ h3, hk _ _ h4⟩
  | 4, ⟨gk, h1, h2, h3, h4⟩ => exact ⟨gk, h1, h2, hk _ _ h3, hk _ _ h4⟩
  | _ + 5, ⟨gk, h1, h2, h3, h4⟩ => exact ⟨gk, h1, h2, hk _ _ h3, hk _ _ h4⟩
theorem set_row (B bn : Nat) (nm : ByteArray) (v0 v1 v2 v3 v4 : Int) (h2 : 0 ≤ v2) (i : Nat) (hi : i < 5) :
    ∃ (o : Nat) (v wd : Int) (g s : Nat), (o, wd, v) ∈ getsOf v0 v1 v2 v3 v4 ∧
      slotFields[i * 4]? = some (.int .i64 (o : Int)) ∧ slotFields[i * 4 + 1]? = some (.int .i64 wd) ∧ slotFields[i * 4 + 2]? = some (.func (.func g) #[] #[]) ∧ slotFields[i * 4 + 3]? = some (.func (.func s) #[] #[]) ∧
      (∀ args w, (callFunc s args).run Try.prog w = .ok (.enter s args) w) ∧
      (∀ w, NodeSt B bn nm v0 v1 v2 v3 v4 i w → B ≤ bn → B ≤ w.heap.size → Calls Try.prog s #[.pointer (some ⟨bn, 0, none⟩), .int .u64 v] w fun e w' => e = .returned (.tuple #[]) ∧ NodeSt B bn nm v0 v1 v2 v3 v4 (i + 1) w' ∧ Keeps bn w w') := by
  match i, hi with
  | 0, _ =>
    refine ⟨1, v0, 1, 86, 88, by simp [getsOf], rfl, rfl, rfl, rfl, Go.Proofs.enters_of Try.func88 (by kernel_rfl) rfl, fun w h hB hs => ?_⟩
    refine (slot_set1.calls bn v0 w _ ((blk_cell h 4).trans rfl) (blk_frozen h 4)).mono ?_
    rintro e w' ⟨rfl, rfl⟩
    exact ⟨rfl, blk_put h 4 _ rfl, keeps_set _ _ _ _⟩
  | 1, _ =>
    refine ⟨2, v1, 2, 89, 90, by simp [getsOf], rfl, rfl, rfl, rfl, Go.Proofs.enters_of Try.func90 (by kernel_rfl) rfl, fun w h hB hs => ?_⟩
    refine (slot_set2.calls bn v1 w _ ((blk_cell h 0).trans rfl) (blk_frozen h 0)).mono ?_
    rintro e w' ⟨rfl, rfl⟩
    exact ⟨rfl, blk_put h 0 _ rfl, keeps_set _ _ _ _⟩
  | 2, _ =>
    refine ⟨12, v2, 1, 91, 92, by simp [getsOf], rfl, rfl, rfl, rfl, Go.Proofs.enters_of Try.func92 (by kernel_rfl) rfl, fun w h hB hs => ?_⟩
    refine (slot_set3.calls bn v2 h2 w _ ((blk_cell h 2).trans rfl) (blk_frozen h 2)).mono ?_
    rintro e w' ⟨rfl, hw'⟩
    unfold KidsMade at hw'
    subst hw'
    have hlt := blk_lt h
    refine ⟨rfl, ⟨w.heap.size, hs, by omega, ?_, blk_put (blk_alloc h _) 2 _ rfl⟩, ?_⟩
    · rw [Below.heap_setCell _ _ _ _ (by simp only; omega)]; exact blk_new_at rfl rfl
    · refine ⟨?_, fun k o hk hh => ?_, fun B w0 hb hB _ => (hb.alloc (by omega) _).setCell hB _⟩
      · simp [World.setCell, World.size_alloc]
      · rw [Below.heap_setCell _ _ _ _ hk]; exact blk_alloc hh _
  | 3, _ =>
    refine ⟨13, v3, 4, 93, 94, by simp [getsOf], rfl, rfl, rfl, rfl, Go.Proofs.enters_of Try.func94 (by kernel_rfl) rfl, fun w h hB hs => ?_⟩
    obtain ⟨gk, q1, q2, q3, h⟩ := h
    refine (slot_set4.calls bn v3 w _ ((blk_cell h 3).trans rfl) (blk_frozen h 3)).mono ?_
    rintro e w' ⟨rfl, rfl⟩
    exact ⟨rfl, ⟨gk, q1, q2, by rw [Below.heap_setCell _ _ _ _ q2]; exact q3, blk_put h 3 _ rfl⟩, keeps_set _ _ _ _⟩
  | 4, _ =>
    refine ⟨17, v4, 6, 95, 96, by simp [getsOf], rfl, rfl, rfl, rfl, Go.Proofs.enters_of Try.func96 (by kernel_rfl) rfl, fun w h hB hs => ?_⟩
    obtain ⟨gk, q1, q2, q3, h⟩ := h
    refine (slot_set5.calls bn v4 w _ ((blk_cell h 5).trans rfl) (blk_frozen h 5)).mono ?_
    rintro e w' ⟨rfl, rfl⟩
    exact ⟨rfl, ⟨gk, q1, q2, by rw [Below.heap_setCell _ _ _ _ q2]; exact q3, blk_put h 5 _ rfl⟩, keeps_set _ _ _ _⟩
def kidsRead (k : Nat) (s : ByteArray) : Nat → Nat → Option (List Int)
  | 0, _ => some []
  | d + 1, i => (num_Get.f k s (23 + 6 * (i : Int)) 6).bind fun p => (kidsRead k s d (i + 1)).bind fun l => some (p.1 :: l)
def readAt (h : Int × Int) (v1 : Int) : Int := if h.2 = 0 then IntKind.u64.wrap (v1 + IntKind.u64.wrap (IntKind.u64.wrap h.1 * 65536)) else v1
def slot_read.f (k : Nat) (s : ByteArray) : Option (Int × ByteArray × List Int × Int × Bool × Int) :=
  if s.size = 48 then ((num_Trim.f k (s.extract 4 12)).bind fun nm => (num_Get.f k s 1 1).bind fun g0 => (num_Get.f k s 2 2).bind fun g1 => (num_Get.f k s 12 1).bind fun g2 => (num_Get.f k s 13 4).bind fun g3 => (num_Get.f k s 17 6).bind fun g4 => if 0 ≤ g2.1 then ((kidsRead k s (kidsNo g2.1) 0).bind fun kids => (slot_Hash.f k nm kids).bind fun h => some (readAt h g1.1, nm, kids, wrap64 g3.1, g0.1 != 0, g4.1)) else none) else none
theorem kidsRead_mono (k : Nat) (s : ByteArray) : ∀ (d i : Nat), LeO (kidsRead k s d i) (kidsRead (k + 1) s d i)
  | 0, _ => LeO.refl _
  | d + 1, i => by
    simp only [kidsRead]
    exact LeO.bind (num_Get.mono _ _ _ _) (fun _ => LeO.bind (kidsRead_mono k s d _) (fun _ => LeO.refl _))
theorem slot_read.mono : ∀ a0 k, LeO (slot_read.f k a0) (slot_read.f (k + 1) a0) := by
  intro a0 k
  unfold slot_read.f
  exact LeO.ite (LeO.bind (num_Trim.mono _ _) (fun _ => LeO.bind (num_Get.mono _ _ _ _) (fun _ => LeO.bind (num_Get.mono _ _ _ _) (fun _ => LeO.bind (num_Get.mono _ _ _ _) (fun _ => LeO.bind (num_Get.mono _ _ _ _) (fun _ => LeO.bind (num_Get.mono _ _ _ _) (fun _ => LeO.ite (LeO.bind (kidsRead_mono _ _ _ _) (fun _ => LeO.bind (slot_Hash.mono _ _ _) (fun _ => LeO.refl _))) (LeO.none _)))))))) (LeO.none _)
theorem kids_R {w : World} {gq base : Nat} {kids : List Int} (hb : base ≤ gq) (hl : kids.length ≤ 4) (h : w.heap[gq]? = some (.cells (encs (Value.int .u64) kids).toArray 55 (0, 0))) :
    Kd.R (Kd.int .u64) 55 w base (fun _ => True) (.slice (some ⟨gq, 0, none⟩) kids.length kids.length) kids := by
  refine Kd.R_of_own ⟨by simp [encs], Or.inr ⟨gq, kids.length, _, rfl, hb, h, Nat.le_refl _, by simp [maxLen]; omega, by simp [encs], ?_⟩⟩ (fun _ _ => trivial)
  rw [List.toList_toArray, Nat.mul_one]
  exact List.take_of_length_le (by simp [encs])
theorem node_stored {W : World} {b : Nat} (h : W.heap[b]? = some (.cells #[.int .u64 0, .string ⟨#[]⟩, .slice none 0 0, .int .i64 0, .bool false, .int .u64 0] 76 (0, 0))) (x0 x1 x2 x3 x4 x5 : Value) : ((((((W.setCell ⟨b, 0, none⟩ x0).setCell ⟨b, 1, none⟩ x1).setCell ⟨b, 2, none⟩ x2).setCell ⟨b, 3, none⟩ x3).setCell ⟨b, 4, none⟩ x4).setCell ⟨b, 5, none⟩ x5).heap[b]? = some (.cells #[x0, x1, x2, x3, x4, x5] 76 (0, 0)) := (blk_put (blk_put (blk_put (blk_put (blk_put (blk_put h 0 x0 rfl) 1 x1 rfl) 2 x2 rfl) 3 x3 rfl) 4 x4 rfl) 5 x5 rfl)
theorem node_stored_other {W : World} {b g : Nat} {o : Obj} (hg : g ≠ b) (h : W.heap[g]? = some o) (x0 x1 x2 x3 x4 x5 : Value) : ((((((W.setCell ⟨b, 0, none⟩ x0).setCell ⟨b, 1, none⟩ x1).setCell ⟨b, 2, none⟩ x2).setCell ⟨b, 3, none⟩ x3).setCell ⟨b, 4, none⟩ x4).setCell ⟨b, 5, none⟩ x5).heap[g]? = some o := by
  rw [Below.heap_setCell _ _ _ _ hg, Below.heap_setCell _ _ _ _ hg, Below.heap_setCell _ _ _ _ hg, Below.heap_setCell _ _ _ _ hg, Below.heap_setCell _ _ _ _ hg, Below.heap_setCell _ _ _ _ hg]
  exact h
theorem node_stored_below {W w0 : World} {B b : Nat} (hB : B ≤ b) (h : Below B w0 W) (x0 x1 x2 x3 x4 x5 : Value) : Below B w0 ((((((W.setCell ⟨b, 0, none⟩ x0).setCell ⟨b, 1, none⟩ x1).setCell ⟨b, 2, none⟩ x2).setCell ⟨b, 3, none⟩ x3).setCell ⟨b, 4, none⟩ x4).setCell ⟨b, 5, none⟩ x5) :=
  ((((((h.setCell hB x0).setCell hB x1).setCell hB x2).setCell hB x3).setCell hB x4).setCell hB x5)
theorem nbelow_far {W w0 : World} {B b j : Nat} (hB : B ≤ b) (h : Below B w0 W) (x : Value) : Below B w0 (W.setCell ⟨b, j, none⟩ x) := h.setCell hB x
theorem nblk_far {W : World} {b g j : Nat} {o : Obj} (hg : g ≠ b) (h : W.heap[g]? = some o) (x : Value) : (W.setCell ⟨b, j, none⟩ x).heap[g]? = some o := by
  rw [Below.heap_setCell _ _ _ _ hg]
  exact h
set_option maxHeartbeats 4000000 in
set_option maxRecDepth 100000 in
theorem slot_read.calls (k : Nat) (a0 : ByteArray) (r1 : Int) (r2 : ByteArray) (r3 : List Int) (r4 : Int) (r5 : Bool) (r6 : Int) (w : World) (h : slot_read.f k a0 = some (r1, r2, r3, r4, r5, r6)) :
    Calls Try.prog 64 #[.string a0] w fun e w' => ∃ v2_ : Value, e = .returned (.agg #[.int .u64 r1, .string r2, v2_, .int .i64 r4, .bool r5, .int .u64 r6]) ∧ Kd.R (Kd.int .u64) 55 w' w.heap.size (fun _ => True) v2_ r3 ∧ Below w.heap.size w w' := by
  have hu76 := Try.underlying76
  have hu115 := Try.underlying115
  have hu120 := Try.underlying120
  unfold slot_read.f at h
  by_cases hs : a0.size = 48
  case neg => rw [if_neg hs] at h; cases h
  rw [if_pos hs] at h
  replace h := Option.bind_eq_some_iff.mp h
  obtain ⟨nm, htrim, h⟩ := h
  replace h := Option.bind_eq_some_iff.mp h
  obtain ⟨⟨v0, e0⟩, hg0, h⟩ := h
  replace h := Option.bind_eq_some_iff.mp h
  obtain ⟨⟨v1, e1⟩, hg1, h⟩ := h
  replace h := Option.bind_eq_some_iff.mp h
  obtain ⟨⟨v2, e2⟩, hg2, h⟩ := h
  replace h := Option.bind_eq_some_iff.mp h
  obtain ⟨⟨v3, e3⟩, hg3, h⟩ := h
  replace h := Option.bind_eq_some_iff.mp h
  obtain ⟨⟨v4, e4⟩, hg4, h⟩ := h
  simp only at h
  by_cases h20 : 0 ≤ v2
  case neg => rw [if_neg h20] at h; cases h
  rw [if_pos h20] at h
  replace h := Option.bind_eq_some_iff.mp h
  obtain ⟨kids, hkids, h⟩ := h
  replace h := Option.bind_eq_some_iff.mp h
  obtain ⟨⟨ha, he⟩, hhash, h⟩ := h
  simp only [Option.some.injEq, Prod.mk.injEq] at h
  obtain ⟨rfl, rfl, rfl, rfl, rfl, rfl⟩ := h
  have HTrim := Aside0.mk htrim
  have HGets : Aside0 (∀ q ∈ getsOf v0 v1 v2 v3 v4, ∃ e, num_Get.f k a0 (q.1 : Int) q.2.1 = some (q.2.2, e)) := ⟨by
    intro q hq
    simp only [getsOf, List.mem_cons, List.not_mem_nil, or_false] at hq
    rcases hq with rfl | rfl | rfl | rfl | rfl
    · exact ⟨_, hg0⟩
    · exact ⟨_, hg1⟩
    · exact ⟨_, hg2⟩
    · exact ⟨_, hg3⟩
    · exact ⟨_, hg4⟩⟩
  have HKids := Aside0.mk hkids
  have HHash := Aside0.mk hhash
  have H20 := Aside0.mk h20
  have HB := Aside0.mk (Below.refl w.heap.size w)
  have hs12 : (12 : Int) ≤ (a0.size : Int) := by omega
  have hs4 : (4 : Int) ≤ (12 : Int) := by omega
  clear hs hg0 hg1 hg2 hg3 hg4 htrim hkids hhash h20
  go_enter Try.func64, Try.ntmps64
  go_wp2_with (first | (go_at_call 76; refine (num_Trim.calls k (a0.extract 4 12) nm _ HTrim.out).mono ?_; rintro e w2 ⟨rfl, ⟨nd, rfl⟩⟩) | (go_at_call 75; refine (slot_fields.calls _).mono ?_; rintro e w5 ⟨rfl, rfl⟩))
  go_loopg [19] 5 (fun kq v19 wr => ∃ (i : Nat), v19 = .int .i64 (i : Int) ∧ i ≤ 5 ∧ Aside0 (kq = 5 - i) ∧ Aside0 (wr.heap[w.heap.size]? = some (.cells #[.int .u64 0, .string ⟨#[]⟩, .slice none 0 0, .int .i64 0, .bool false, .int .u64 0] 76 (0, 0))) ∧ Aside0 (wr.heap[w.heap.size + 1 + 1]? = some (.cells slotFields 120 (0, 0))) ∧ Aside0 (NodeSt w.heap.size (w.heap.size + 1) nm v0 v1 v2 v3 v4 i wr) ∧ Aside0 (Below w.heap.size w wr))
  case atStart => exact ⟨0, rfl, by omega, ⟨rfl⟩, ⟨blk_alloc (blk_alloc (blk_drewN (blk_new_at rfl rfl) _) _) _⟩, ⟨blk_new_at (by simp only [World.size_alloc, World.drewN]) rfl⟩, ⟨blk_alloc (blk_new_at (by simp only [World.size_alloc, World.drewN]) rfl) _⟩, ⟨below_alloc (below_alloc (pw_below_drewN (below_alloc HB.out _) _) _) _⟩⟩
  case round =>
    clear HB
    obtain ⟨i, rfl, hi5, hkq, BR, BF, NS, HB⟩ := hrel
    by_cases hi : i < 5
    · obtain ⟨o, v, wd, g, sf, hmem, q0, q1, q2, q3, henter, hset⟩ := set_row w.heap.size (w.heap.size + 1) nm v0 v1 v2 v3 v4 H20.out i hi
      obtain ⟨e, hget⟩ := HGets.out _ hmem
      have HGet := Aside0.mk hget
      have HSet := Aside0.mk hset
      clear hget hset hmem
      have e0 := (blk_cell BF.out (i * 4)).trans q0
      have e1 := (blk_cell BF.out (i * 4 + 1)).trans q1
      have e2 := (blk_cell BF.out (i * 4 + 2)).trans q2
      have e3 := (blk_cell BF.out (i * 4 + 3)).trans q3
      clear q0 q1 q2 q3
      have hi0 : 0 ≤ (i : Int) := by omega
      have hiz : (i : Int) < 5 := by omega
      have hd5 : decide ((i : Int) < 5) = true := decide_eq_true hiz
      have HBs := Aside0.mk (show w.heap.size + 1 + 1 < wr.heap.size from blk_lt BF.out)
      go_wp2_with (first | (go_at_call 63; refine (num_Get.calls k a0 (o : Int) wd v e _ HGet.out).mono ?_; rintro e w6 ⟨rfl, ⟨nd, rfl⟩⟩) | (go_at_fn sf; refine (HSet.out _ (node_keeps NS.out fun k o h => by (with_reducible repeat (first | refine blk_drewN ?_ _ | refine blk_drew ?_ | refine blk_alloc ?_ _)); exact h) (by omega) (by have := HBs.out; simp only [World.size_alloc, World.drewN]; omega)).mono ?_; rintro e w7 ⟨rfl, hns, hkp⟩))
      go_roundg (5 - (i + 1))
      case measure => have := hkq.out; omega
      case rel => exact ⟨i + 1, by first | rfl | (simp; done), by omega, ⟨rfl⟩, ⟨hkp.2.1 _ _ (by omega) (blk_drewN (blk_alloc BR.out _) _)⟩, ⟨hkp.2.1 _ _ (by omega) (blk_drewN (blk_alloc BF.out _) _)⟩, ⟨hns⟩, ⟨hkp.2.2 _ _ (pw_below_drewN (below_alloc HB.out _) _) (by omega) (by have := HBs.out; simp only [World.size_alloc, World.drewN]; omega)⟩⟩
    · obtain rfl : i = 5 := by omega
      clear hi hi5
      obtain ⟨gq, hgB, hgn, hgk, hbn⟩ := NS.out
      have hm4 : kidsNo v2 ≤ 4 := by unfold kidsNo; omega
      have HKids2 := HKids.out
      obtain ⟨m, em⟩ : ∃ m, m = kidsNo v2 := ⟨_, rfl⟩
      rw [← em] at hgk hbn hm4 HKids2
      have HM4 := Aside0.mk hm4
      have BN := Aside0.mk hbn
      have HgB := Aside0.mk hgB
      have Hgn := Aside0.mk hgn
      have BK : Aside0 (wr.heap[gq]? = some (.cells (encs (Value.int .u64) (([] : List Int) ++ List.replicate (m - 0) 0)).toArray 55 (0, 0))) := ⟨by rw [hgk]; simp [encs]⟩
      have HK0 : Aside0 (∃ rest, kidsRead k a0 (m - 0) 0 = some rest ∧ kids = [] ++ rest) := ⟨⟨kids, HKids2, rfl⟩⟩
      have b2 := (blk_cell BN.out 2).trans rfl
      clear hgk hbn hm4 hgB hgn HKids2 em NS BF
      go_wp2
      go_loopg [40] 4 (fun kq v40 ws => ∃ (j : Nat) (got : List Int), v40 = .int .i64 (j : Int) ∧ j ≤ m ∧ Aside0 (kq = 4 - j) ∧ Aside0 (got.length = j) ∧ Aside0 (∃ rest, kidsRead k a0 (m - j) j = some rest ∧ kids = got ++ rest) ∧ Aside0 (ws.heap[w.heap.size]? = some (.cells #[.int .u64 0, .string ⟨#[]⟩, .slice none 0 0, .int .i64 0, .bool false, .int .u64 0] 76 (0, 0))) ∧ Aside0 (ws.heap[w.heap.size + 1]? = some (.cells #[.int .u64 v1, .string nm, .slice (some ⟨gq, 0, none⟩) m m, .int .i64 (wrap64 v3), .bool (v0 != 0), .int .u64 v4] 76 (0, 0))) ∧ Aside0 (ws.heap[gq]? = some (.cells (encs (Value.int .u64) (got ++ List.replicate (m - j) 0)).toArray 55 (0, 0))) ∧ Aside0 (Below w.heap.size w ws))
      case atStart => exact ⟨0, [], rfl, by omega, ⟨rfl⟩, ⟨rfl⟩, HK0, BR, BN, BK, HB⟩
      case round =>
        clear HK0 BR BN BK HB b2
        obtain ⟨j, got, rfl, hjm, hkq, HGot, HK, BR, BN, BK, HB⟩ := hrel
        by_cases hj : j < m
        · have hj4 : j < 4 := by have := HM4.out; omega
          obtain ⟨rest, hr, hkr⟩ := HK.out
          rw [show m - j = (m - (j + 1)) + 1 by omega] at hr
          simp only [kidsRead] at hr
          replace hr := Option.bind_eq_some_iff.mp hr
          obtain ⟨⟨v, e⟩, hget, hr⟩ := hr
          replace hr := Option.bind_eq_some_iff.mp hr
          obtain ⟨l, hl, hr⟩ := hr
          simp only [Option.some.injEq] at hr
          subst hr
          have HGet := Aside0.mk hget
          have HK' : Aside0 (∃ rest, kidsRead k a0 (m - (j + 1)) (j + 1) = some rest ∧ kids = (got ++ [v]) ++ rest) := ⟨⟨l, hl, by rw [hkr, List.append_assoc]; rfl⟩⟩
          have hset : (encs (Value.int .u64) (got ++ List.replicate (m - j) 0)).toArray.setIfInBounds j (.int .u64 v) = (encs (Value.int .u64) ((got ++ [v]) ++ List.replicate (m - (j + 1)) 0)).toArray := by
            rw [show m - j = (m - (j + 1)) + 1 by omega, List.replicate_succ]
            have hgl := HGot.out
            subst hgl
            simp [encs, List.append_assoc]
          have HSet := Aside0.mk hset
          have hcell : (encs (Value.int .u64) (got ++ List.replicate (m - j) 0)).toArray[j]? = some (.int .u64 0) := by
            rw [show m - j = (m - (j + 1)) + 1 by omega, List.replicate_succ]
            have hgl := HGot.out
            subst hgl
            simp [encs]
          have cj := (blk_cell BK.out j).trans hcell
          have fj := blk_frozen BK.out j
          have b2 := (blk_cell BN.out 2).trans rfl
          have hj0 : 0 ≤ (j : Int) := by omega
          have hjz : (j : Int) < (m : Int) := by omega
          have hj4z : (j : Int) < 4 := by omega
          have HJ4 := Aside0.mk hj4
          clear hset hcell hget hl hkr HK hj4
          go_wp2_with (first | (go_at_call 63; refine (num_Get.calls k a0 (23 + 6 * (j : Int)) 6 v e _ HGet.out).mono ?_; rintro e w6 ⟨rfl, ⟨nd, rfl⟩⟩))
          go_roundg (4 - (j + 1))
          case measure => have := hkq.out; have := HJ4.out; omega
          case rel =>
            refine ⟨j + 1, got ++ [v], by first | rfl | (simp; done), by omega, ⟨rfl⟩, ⟨by rw [List.length_append, HGot.out]; rfl⟩, HK', ⟨?_⟩, ⟨?_⟩, ⟨blk_put (blk_drewN BK.out _) j _ HSet.out⟩, ⟨(pw_below_drewN HB.out _).setCell HgB.out _⟩⟩
            · rw [Below.heap_setCell _ _ _ _ (blk_ne BR.out BK.out (by decide))]; exact BR.out
            · rw [Below.heap_setCell _ _ _ _ (blk_ne BN.out BK.out (by decide))]; exact BN.out
        · obtain rfl : j = m := by omega
          obtain ⟨rest, hr, hkr⟩ := HK.out
          rw [Nat.sub_self] at hr
          simp only [kidsRead, Option.some.injEq] at hr
          subst hr
          rw [List.append_nil] at hkr
          subst hkr
          obtain rfl : j = kids.length := HGot.out.symm
          rw [Nat.sub_self, List.replicate_zero, List.append_nil] at BK
          have hC : Kd.C (Kd.int .u64) wr (some ⟨gq, 0, none⟩) kids.length kids := by
            refine Kd.C_of_reads (d := (0 : Int)) ⟨rfl, by have := HM4.out; omega, fun _ => ⟨_, rfl, fun j hj => ?_⟩⟩
            have ha : (⟨gq, 0, none⟩ : Addr).add j = ⟨gq, 0 + j, none⟩ := by unfold Addr.add; split <;> simp_all
            rw [ha, Nat.zero_add]
            exact (blk_cell BK.out j).trans (by simpa using encs_get (enc := Value.int .u64) (d := (0 : Int)) kids j hj)
          have HC := Aside0.mk hC
          clear hC HK hjm hj
          have b1 := (blk_cell BN.out 1).trans rfl
          have b2 := (blk_cell BN.out 2).trans rfl
          by_cases he0 : he = 0
          · have hb1 : (he == 0) = true := beq_iff_eq.2 he0
            have hb2 : decide (he = 0) = true := decide_eq_true he0
            have HRA : Aside0 (readAt (ha, he) v1 = IntKind.u64.wrap (v1 + IntKind.u64.wrap (IntKind.u64.wrap ha * 65536))) := ⟨by unfold readAt; rw [if_pos he0]⟩
            by_cases hz : kids.length = 0
            · have hz1 : ((kids.length : Int) == 0) = true := beq_iff_eq.2 (by omega)
              have hz2 : decide ((kids.length : Int) = 0) = true := decide_eq_true (by omega)
              have HZ := Aside0.mk hz
              have HE0 := Aside0.mk he0
              clear hz he0
              go_wp2_with (first | (go_at_call 30; refine (slot_Hash.calls k nm (some ⟨gq, 0, none⟩) kids.length kids ha he _ HC.out (Nat.le_refl _) HHash.out).mono ?_; rintro e w8 ⟨rfl, hb8⟩; have BR8 := Aside0.mk (blk_below BR.out hb8); have BN8 := Aside0.mk (blk_below BN.out hb8); have BK8 := Aside0.mk (blk_below BK.out hb8); have HB8 := Aside0.mk (below_step HB.out hb8); clear hb8 b1 b2; have b0 := (blk_cell BN8.out 0).trans rfl; have b1 := (blk_cell BN8.out 1).trans rfl; have b2 := (blk_cell BN8.out 2).trans rfl; have b3 := (blk_cell BN8.out 3).trans rfl; have b4 := (blk_cell BN8.out 4).trans rfl; have b5 := (blk_cell BN8.out 5).trans rfl; have r0 := (blk_cell BR8.out 0).trans rfl; have r1 := (blk_cell BR8.out 1).trans rfl; have r2 := (blk_cell BR8.out 2).trans rfl; have r3 := (blk_cell BR8.out 3).trans rfl; have r4 := (blk_cell BR8.out 4).trans rfl; have r5 := (blk_cell BR8.out 5).trans rfl; have fb0 := blk_frozen BN8.out 0; have fb1 := blk_frozen BN8.out 1; have fb2 := blk_frozen BN8.out 2; have fb3 := blk_frozen BN8.out 3; have fb4 := blk_frozen BN8.out 4; have fb5 := blk_frozen BN8.out 5; have fr0 := blk_frozen BR8.out 0; have fr1 := blk_frozen BR8.out 1; have fr2 := blk_frozen BR8.out 2; have fr3 := blk_frozen BR8.out 3; have fr4 := blk_frozen BR8.out 4; have fr5 := blk_frozen BR8.out 5))
              refine bodyPost_ret (results_cell_row rfl _ _ w.heap.size 76 #[(.int .u64 (IntKind.u64.wrap (v1 + IntKind.u64.wrap (IntKind.u64.wrap ha * 65536)))), .string nm, (.slice none 0 0), .int .i64 (wrap64 v3), .bool (v0 != 0), .int .u64 v4] (0, 0) _ rfl (node_stored (nblk_far (b := w.heap.size + 1) (j := 2) (by omega) (nblk_far (b := w.heap.size + 1) (j := 0) (by omega) BR8.out (.int .u64 (IntKind.u64.wrap (v1 + IntKind.u64.wrap (IntKind.u64.wrap ha * 65536))))) (.slice none 0 0)) (.int .u64 (IntKind.u64.wrap (v1 + IntKind.u64.wrap (IntKind.u64.wrap ha * 65536)))) (.string nm) (.slice none 0 0) (.int .i64 (wrap64 v3)) (.bool (v0 != 0)) (.int .u64 v4)) hu76 rfl (by kernel_rfl)) rfl ?_
              exact ⟨_, by rw [HRA.out], by rw [List.eq_nil_of_length_eq_zero HZ.out]; exact Kd.R_nil _ _ _ _ _, node_stored_below (Nat.le_refl _) (nbelow_far (b := w.heap.size + 1) (j := 2) (by omega) (nbelow_far (b := w.heap.size + 1) (j := 0) (by omega) HB8.out (.int .u64 (IntKind.u64.wrap (v1 + IntKind.u64.wrap (IntKind.u64.wrap ha * 65536))))) (.slice none 0 0)) (.int .u64 (IntKind.u64.wrap (v1 + IntKind.u64.wrap (IntKind.u64.wrap ha * 65536)))) (.string nm) (.slice none 0 0) (.int .i64 (wrap64 v3)) (.bool (v0 != 0)) (.int .u64 v4)⟩
            · have hz1 : ((kids.length : Int) == 0) = false := beq_eq_false_iff_ne.2 (by omega)
              have hz2 : decide ((kids.length : Int) = 0) = false := decide_eq_false (by omega)
              have HZ := Aside0.mk hz
              have HE0 := Aside0.mk he0
              clear hz he0
              go_wp2_with (first | (go_at_call 30; refine (slot_Hash.calls k nm (some ⟨gq, 0, none⟩) kids.length kids ha he _ HC.out (Nat.le_refl _) HHash.out).mono ?_; rintro e w8 ⟨rfl, hb8⟩; have BR8 := Aside0.mk (blk_below BR.out hb8); have BN8 := Aside0.mk (blk_below BN.out hb8); have BK8 := Aside0.mk (blk_below BK.out hb8); have HB8 := Aside0.mk (below_step HB.out hb8); clear hb8 b1 b2; have b0 := (blk_cell BN8.out 0).trans rfl; have b1 := (blk_cell BN8.out 1).trans rfl; have b2 := (blk_cell BN8.out 2).trans rfl; have b3 := (blk_cell BN8.out 3).trans rfl; have b4 := (blk_cell BN8.out 4).trans rfl; have b5 := (blk_cell BN8.out 5).trans rfl; have r0 := (blk_cell BR8.out 0).trans rfl; have r1 := (blk_cell BR8.out 1).trans rfl; have r2 := (blk_cell BR8.out 2).trans rfl; have r3 := (blk_cell BR8.out 3).trans rfl; have r4 := (blk_cell BR8.out 4).trans rfl; have r5 := (blk_cell BR8.out 5).trans rfl; have fb0 := blk_frozen BN8.out 0; have fb1 := blk_frozen BN8.out 1; have fb2 := blk_frozen BN8.out 2; have fb3 := blk_frozen BN8.out 3; have fb4 := blk_frozen BN8.out 4; have fb5 := blk_frozen BN8.out 5; have fr0 := blk_frozen BR8.out 0; have fr1 := blk_frozen BR8.out 1; have fr2 := blk_frozen BR8.out 2; have fr3 := blk_frozen BR8.out 3; have fr4 := blk_frozen BR8.out 4; have fr5 := blk_frozen BR8.out 5))
              refine bodyPost_ret (results_cell_row rfl _ _ w.heap.size 76 #[(.int .u64 (IntKind.u64.wrap (v1 + IntKind.u64.wrap (IntKind.u64.wrap ha * 65536)))), .string nm, (.slice (some ⟨gq, 0, none⟩) kids.length kids.length), .int .i64 (wrap64 v3), .bool (v0 != 0), .int .u64 v4] (0, 0) _ rfl (node_stored (nblk_far (b := w.heap.size + 1) (j := 0) (by omega) BR8.out (.int .u64 (IntKind.u64.wrap (v1 + IntKind.u64.wrap (IntKind.u64.wrap ha * 65536))))) (.int .u64 (IntKind.u64.wrap (v1 + IntKind.u64.wrap (IntKind.u64.wrap ha * 65536)))) (.string nm) (.slice (some ⟨gq, 0, none⟩) kids.length kids.length) (.int .i64 (wrap64 v3)) (.bool (v0 != 0)) (.int .u64 v4)) hu76 rfl (by kernel_rfl)) rfl ?_
              exact ⟨_, by rw [HRA.out], kids_R HgB.out HM4.out (node_stored_other (blk_ne BK8.out BR8.out (by decide)) (nblk_far (b := w.heap.size + 1) (j := 0) Hgn.out BK8.out (.int .u64 (IntKind.u64.wrap (v1 + IntKind.u64.wrap (IntKind.u64.wrap ha * 65536))))) (.int .u64 (IntKind.u64.wrap (v1 + IntKind.u64.wrap (IntKind.u64.wrap ha * 65536)))) (.string nm) (.slice (some ⟨gq, 0, none⟩) kids.length kids.length) (.int .i64 (wrap64 v3)) (.bool (v0 != 0)) (.int .u64 v4)), node_stored_below (Nat.le_refl _) (nbelow_far (b := w.heap.size + 1) (j := 0) (by omega) HB8.out (.int .u64 (IntKind.u64.wrap (v1 + IntKind.u64.wrap (IntKind.u64.wrap ha * 65536))))) (.int .u64 (IntKind.u64.wrap (v1 + IntKind.u64.wrap (IntKind.u64.wrap ha * 65536)))) (.string nm) (.slice (some ⟨gq, 0, none⟩) kids.length kids.length) (.int .i64 (wrap64 v3)) (.bool (v0 != 0)) (.int .u64 v4)⟩
          · have hb1 : (he == 0) = false := beq_eq_false_iff_ne.2 he0
            have hb2 : decide (he = 0) = false := decide_eq_false he0
            have HRA : Aside0 (readAt (ha, he) v1 = v1) := ⟨by unfold readAt; rw [if_neg he0]⟩
            by_cases hz : kids.length = 0
            · have hz1 : ((kids.length : Int) == 0) = true := beq_iff_eq.2 (by omega)
              have hz2 : decide ((kids.length : Int) = 0) = true := decide_eq_true (by omega)
              have HZ := Aside0.mk hz
              have HE0 := Aside0.mk he0
              clear hz he0
              go_wp2_with (first | (go_at_call 30; refine (slot_Hash.calls k nm (some ⟨gq, 0, none⟩) kids.length kids ha he _ HC.out (Nat.le_refl _) HHash.out).mono ?_; rintro e w8 ⟨rfl, hb8⟩; have BR8 := Aside0.mk (blk_below BR.out hb8); have BN8 := Aside0.mk (blk_below BN.out hb8); have BK8 := Aside0.mk (blk_below BK.out hb8); have HB8 := Aside0.mk (below_step HB.out hb8); clear hb8 b1 b2; have b0 := (blk_cell BN8.out 0).trans rfl; have b1 := (blk_cell BN8.out 1).trans rfl; have b2 := (blk_cell BN8.out 2).trans rfl; have b3 := (blk_cell BN8.out 3).trans rfl; have b4 := (blk_cell BN8.out 4).trans rfl; have b5 := (blk_cell BN8.out 5).trans rfl; have r0 := (blk_cell BR8.out 0).trans rfl; have r1 := (blk_cell BR8.out 1).trans rfl; have r2 := (blk_cell BR8.out 2).trans rfl; have r3 := (blk_cell BR8.out 3).trans rfl; have r4 := (blk_cell BR8.out 4).trans rfl; have r5 := (blk_cell BR8.out 5).trans rfl; have fb0 := blk_frozen BN8.out 0; have fb1 := blk_frozen BN8.out 1; have fb2 := blk_frozen BN8.out 2; have fb3 := blk_frozen BN8.out 3; have fb4 := blk_frozen BN8.out 4; have fb5 := blk_frozen BN8.out 5; have fr0 := blk_frozen BR8.out 0; have fr1 := blk_frozen BR8.out 1; have fr2 := blk_frozen BR8.out 2; have fr3 := blk_frozen BR8.out 3; have fr4 := blk_frozen BR8.out 4; have fr5 := blk_frozen BR8.out 5))
              refine bodyPost_ret (results_cell_row rfl _ _ w.heap.size 76 #[(.int .u64 v1), .string nm, (.slice none 0 0), .int .i64 (wrap64 v3), .bool (v0 != 0), .int .u64 v4] (0, 0) _ rfl (node_stored (nblk_far (b := w.heap.size + 1) (j := 2) (by omega) BR8.out (.slice none 0 0)) (.int .u64 v1) (.string nm) (.slice none 0 0) (.int .i64 (wrap64 v3)) (.bool (v0 != 0)) (.int .u64 v4)) hu76 rfl (by kernel_rfl)) rfl ?_
              exact ⟨_, by rw [HRA.out], by rw [List.eq_nil_of_length_eq_zero HZ.out]; exact Kd.R_nil _ _ _ _ _, node_stored_below (Nat.le_refl _) (nbelow_far (b := w.heap.size + 1) (j := 2) (by omega) HB8.out (.slice none 0 0)) (.int .u64 v1) (.string nm) (.slice none 0 0) (.int .i64 (wrap64 v3)) (.bool (v0 != 0)) (.int .u64 v4)⟩
            · have hz1 : ((kids.length : Int) == 0) = false := beq_eq_false_iff_ne.2 (by omega)
              have hz2 : decide ((kids.length : Int) = 0) = false := decide_eq_false (by omega)
              have HZ := Aside0.mk hz
              have HE0 := Aside0.mk he0
              clear hz he0
              go_wp2_with (first | (go_at_call 30; refine (slot_Hash.calls k nm (some ⟨gq, 0, none⟩) kids.length kids ha he _ HC.out (Nat.le_refl _) HHash.out).mono ?_; rintro e w8 ⟨rfl, hb8⟩; have BR8 := Aside0.mk (blk_below BR.out hb8); have BN8 := Aside0.mk (blk_below BN.out hb8); have BK8 := Aside0.mk (blk_below BK.out hb8); have HB8 := Aside0.mk (below_step HB.out hb8); clear hb8 b1 b2; have b0 := (blk_cell BN8.out 0).trans rfl; have b1 := (blk_cell BN8.out 1).trans rfl; have b2 := (blk_cell BN8.out 2).trans rfl; have b3 := (blk_cell BN8.out 3).trans rfl; have b4 := (blk_cell BN8.out 4).trans rfl; have b5 := (blk_cell BN8.out 5).trans rfl; have r0 := (blk_cell BR8.out 0).trans rfl; have r1 := (blk_cell BR8.out 1).trans rfl; have r2 := (blk_cell BR8.out 2).trans rfl; have r3 := (blk_cell BR8.out 3).trans rfl; have r4 := (blk_cell BR8.out 4).trans rfl; have r5 := (blk_cell BR8.out 5).trans rfl; have fb0 := blk_frozen BN8.out 0; have fb1 := blk_frozen BN8.out 1; have fb2 := blk_frozen BN8.out 2; have fb3 := blk_frozen BN8.out 3; have fb4 := blk_frozen BN8.out 4; have fb5 := blk_frozen BN8.out 5; have fr0 := blk_frozen BR8.out 0; have fr1 := blk_frozen BR8.out 1; have fr2 := blk_frozen BR8.out 2; have fr3 := blk_frozen BR8.out 3; have fr4 := blk_frozen BR8.out 4; have fr5 := blk_frozen BR8.out 5))
              refine bodyPost_ret (results_cell_row rfl _ _ w.heap.size 76 #[(.int .u64 v1), .string nm, (.slice (some ⟨gq, 0, none⟩) kids.length kids.length), .int .i64 (wrap64 v3), .bool (v0 != 0), .int .u64 v4] (0, 0) _ rfl (node_stored BR8.out (.int .u64 v1) (.string nm) (.slice (some ⟨gq, 0, none⟩) kids.length kids.length) (.int .i64 (wrap64 v3)) (.bool (v0 != 0)) (.int .u64 v4)) hu76 rfl (by kernel_rfl)) rfl ?_
              exact ⟨_, by rw [HRA.out], kids_R HgB.out HM4.out (node_stored_other (blk_ne BK8.out BR8.out (by decide)) BK8.out (.int .u64 v1) (.string nm) (.slice (some ⟨gq, 0, none⟩) kids.length kids.length) (.int .i64 (wrap64 v3)) (.bool (v0 != 0)) (.int .u64 v4)), node_stored_below (Nat.le_refl _) HB8.out (.int .u64 v1) (.string nm) (.slice (some ⟨gq, 0, none⟩) kids.length kids.length) (.int .i64 (wrap64 v3)) (.bool (v0 != 0)) (.int .u64 v4)⟩

end Go.Proofs.Ytdieanikopjbjaa.QSlotUn
