/- Written by a program of this session out of the translation: Lean functions with the same answers as the Go functions, and the walks that show it. -/
import Derived.Test.YtdieanikopjbjaaQLeafUx0
namespace Go.Proofs.Ytdieanikopjbjaa.QLeafU
open Go.RowKit Go.Proofs.YtdieanikopjbjaaW.PrintWords Go.Proofs.YtdieanikopjbjaaW.PrintLast Go.Proofs.YtdieanikopjbjaaW.PrintMore
attribute [local go_sem] max2_int min2_int max_two min_two max_three min_three max_four min_four
attribute [local go_sem high] StepStr.leq_str StepStr.gtr_str
set_option linter.unusedVariables false
set_option linter.unusedSimpArgs false

/-! ### aumbryref13_Right: function 24 -/
mutual
def aumbryref13_Right.l0 : Nat → List (S78) → Int → Int → Option (Int)
  | 0, _, _, _ => none
  | k + 1, x0, x5, x6 => if x6 < x5 then (if 0 ≤ x6 then (if x6 < (x0.length : Int) then (if (((rd_T78 x0 x6).f0).size : Int) > 32 then (aumbryref13_Right.j1 k x0 x6 x5 x6 true) else (aumbryref13_Right.j1 k x0 x6 x5 x6 (decide ((((rd_T78 x0 x6).f1).size : Int) > 64)))) else (none)) else (none)) else (some 0)
def aumbryref13_Right.j1 : Nat → List (S78) → Int → Int → Int → Bool → Option (Int)
  | 0, _, _, _, _, _ => none
  | k + 1, x0, x3, x5, x6, x24 => if x24 = true then (some 2) else (if x3 > 0 then (if 0 ≤ x3 then (if x3 < (x0.length : Int) then (if 0 ≤ (wrap64 (x3 - 1)) then (if (wrap64 (x3 - 1)) < (x0.length : Int) then (if ((Op.bytesLess (((rd_T78 x0 (wrap64 (x3 - 1))).f0).toList) (((rd_T78 x0 x3).f0).toList)) = true) then (aumbryref13_Right.l0 k x0 x5 (wrap64 (x6 + 1))) else (some 19)) else (none)) else (none)) else (none)) else (none)) else (aumbryref13_Right.l0 k x0 x5 (wrap64 (x6 + 1))))
end
def aumbryref13_Right.f (k : Nat) (l0 : List (S78)) : Option (Int) := aumbryref13_Right.l0 k l0 (l0.length : Int) 0
theorem aumbryref13_Right.mono_l : ∀ k, (∀ y0 y1 y2, LeO (aumbryref13_Right.l0 k y0 y1 y2) (aumbryref13_Right.l0 (k + 1) y0 y1 y2)) ∧ (∀ y0 y1 y2 y3 y4, LeO (aumbryref13_Right.j1 k y0 y1 y2 y3 y4) (aumbryref13_Right.j1 (k + 1) y0 y1 y2 y3 y4))
  | 0 => ⟨fun _ _ _ r h => by simp [aumbryref13_Right.l0] at h, fun _ _ _ _ _ r h => by simp [aumbryref13_Right.j1] at h⟩
  | k + 1 => by
    obtain ⟨ih0, ih1⟩ := aumbryref13_Right.mono_l k
    refine ⟨?_, ?_⟩
    · intro y0 y1 y2
      unfold aumbryref13_Right.l0
      repeat' first
      | (with_reducible exact ih0 _ _ _)
      | (with_reducible exact ih1 _ _ _ _ _)
      | (with_reducible exact LeO.refl _)
      | (with_reducible exact LeO.none _)
      | (with_reducible refine LeO.ite ?_ ?_)
      | (with_reducible refine LeO.bind ?_ (fun _ => ?_))
      | exact ih0 _ _ _
      | exact ih1 _ _ _ _ _
      | exact LeO.none _
      | refine LeO.ite ?_ ?_
      | refine LeO.bind ?_ (fun _ => ?_)
    · intro y0 y1 y2 y3 y4
      unfold aumbryref13_Right.j1
      repeat' first
      | (with_reducible exact ih0 _ _ _)
      | (with_reducible exact ih1 _ _ _ _ _)
      | (with_reducible exact LeO.refl _)
      | (with_reducible exact LeO.none _)
      | (with_reducible refine LeO.ite ?_ ?_)
      | (with_reducible refine LeO.bind ?_ (fun _ => ?_))
      | exact ih0 _ _ _
      | exact ih1 _ _ _ _ _
      | exact LeO.none _
      | refine LeO.ite ?_ ?_
      | refine LeO.bind ?_ (fun _ => ?_)
theorem aumbryref13_Right.mono : ∀ a0 k, LeO (aumbryref13_Right.f k a0) (aumbryref13_Right.f (k + 1) a0) := by
  intro a0 k
  obtain ⟨ih0, ih1⟩ := aumbryref13_Right.mono_l k
  unfold aumbryref13_Right.f
  repeat' first
      | (with_reducible exact ih0 _ _ _)
      | (with_reducible exact ih1 _ _ _ _ _)
      | (with_reducible exact LeO.refl _)
      | (with_reducible exact LeO.none _)
      | (with_reducible refine LeO.ite ?_ ?_)
      | (with_reducible refine LeO.bind ?_ (fun _ => ?_))
      | exact ih0 _ _ _
      | exact ih1 _ _ _ _ _
      | exact LeO.none _
      | refine LeO.ite ?_ ?_
      | refine LeO.bind ?_ (fun _ => ?_)
set_option maxHeartbeats 8000000 in
set_option maxRecDepth 100000 in
theorem aumbryref13_Right.calls (k : Nat) (A0 : Option Addr) (c0 : Nat) (l0 : List (S78)) (r : Int) (w : World) (hr0 : Kd.C k78 w A0 l0.length l0) (hc0 : l0.length ≤ c0) (h : aumbryref13_Right.f k l0 = some r) :
    Calls Try.prog 24 #[.slice A0 l0.length c0] w fun e w' => e = .returned (.int .i64 r) ∧ Drawn0 w w' := by
  have HR0 := Aside0.mk hr0
  have HC0 := Aside0.mk hc0
  clear hr0 hc0
  have H : (aumbryref13_Right.l0 k l0 (l0.length : Int) 0) = some r := h
  clear h
  have H' := Aside0.mk H
  clear H
  go_enter Try.func24, Try.ntmps24
  go_wp2
  repeat (go_quiet (fail); try go_wp2)
  go_loopg [6] k (fun kq v6 w' => ∃ (x6_1 : Int), v6 = .int .i64 x6_1 ∧ Aside0 (aumbryref13_Right.l0 kq l0 (l0.length : Int) x6_1 = some r) ∧ Aside0 (kq ≤ k) ∧ Drawn0 w w')
  case atStart => exact ⟨(0), (by first | rfl | (simp; done) | (simp [*]; done)), H', ⟨Nat.le_refl _⟩, by repeat (first | exact Drawn0.refl _ | apply Drawn0.step)⟩
  case round =>
    clear H'
    obtain ⟨x6_1, rfl, HA, HK1, ⟨m1, rfl⟩⟩ := hrel
    cases gk with
    | zero => exact absurd HA.out (by simp [aumbryref13_Right.l0])
    | succ k1 =>
      have H := HA.out
      clear HA
      simp only [aumbryref13_Right.l0] at H
      by_cases c2 : x6_1 < (l0.length : Int)
      · rw [if_pos c2] at H
        have c2b0 : decide (x6_1 < (l0.length : Int)) = true := decide_eq_true c2
        clear c2
        have HC3 := Aside0.mk H
        clear H
        go_upto_region 4 with (fail)
        repeat (go_quiet (fail); go_upto_region 4 with (fail))
        go_cut [24] (fun v24 wc => ∃ (kq : Nat) (x24_2 : Bool), v24 = .bool x24_2 ∧ Aside0 (aumbryref13_Right.j1 kq l0 x6_1 (l0.length : Int) x6_1 x24_2 = some r) ∧ Aside0 (kq ≤ k1) ∧ Drawn0 w wc)
        case first =>
          have H := HC3.out
          clear HC3
          by_cases c4 : 0 ≤ x6_1
          · rw [if_pos c4] at H
            have c4b0 : decide (0 ≤ x6_1) = true := decide_eq_true c4
            clear c4
            (first | rw [c4b0] | (simp only [i64_w, i32_w]; rw [c4b0]) | skip)
            by_cases c5 : x6_1 < (l0.length : Int)
            · rw [if_pos c5] at H
              have c5b0 : decide (x6_1 < (l0.length : Int)) = true := decide_eq_true c5
              clear c5
              by_cases c6 : (((rd_T78 l0 x6_1).f0).size : Int) > 32
              · rw [if_pos c6] at H
                have c6b0 : decide (32 < (((rd_T78 l0 x6_1).f0).size : Int)) = true := decide_eq_true c6
                have c6b1 : decide (32 < ((rd_T78 l0 x6_1).f0).size) = true := decide_eq_true (by omega)
                clear c6
                have H' := Aside0.mk H
                clear H
                have p160 : 0 ≤ (x6_1 : Int) := of_decide_eq_true (by first | (with_reducible assumption) | assumption)
                have q160 : x6_1 < (l0.length : Int) := of_decide_eq_true (by first | (with_reducible assumption) | assumption)
                obtain ⟨ad160, e160, hx160_0, hx160_1⟩ := at_T78 HR0.out x6_1 p160 q160
                cases e160
                replace p160 := eq_true p160
                replace q160 := eq_true q160
                go_wp2
                repeat (go_quiet (fail); try go_wp2)
                go_meet
                case rel => exact ⟨_, (true), (by first | rfl | (simp; done) | (simp [*]; done)), H', ⟨by have := HK1.out; first | omega | exact Nat.le_refl _⟩, by repeat (first | exact Drawn0.refl _ | apply Drawn0.step)⟩
              · rw [if_neg c6] at H
                have c6b0 : decide (32 < (((rd_T78 l0 x6_1).f0).size : Int)) = false := decide_eq_false c6
                have c6b1 : decide (32 < ((rd_T78 l0 x6_1).f0).size) = false := decide_eq_false (by omega)
                clear c6
                have H' := Aside0.mk H
                clear H
                have p160 : 0 ≤ (x6_1 : Int) := of_decide_eq_true (by first | (with_reducible assumption) | assumption)
                have q160 : x6_1 < (l0.length : Int) := of_decide_eq_true (by first | (with_reducible assumption) | assumption)
                obtain ⟨ad160, e160, hx160_0, hx160_1⟩ := at_T78 HR0.out x6_1 p160 q160
                cases e160
                replace p160 := eq_true p160
                replace q160 := eq_true q160
                have p161 : 0 ≤ (x6_1 : Int) := of_decide_eq_true (by first | (with_reducible assumption) | assumption)
                have q161 : x6_1 < (l0.length : Int) := of_decide_eq_true (by first | (with_reducible assumption) | assumption)
                obtain ⟨ad161, e161, hx161_0, hx161_1⟩ := at_T78 HR0.out x6_1 p161 q161
                obtain rfl : ad160 = ad161 := (by injection e161)
                replace p161 := eq_true p161
                replace q161 := eq_true q161
                go_wp2
                repeat (go_quiet (fail); try go_wp2)
                go_meet
                case rel => exact ⟨_, (decide ((((rd_T78 l0 x6_1).f1).size : Int) > 64)), (by first | rfl | (simp; done) | (simp [*]; done)), H', ⟨by have := HK1.out; first | omega | exact Nat.le_refl _⟩, by repeat (first | exact Drawn0.refl _ | apply Drawn0.step)⟩
            · rw [if_neg c5] at H
              exact absurd H (by simp)
          · rw [if_neg c4] at H
            exact absurd H (by simp)
        case rest =>
          clear HC3
          try clear p1
          try clear q1
          try clear hx1
          try clear c2
          try clear c2b0
          try clear p2
          try clear c4
          try clear c4b0
          try clear c5
          try clear c5b0
          try clear c6
          try clear c6b0
          try clear c6b1
          try clear hx160_0
          try clear hx160_1
          try clear hx161_0
          try clear hx161_1
          try clear p160
          try clear p161
          try clear q160
          try clear q161
          obtain ⟨kq, x24_2, rfl, HA, HJ2, ⟨mc2, rfl⟩⟩ := hcut
          cases kq with
          | zero => exact absurd HA.out (by simp [aumbryref13_Right.j1])
          | succ kj2 =>
            have H := HA.out
            clear HA
            simp only [aumbryref13_Right.j1] at H
            by_cases c7 : x24_2 = true
            · subst c7
              have H1 : (some 2) = some r := by rw [if_pos rfl] at H; exact H
              clear H
              have H := H1
              clear H1
              obtain rfl := Option.some.inj H
              go_wp2
              repeat (go_quiet (fail); try go_wp2)
              go_ret
              exact ⟨by first | rfl | (simp; done) | (simp [*]; done), by repeat (first | exact Drawn0.refl _ | apply Drawn0.step)⟩
            · replace c7 := Bool.eq_false_iff.mpr c7
              subst c7
              have H1 : (if x6_1 > 0 then (if 0 ≤ x6_1 then (if x6_1 < (l0.length : Int) then (if 0 ≤ (wrap64 (x6_1 - 1)) then (if (wrap64 (x6_1 - 1)) < (l0.length : Int) then (if ((Op.bytesLess (((rd_T78 l0 (wrap64 (x6_1 - 1))).f0).toList) (((rd_T78 l0 x6_1).f0).toList)) = true) then (aumbryref13_Right.l0 kj2 l0 (l0.length : Int) (wrap64 (x6_1 + 1))) else (some 19)) else (none)) else (none)) else (none)) else (none)) else (aumbryref13_Right.l0 kj2 l0 (l0.length : Int) (wrap64 (x6_1 + 1)))) = some r := by rw [if_neg (show ¬ (false = true) by decide)] at H; exact H
              clear H
              have H := H1
              clear H1
              by_cases c8 : x6_1 > 0
              · rw [if_pos c8] at H
                have c8b0 : decide (0 < x6_1) = true := decide_eq_true c8
                clear c8
                by_cases c9 : 0 ≤ x6_1
                · rw [if_pos c9] at H
                  have c9b0 : decide (0 ≤ x6_1) = true := decide_eq_true c9
                  clear c9
                  by_cases c10 : x6_1 < (l0.length : Int)
                  · rw [if_pos c10] at H
                    have c10b0 : decide (x6_1 < (l0.length : Int)) = true := decide_eq_true c10
                    clear c10
                    obtain ⟨ji11, hji11⟩ : ∃ j_ : Int, (wrap64 (x6_1 - 1)) = j_ := ⟨_, rfl⟩
                    replace H : (if 0 ≤ (ji11) then (if (ji11) < (l0.length : Int) then (if ((Op.bytesLess (((rd_T78 l0 (ji11)).f0).toList) (((rd_T78 l0 x6_1).f0).toList)) = true) then (aumbryref13_Right.l0 kj2 l0 (l0.length : Int) (wrap64 (x6_1 + 1))) else (some 19)) else (none)) else (none)) = some r := by first | (rw [hji11] at H; exact H) | (simp only [hji11] at H ⊢; exact H)
                    have hji11w : (IntKind.i64.wrap (x6_1 - 1)) = ji11 := (i64_w _).trans hji11
                    by_cases c12 : 0 ≤ (ji11)
                    · rw [if_pos c12] at H
                      have c12b0 : decide (0 ≤ (ji11)) = true := decide_eq_true c12
                      clear c12
                      by_cases c13 : (ji11) < (l0.length : Int)
                      · rw [if_pos c13] at H
                        have c13b0 : decide ((ji11) < (l0.length : Int)) = true := decide_eq_true c13
                        clear c13
                        by_cases c14 : ((Op.bytesLess (((rd_T78 l0 (ji11)).f0).toList) (((rd_T78 l0 x6_1).f0).toList)) = true)
                        · rw [if_pos c14] at H
                          have c14b0 : (Op.bytesLess (((rd_T78 l0 (ji11)).f0).toList) (((rd_T78 l0 x6_1).f0).toList)) = true := c14
                          clear c14
                          have H' := Aside0.mk H
                          clear H
                          have p162 : 0 ≤ (x6_1 : Int) := of_decide_eq_true (by first | (with_reducible assumption) | assumption)
                          have q162 : x6_1 < (l0.length : Int) := of_decide_eq_true (by first | (with_reducible assumption) | assumption)
                          obtain ⟨ad162, e162, hx162_0, hx162_1⟩ := at_T78 HR0.out x6_1 p162 q162
                          cases e162
                          replace p162 := eq_true p162
                          replace q162 := eq_true q162
                          have p163 : 0 ≤ ((ji11) : Int) := of_decide_eq_true (by first | (with_reducible assumption) | assumption)
                          have q163 : (ji11) < (l0.length : Int) := of_decide_eq_true (by first | (with_reducible assumption) | assumption)
                          obtain ⟨ad163, e163, hx163_0, hx163_1⟩ := at_T78 HR0.out (ji11) p163 q163
                          obtain rfl : ad162 = ad163 := (by injection e163)
                          replace p163 := eq_true p163
                          replace q163 := eq_true q163
                          go_wp2
                          repeat (go_quiet (fail); try go_wp2)
                          go_roundg kj2
                          case measure => have := HK1.out; have := HJ2.out; omega
                          case rel => exact ⟨(wrap64 (x6_1 + 1)), (by first | rfl | (simp; done) | (simp [*]; done)), H', ⟨by have := HK1.out; have := HJ2.out; omega⟩, by repeat (first | exact Drawn0.refl _ | apply Drawn0.step)⟩
                        · rw [if_neg c14] at H
                          have c14b0 : (Op.bytesLess (((rd_T78 l0 (ji11)).f0).toList) (((rd_T78 l0 x6_1).f0).toList)) = false := by simpa using c14
                          clear c14
                          obtain rfl := Option.some.inj H
                          have p162 : 0 ≤ (x6_1 : Int) := of_decide_eq_true (by first | (with_reducible assumption) | assumption)
                          have q162 : x6_1 < (l0.length : Int) := of_decide_eq_true (by first | (with_reducible assumption) | assumption)
                          obtain ⟨ad162, e162, hx162_0, hx162_1⟩ := at_T78 HR0.out x6_1 p162 q162
                          cases e162
                          replace p162 := eq_true p162
                          replace q162 := eq_true q162
                          have p163 : 0 ≤ ((ji11) : Int) := of_decide_eq_true (by first | (with_reducible assumption) | assumption)
                          have q163 : (ji11) < (l0.length : Int) := of_decide_eq_true (by first | (with_reducible assumption) | assumption)
                          obtain ⟨ad163, e163, hx163_0, hx163_1⟩ := at_T78 HR0.out (ji11) p163 q163
                          obtain rfl : ad162 = ad163 := (by injection e163)
                          replace p163 := eq_true p163
                          replace q163 := eq_true q163
                          go_wp2
                          repeat (go_quiet (fail); try go_wp2)
                          go_ret
                          exact ⟨by first | rfl | (simp; done) | (simp only [← hji11] <;> (first | rfl | simp)) | (simp [*]; done), by repeat (first | exact Drawn0.refl _ | apply Drawn0.step)⟩
                      · rw [if_neg c13] at H
                        exact absurd H (by simp)
                    · rw [if_neg c12] at H
                      exact absurd H (by simp)
                  · rw [if_neg c10] at H
                    exact absurd H (by simp)
                · rw [if_neg c9] at H
                  exact absurd H (by simp)
              · rw [if_neg c8] at H
                have c8b0 : decide (0 < x6_1) = false := decide_eq_false c8
                clear c8
                have H' := Aside0.mk H
                clear H
                go_wp2
                repeat (go_quiet (fail); try go_wp2)
                go_roundg kj2
                case measure => have := HK1.out; have := HJ2.out; omega
                case rel => exact ⟨(wrap64 (x6_1 + 1)), (by first | rfl | (simp; done) | (simp [*]; done)), H', ⟨by have := HK1.out; have := HJ2.out; omega⟩, by repeat (first | exact Drawn0.refl _ | apply Drawn0.step)⟩
      · rw [if_neg c2] at H
        have c2b0 : decide (x6_1 < (l0.length : Int)) = false := decide_eq_false c2
        clear c2
        obtain rfl := Option.some.inj H
        go_wp2
        repeat (go_quiet (fail); try go_wp2)
        go_ret
        exact ⟨by first | rfl | (simp; done) | (simp [*]; done), by repeat (first | exact Drawn0.refl _ | apply Drawn0.step)⟩

/-! ### aumbryref01_Zeros: function 43 -/
def aumbryref01_Zeros.f (a0 : Int) : Option (ByteArray) := if 0 ≤ a0 then (if (a0 : Int).toNat ≤ 281474976710656 then (some (strOfNums (List.replicate (a0 : Int).toNat 0))) else (none)) else (none)
set_option maxHeartbeats 8000000 in
set_option maxRecDepth 100000 in
theorem aumbryref01_Zeros.calls (a0 : Int) (r : ByteArray) (w : World) (h : aumbryref01_Zeros.f a0 = some r) :
    Calls Try.prog 43 #[.int .i64 a0] w fun e w' => e = .returned (.string r) ∧ Below w.heap.size w w' := by
  have HB := Aside0.mk (Below.refl w.heap.size w)
  have H : (if 0 ≤ a0 then (if (a0 : Int).toNat ≤ 281474976710656 then (some (strOfNums (List.replicate (a0 : Int).toNat 0))) else (none)) else (none)) = some r := h
  clear h
  by_cases c2 : 0 ≤ a0
  · rw [if_pos c2] at H
    have c2b0 := eq_true c2
    have c2b1 : decide (0 ≤ a0) = true := decide_eq_true c2
    clear c2
    by_cases c3 : (a0 : Int).toNat ≤ 281474976710656
    · rw [if_pos c3] at H
      have c3b0 := eq_true c3
      have c3b1 : decide ((a0 : Int).toNat ≤ 281474976710656) = true := decide_eq_true c3
      clear c3
      obtain ⟨y164, hy164⟩ : ∃ y_ : List Int, y_ = (List.replicate (a0 : Int).toNat 0) := ⟨_, rfl⟩
      replace H : (some (strOfNums y164)) = some r := by first | (rw [hy164]; with_reducible exact H) | (have H2_ := (Option.bind_some _ _).symm.trans H; rw [hy164]; with_reducible exact H2_) | (have H2_ := (Option.bind_some _ _).symm.trans H; with_reducible exact H2_) | with_reducible exact H | (rw [hy164]; exact H) | exact H
      have Ny164 := Aside0.mk hy164
      clear hy164
      obtain rfl := Option.some.inj H
      go_enter Try.func43, Try.ntmps43
      go_wp2_with (first | ((with_reducible refine gate_dst (N := 4) rfl ?_); refine Kd.R_make (Kd.int .u8) _ 5 rfl (N := 4) rfl 79 _ _ rfl a0 rfl rfl Try.underlying79 (.int .u8 0) 1 info5 rfl (by decide) (by omega) 0 (ok := fun _ => True) (okp := fun _ => True) rfl (fun _ hk => hk) trivial (of_decide_eq_true (by first | (with_reducible assumption) | assumption)) (Nat.le_trans (Nat.mul_le_mul_right _ (of_decide_eq_true (by first | (with_reducible assumption) | assumption) : a0.toNat ≤ 281474976710656)) (by omega)) (Below.refl _ _) (Nat.le_refl _) ?_; intro v165 w4 ho5 hb hg_ hnew_; clear hg_ hnew_; (first | rw [← Ny164.out] at ho5 | (simp only [Int.reduceToNat] at ho5; rw [← Ny164.out] at ho5)); have n0_ := Aside0.mk (Kd.R_lower ho5 (below_size (by repeat (first | (with_reducible first | exact HB.out | apply below_alloc | apply pw_below_drewN | apply below_drew1) | exact HB.out)))); have n1_ := Aside0.mk (below_step (by repeat (first | (with_reducible first | exact HB.out | apply below_alloc | apply pw_below_drewN | apply below_drew1) | exact HB.out)) hb); clear HB; have HO166 := n0_; have HB := n1_; clear n0_ n1_; clear hb ho5; have hcv6 := own_string (P := Try.prog) Try.underlying79 Try.underlying5 Try.underlying9 (Kd.own_of_R HO166.out)))
      go_ret
      exact ⟨by first | rfl | (simp [errW_none, errW_some] <;> rfl) | (simp [*, errW_none, errW_some] <;> rfl), by repeat (first | (with_reducible first | exact HB.out | apply below_alloc | apply pw_below_drewN | apply below_drew1) | exact HB.out)⟩
    · rw [if_neg c3] at H
      exact absurd H (by simp)
  · rw [if_neg c2] at H
    exact absurd H (by simp)

end Go.Proofs.Ytdieanikopjbjaa.QLeafU
