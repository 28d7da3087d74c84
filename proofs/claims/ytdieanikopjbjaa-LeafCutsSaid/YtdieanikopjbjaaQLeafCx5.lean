/- Written by a program of this session out of the translation: Lean functions with the same answers as the Go functions, and the walks that show it. -/
import Derived.Test.YtdieanikopjbjaaQLeafCx0
import Derived.Test.YtdieanikopjbjaaQLeafCx2
namespace Go.Proofs.Ytdieanikopjbjaa.QLeafC
open Go.RowKit Go.Proofs.YtdieanikopjbjaaW.PrintWords Go.Proofs.YtdieanikopjbjaaW.PrintLast Go.Proofs.YtdieanikopjbjaaW.PrintMore
attribute [local go_sem] max2_int min2_int max_two min_two max_three min_three max_four min_four
attribute [local go_sem high] StepStr.leq_str StepStr.gtr_str
set_option linter.unusedVariables false
set_option linter.unusedSimpArgs false

/-! ### aumbryref13_Right: function 24 -/
mutual
def aumbryref13_Right.l0 : Nat → List (S78) → Int → Int → Option (Int)
  | 0, _, _, _ => none
  | k + 1, x0, x5, x6 => if x6 < x5 then (if 0 ≤ x6 then (if x6 < (x0.length : Int) then (if (((rd_T78 x0 x6).f0).size : Int) > 32 then (aumbryref13_Right.j1 k x0 x6 x5 x6 true) else (aumbryref13_Right.j1 k x0 x6 x5 x6 (decide ((((rd_T78 x0 x6).f1).size : Int) > 64)))) else (none)) else (none)) else (some 0)
def aumbryref13_Right.j1 : Nat → List (S78) → Int → Int → Int → Bool → Option (Int)
  | 0, _, _, _, _, _ => none
  | k + 1, x0, x3, x5, x6, x24 => if x24 = true then (some 2) else (if x3 > 0 then (if 0 ≤ x3 then (if x3 < (x0.length : Int) then (if 0 ≤ (wrap64 (x3 - 1)) then (if (wrap64 (x3 - 1)) < (x0.length : Int) then (if ((Op.bytesLess (((rd_T78 x0 (wrap64 (x3 - 1))).f0).toList) (((rd_T78 x0 x3).f0).toList)) = true) then (aumbryref13_Right.l0 k x0 x5 (wrap64 (x6 + 1))) else (some 19)) else (none)) else (none)) else (none)) else (none)) else (aumbryref13_Right.l0 k x0 x5 (wrap64 (x6 + 1))))
end
def aumbryref13_Right.f (k : Nat) (l0 : List (S78)) : Option (Int) := aumbryref13_Right.l0 k l0 (l0.length : Int) 0
theorem aumbryref13_Right.mono_l : ∀ k, (∀ y0 y1 y2, LeO (aumbryref13_Right.l0 k y0 y1 y2) (aumbryref13_Right.l0 (k + 1) y0 y1 y2)) ∧ (∀ y0 y1 y2 y3 y4, LeO (aumbryref13_Right.j1 k y0 y1 y2 y3 y4) (aumbryref13_Right.j1 (k + 1) y0 y1 y2 y3 y4))
  | 0 => ⟨fun _ _ _ r h => by simp [aumbryref13_Right.l0] at h, fun _ _ _ _ _ r h => by simp [aumbryref13_Right.j1] at h⟩
  | k + 1 => by
    obtain ⟨ih0, ih1⟩ := aumbryref13_Right.mono_l k
    refine ⟨?_, ?_⟩
    · intro y0 y1 y2
      unfold aumbryref13_Right.l0
      repeat' first
      | (with_reducible exact ih0 _ _ _)
      | (with_reducible exact ih1 _ _ _ _ _)
      | (with_reducible exact LeO.refl _)
      | (with_reducible exact LeO.none _)
      | (with_reducible refine LeO.ite ?_ ?_)
      | (with_reducible refine LeO.bind ?_ (fun _ => ?_))
      | exact ih0 _ _ _
      | exact ih1 _ _ _ _ _
      | exact LeO.none _
      | refine LeO.ite ?_ ?_
      | refine LeO.bind ?_ (fun _ => ?_)
    · intro y0 y1 y2 y3 y4
      unfold aumbryref13_Right.j1
      repeat' first
      | (with_reducible exact ih0 _ _ _)
      | (with_reducible exact ih1 _ _ _ _ _)
      | (with_reducible exact LeO.refl _)
      | (with_reducible exact LeO.none _)
      | (with_reducible refine LeO.ite ?_ ?_)
      | (with_reducible refine LeO.bind ?_ (fun _ => ?_))
      | exact ih0 _ _ _
      | exact ih1 _ _ _ _ _
      | exact LeO.none _
      | refine LeO.ite ?_ ?_
      | refine LeO.bind ?_ (fun _ => ?_)
theorem aumbryref13_Right.mono : ∀ a0 k, LeO (aumbryref13_Right.f k a0) (aumbryref13_Right.f (k + 1) a0) := by
  intro a0 k
  obtain ⟨ih0, ih1⟩ := aumbryref13_Right.mono_l k
  unfold aumbryref13_Right.f
  repeat' first
      | (with_reducible exact ih0 _ _ _)
      | (with_reducible exact ih1 _ _ _ _ _)
      | (with_reducible exact LeO.refl _)
      | (with_reducible exact LeO.none _)
      | (with_reducible refine LeO.ite ?_ ?_)
      | (with_reducible refine LeO.bind ?_ (fun _ => ?_))
      | exact ih0 _ _ _
      | exact ih1 _ _ _ _ _
      | exact LeO.none _
      | refine LeO.ite ?_ ?_
      | refine LeO.bind ?_ (fun _ => ?_)
set_option maxHeartbeats 8000000 in
set_option maxRecDepth 100000 in
theorem aumbryref13_Right.calls (k : Nat) (A0 : Option Addr) (c0 : Nat) (l0 : List (S78)) (r : Int) (w : World) (hr0 : Kd.C k78 w A0 l0.length l0) (hc0 : l0.length ≤ c0) (h : aumbryref13_Right.f k l0 = some r) :
    Calls Try.prog 24 #[.slice A0 l0.length c0] w fun e w' => e = .returned (.int .i64 r) ∧ Drawn0 w w' := by
  have HR0 := Aside0.mk hr0
  have HC0 := Aside0.mk hc0
  clear hr0 hc0
  have H : (aumbryref13_Right.l0 k l0 (l0.length : Int) 0) = some r := h
  clear h
  have H' := Aside0.mk H
  clear H
  go_enter Try.func24, Try.ntmps24
  go_wp2
  repeat (go_quiet (fail); try go_wp2)
  go_loopg [6] k (fun kq v6 w' => ∃ (x6_1 : Int), v6 = .int .i64 x6_1 ∧ Aside0 (aumbryref13_Right.l0 kq l0 (l0.length : Int) x6_1 = some r) ∧ Aside0 (kq ≤ k) ∧ Drawn0 w w')
  case atStart => exact ⟨(0), (by first | rfl | (simp; done) | (simp [*]; done)), H', ⟨Nat.le_refl _⟩, by repeat (first | exact Drawn0.refl _ | apply Drawn0.step)⟩
  case round =>
    clear H'
    obtain ⟨x6_1, rfl, HA, HK1, ⟨m1, rfl⟩⟩ := hrel
    cases gk with
    | zero => exact absurd HA.out (by simp [aumbryref13_Right.l0])
    | succ k1 =>
      have H := HA.out
      clear HA
      simp only [aumbryref13_Right.l0] at H
      by_cases c2 : x6_1 < (l0.length : Int)
      · rw [if_pos c2] at H
        have c2b0 : decide (x6_1 < (l0.length : Int)) = true := decide_eq_true c2
        clear c2
        have HC3 := Aside0.mk H
        clear H
        go_upto_region 4 with (fail)
        repeat (go_quiet (fail); go_upto_region 4 with (fail))
        go_cut [24] (fun v24 wc => ∃ (kq : Nat) (x24_2 : Bool), v24 = .bool x24_2 ∧ Aside0 (aumbryref13_Right.j1 kq l0 x6_1 (l0.length : Int) x6_1 x24_2 = some r) ∧ Aside0 (kq ≤ k1) ∧ Drawn0 w wc)
        case first =>
          have H := HC3.out
          clear HC3
          by_cases c4 : 0 ≤ x6_1
          · rw [if_pos c4] at H
            have c4b0 : decide (0 ≤ x6_1) = true := decide_eq_true c4
            clear c4
            (first | rw [c4b0] | (simp only [i64_w, i32_w]; rw [c4b0]) | skip)
            by_cases c5 : x6_1 < (l0.length : Int)
            · rw [if_pos c5] at H
              have c5b0 : decide (x6_1 < (l0.length : Int)) = true := decide_eq_true c5
              clear c5
              by_cases c6 : (((rd_T78 l0 x6_1).f0).size : Int) > 32
              · rw [if_pos c6] at H
                have c6b0 : decide (32 < (((rd_T78 l0 x6_1).f0).size : Int)) = true := decide_eq_true c6
                have c6b1 : decide (32 < ((rd_T78 l0 x6_1).f0).size) = true := decide_eq_true (by omega)
                clear c6
                have H' := Aside0.mk H
                clear H
                have p165 : 0 ≤ (x6_1 : Int) := of_decide_eq_true (by first | (with_reducible assumption) | assumption)
                have q165 : x6_1 < (l0.length : Int) := of_decide_eq_true (by first | (with_reducible assumption) | assumption)
                obtain ⟨ad165, e165, hx165_0, hx165_1⟩ := at_T78 HR0.out x6_1 p165 q165
                cases e165
                replace p165 := eq_true p165
                replace q165 := eq_true q165
                go_wp2
                repeat (go_quiet (fail); try go_wp2)
                go_meet
                case rel => exact ⟨_, (true), (by first | rfl | (simp; done) | (simp [*]; done)), H', ⟨by have := HK1.out; first | omega | exact Nat.le_refl _⟩, by repeat (first | exact Drawn0.refl _ | apply Drawn0.step)⟩
              · rw [if_neg c6] at H
                have c6b0 : decide (32 < (((rd_T78 l0 x6_1).f0).size : Int)) = false := decide_eq_false c6
                have c6b1 : decide (32 < ((rd_T78 l0 x6_1).f0).size) = false := decide_eq_false (by omega)
                clear c6
                have H' := Aside0.mk H
                clear H
                have p165 : 0 ≤ (x6_1 : Int) := of_decide_eq_true (by first | (with_reducible assumption) | assumption)
                have q165 : x6_1 < (l0.length : Int) := of_decide_eq_true (by first | (with_reducible assumption) | assumption)
                obtain ⟨ad165, e165, hx165_0, hx165_1⟩ := at_T78 HR0.out x6_1 p165 q165
                cases e165
                replace p165 := eq_true p165
                replace q165 := eq_true q165
                have p166 : 0 ≤ (x6_1 : Int) := of_decide_eq_true (by first | (with_reducible assumption) | assumption)
                have q166 : x6_1 < (l0.length : Int) := of_decide_eq_true (by first | (with_reducible assumption) | assumption)
                obtain ⟨ad166, e166, hx166_0, hx166_1⟩ := at_T78 HR0.out x6_1 p166 q166
                obtain rfl : ad165 = ad166 := (by injection e166)
                replace p166 := eq_true p166
                replace q166 := eq_true q166
                go_wp2
                repeat (go_quiet (fail); try go_wp2)
                go_meet
                case rel => exact ⟨_, (decide ((((rd_T78 l0 x6_1).f1).size : Int) > 64)), (by first | rfl | (simp; done) | (simp [*]; done)), H', ⟨by have := HK1.out; first | omega | exact Nat.le_refl _⟩, by repeat (first | exact Drawn0.refl _ | apply Drawn0.step)⟩
            · rw [if_neg c5] at H
              exact absurd H (by simp)
          · rw [if_neg c4] at H
            exact absurd H (by simp)
        case rest =>
          clear HC3
          try clear p1
          try clear q1
          try clear hx1
          try clear c2
          try clear c2b0
          try clear p2
          try clear c4
          try clear c4b0
          try clear c5
          try clear c5b0
          try clear c6
          try clear c6b0
          try clear c6b1
          try clear hx165_0
          try clear hx165_1
          try clear hx166_0
          try clear hx166_1
          try clear p165
          try clear p166
          try clear q165
          try clear q166
          obtain ⟨kq, x24_2, rfl, HA, HJ2, ⟨mc2, rfl⟩⟩ := hcut
          cases kq with
          | zero => exact absurd HA.out (by simp [aumbryref13_Right.j1])
          | succ kj2 =>
            have H := HA.out
            clear HA
            simp only [aumbryref13_Right.j1] at H
            by_cases c7 : x24_2 = true
            · subst c7
              have H1 : (some 2) = some r := by rw [if_pos rfl] at H; exact H
              clear H
              have H := H1
              clear H1
              obtain rfl := Option.some.inj H
              go_wp2
              repeat (go_quiet (fail); try go_wp2)
              go_ret
              exact ⟨by first | rfl | (simp; done) | (simp [*]; done), by repeat (first | exact Drawn0.refl _ | apply Drawn0.step)⟩
            · replace c7 := Bool.eq_false_iff.mpr c7
              subst c7
              have H1 : (if x6_1 > 0 then (if 0 ≤ x6_1 then (if x6_1 < (l0.length : Int) then (if 0 ≤ (wrap64 (x6_1 - 1)) then (if (wrap64 (x6_1 - 1)) < (l0.length : Int) then (if ((Op.bytesLess (((rd_T78 l0 (wrap64 (x6_1 - 1))).f0).toList) (((rd_T78 l0 x6_1).f0).toList)) = true) then (aumbryref13_Right.l0 kj2 l0 (l0.length : Int) (wrap64 (x6_1 + 1))) else (some 19)) else (none)) else (none)) else (none)) else (none)) else (aumbryref13_Right.l0 kj2 l0 (l0.length : Int) (wrap64 (x6_1 + 1)))) = some r := by rw [if_neg (show ¬ (false = true) by decide)] at H; exact H
              clear H
              have H := H1
              clear H1
              by_cases c8 : x6_1 > 0
              · rw [if_pos c8] at H
                have c8b0 : decide (0 < x6_1) = true := decide_eq_true c8
                clear c8
                by_cases c9 : 0 ≤ x6_1
                · rw [if_pos c9] at H
                  have c9b0 : decide (0 ≤ x6_1) = true := decide_eq_true c9
                  clear c9
                  by_cases c10 : x6_1 < (l0.length : Int)
                  · rw [if_pos c10] at H
                    have c10b0 : decide (x6_1 < (l0.length : Int)) = true := decide_eq_true c10
                    clear c10
                    obtain ⟨ji11, hji11⟩ : ∃ j_ : Int, (wrap64 (x6_1 - 1)) = j_ := ⟨_, rfl⟩
                    replace H : (if 0 ≤ (ji11) then (if (ji11) < (l0.length : Int) then (if ((Op.bytesLess (((rd_T78 l0 (ji11)).f0).toList) (((rd_T78 l0 x6_1).f0).toList)) = true) then (aumbryref13_Right.l0 kj2 l0 (l0.length : Int) (wrap64 (x6_1 + 1))) else (some 19)) else (none)) else (none)) = some r := by first | (rw [hji11] at H; exact H) | (simp only [hji11] at H ⊢; exact H)
                    have hji11w : (IntKind.i64.wrap (x6_1 - 1)) = ji11 := (i64_w _).trans hji11
                    by_cases c12 : 0 ≤ (ji11)
                    · rw [if_pos c12] at H
                      have c12b0 : decide (0 ≤ (ji11)) = true := decide_eq_true c12
                      clear c12
                      by_cases c13 : (ji11) < (l0.length : Int)
                      · rw [if_pos c13] at H
                        have c13b0 : decide ((ji11) < (l0.length : Int)) = true := decide_eq_true c13
                        clear c13
                        by_cases c14 : ((Op.bytesLess (((rd_T78 l0 (ji11)).f0).toList) (((rd_T78 l0 x6_1).f0).toList)) = true)
                        · rw [if_pos c14] at H
                          have c14b0 : (Op.bytesLess (((rd_T78 l0 (ji11)).f0).toList) (((rd_T78 l0 x6_1).f0).toList)) = true := c14
                          clear c14
                          have H' := Aside0.mk H
                          clear H
                          have p167 : 0 ≤ (x6_1 : Int) := of_decide_eq_true (by first | (with_reducible assumption) | assumption)
                          have q167 : x6_1 < (l0.length : Int) := of_decide_eq_true (by first | (with_reducible assumption) | assumption)
                          obtain ⟨ad167, e167, hx167_0, hx167_1⟩ := at_T78 HR0.out x6_1 p167 q167
                          cases e167
                          replace p167 := eq_true p167
                          replace q167 := eq_true q167
                          have p168 : 0 ≤ ((ji11) : Int) := of_decide_eq_true (by first | (with_reducible assumption) | assumption)
                          have q168 : (ji11) < (l0.length : Int) := of_decide_eq_true (by first | (with_reducible assumption) | assumption)
                          obtain ⟨ad168, e168, hx168_0, hx168_1⟩ := at_T78 HR0.out (ji11) p168 q168
                          obtain rfl : ad167 = ad168 := (by injection e168)
                          replace p168 := eq_true p168
                          replace q168 := eq_true q168
                          go_wp2
                          repeat (go_quiet (fail); try go_wp2)
                          go_roundg kj2
                          case measure => have := HK1.out; have := HJ2.out; omega
                          case rel => exact ⟨(wrap64 (x6_1 + 1)), (by first | rfl | (simp; done) | (simp [*]; done)), H', ⟨by have := HK1.out; have := HJ2.out; omega⟩, by repeat (first | exact Drawn0.refl _ | apply Drawn0.step)⟩
                        · rw [if_neg c14] at H
                          have c14b0 : (Op.bytesLess (((rd_T78 l0 (ji11)).f0).toList) (((rd_T78 l0 x6_1).f0).toList)) = false := by simpa using c14
                          clear c14
                          obtain rfl := Option.some.inj H
                          have p167 : 0 ≤ (x6_1 : Int) := of_decide_eq_true (by first | (with_reducible assumption) | assumption)
                          have q167 : x6_1 < (l0.length : Int) := of_decide_eq_true (by first | (with_reducible assumption) | assumption)
                          obtain ⟨ad167, e167, hx167_0, hx167_1⟩ := at_T78 HR0.out x6_1 p167 q167
                          cases e167
                          replace p167 := eq_true p167
                          replace q167 := eq_true q167
                          have p168 : 0 ≤ ((ji11) : Int) := of_decide_eq_true (by first | (with_reducible assumption) | assumption)
                          have q168 : (ji11) < (l0.length : Int) := of_decide_eq_true (by first | (with_reducible assumption) | assumption)
                          obtain ⟨ad168, e168, hx168_0, hx168_1⟩ := at_T78 HR0.out (ji11) p168 q168
                          obtain rfl : ad167 = ad168 := (by injection e168)
                          replace p168 := eq_true p168
                          replace q168 := eq_true q168
                          go_wp2
                          repeat (go_quiet (fail); try go_wp2)
                          go_ret
                          exact ⟨by first | rfl | (simp; done) | (simp only [← hji11] <;> (first | rfl | simp)) | (simp [*]; done), by repeat (first | exact Drawn0.refl _ | apply Drawn0.step)⟩
                      · rw [if_neg c13] at H
                        exact absurd H (by simp)
                    · rw [if_neg c12] at H
                      exact absurd H (by simp)
                  · rw [if_neg c10] at H
                    exact absurd H (by simp)
                · rw [if_neg c9] at H
                  exact absurd H (by simp)
              · rw [if_neg c8] at H
                have c8b0 : decide (0 < x6_1) = false := decide_eq_false c8
                clear c8
                have H' := Aside0.mk H
                clear H
                go_wp2
                repeat (go_quiet (fail); try go_wp2)
                go_roundg kj2
                case measure => have := HK1.out; have := HJ2.out; omega
                case rel => exact ⟨(wrap64 (x6_1 + 1)), (by first | rfl | (simp; done) | (simp [*]; done)), H', ⟨by have := HK1.out; have := HJ2.out; omega⟩, by repeat (first | exact Drawn0.refl _ | apply Drawn0.step)⟩
      · rw [if_neg c2] at H
        have c2b0 : decide (x6_1 < (l0.length : Int)) = false := decide_eq_false c2
        clear c2
        obtain rfl := Option.some.inj H
        go_wp2
        repeat (go_quiet (fail); try go_wp2)
        go_ret
        exact ⟨by first | rfl | (simp; done) | (simp [*]; done), by repeat (first | exact Drawn0.refl _ | apply Drawn0.step)⟩

/-! ### api_Entry: function 47 -/
def api_Entry.f (l0 : List (S78)) : Option (List (S78)) := if l0.length < 4398046511104 then (some l0) else (none)
set_option maxHeartbeats 1000000 in
set_option maxRecDepth 100000 in
theorem api_Entry.nil_ (n0 c0 : Nat) (w : World) :
    Calls Try.prog 47 #[.slice none n0 c0] w fun e w' => e = .returned (.slice none 0 0) ∧ Below w.heap.size w w' := by
  have hq := fun w => Lib.run_eql_slice_nil (P := Try.prog) w 22 78 none n0 c0 0 0 Try.underlying22
  go_enter Try.func47, Try.ntmps47
  go_wp2_with fail
  go_ret
  exact ⟨rfl, Below.refl _ _⟩
set_option maxHeartbeats 1000000 in
set_option maxRecDepth 100000 in
theorem api_Entry.some_ (a : Addr) (c0 : Nat) (l0 : List (S78)) (w : World) (hr0 : Kd.C k78 w (some a) l0.length l0) (hc0 : l0.length ≤ c0) (hl : l0.length < 4398046511104) :
    Calls Try.prog 47 #[.slice (some a) l0.length c0] w fun e w' => ∃ v0_ : Value, e = .returned (v0_) ∧ Kd.R k78 78 w' w.heap.size (fun _ => True) v0_ l0 ∧ Below w.heap.size w w' := by
  have hq := fun w => Lib.run_eql_slice_nil (P := Try.prog) w 22 78 (some a) l0.length c0 0 0 Try.underlying22
  have HR0 := Aside0.mk hr0
  have HB := Aside0.mk (Below.refl w.heap.size w)
  have HE : Aside0 (Kd.R k78 78 (w.alloc (.cells #[] 78)) w.heap.size (fun _ => True) (.slice (some ⟨w.heap.size, 0, none⟩) 0 0) []) := by
    refine ⟨fun _ _ => trivial, [], ?_, Reps.none _ _⟩
    have h := World.ownsRow_lit (base := w.heap.size) (e := 78) (size := 2) w #[] 0 (Nat.le_refl _) (by simp [maxLen]) (by simp)
    rw [show k78.sz = 2 from rfl]
    simpa using h
  clear hr0
  go_enter Try.func47, Try.ntmps47
  go_wp2_with ((with_reducible refine gate_builtin (b := .append) (xs := #[.tmp 5, .tmp 6]) rfl ?_); at_builtin; refine Kd.R_append_rows k78 (w0 := w) w.heap.size rfl (.tmp 5) (.tmp 6) 22 78 (.agg #[(.string ⟨#[]⟩), (.string ⟨#[]⟩)]) 32 rfl Try.underlying22 info78 rfl (by decide) (by omega) (.slice (some ⟨w.heap.size, 0, none⟩) 0 0) ([] : List (S78)) l0 _ _ _ (fun _ => True) (fun _ => False) rfl rfl ?aO ?aR (fun _ _ h => h) (fun _ h => h.elim) ?aF ?aB ?aS ?aL ?_; (case aR => exact Kd.C_alloc HR0.out _); (case aB => exact below_alloc HB.out _); (case aF => exact (fun _ _ => trivial)); (case aO => exact HE.out); (case aS => exact (below_size (below_alloc HB.out _))); (case aL => simp; omega); intro v159 w3 ho hb hg hat; have n0_ := Aside0.mk (hb); have n1_ := Aside0.mk (ho); clear HB; have HB := n0_; have HO160 := n1_; clear n0_ n1_; clear ho hb hg hat)
  go_ret
  exact ⟨_, rfl, HO160.out, HB.out⟩
theorem api_Entry.calls (A0 : Option Addr) (c0 : Nat) (l0 : List (S78)) (r : List (S78)) (w : World) (hr0 : Kd.C k78 w A0 l0.length l0) (hc0 : l0.length ≤ c0) (h : api_Entry.f l0 = some r) :
    Calls Try.prog 47 #[.slice A0 l0.length c0] w fun e w' => ∃ v0_ : Value, e = .returned (v0_) ∧ Kd.R k78 78 w' w.heap.size (fun _ => True) v0_ r ∧ Below w.heap.size w w' := by
  unfold api_Entry.f at h
  by_cases hl : l0.length < 4398046511104
  · rw [if_pos hl] at h
    injection h with h
    subst h
    cases A0 with
    | none =>
      have h0 : l0 = [] := by
        cases l0 with
        | nil => rfl
        | cons x l => obtain ⟨ad, e, _⟩ := hr0.2.2 (by simp); cases e
      subst h0
      exact (api_Entry.nil_ 0 c0 w).mono fun e w' h => ⟨_, h.1, Kd.R_nil _ _ _ _ _, h.2⟩
    | some a => exact api_Entry.some_ a c0 l0 w hr0 hc0 hl
  · rw [if_neg hl] at h
    cases h

/-! ### leaf_Cut: function 27 -/
def leaf_Cut.l0 : Nat → List (S78) → Int → Int → Int → Int → Int → Option ((List (S78)) × (List (S78)))
  | 0, _, _, _, _, _, _ => none
  | k + 1, x0, x4, x5, x6, x7, x8 => if x8 < (x0.length : Int) then (if 0 ≤ (wrap64 (x8 - 1)) then (if (wrap64 (x8 - 1)) ≤ x8 then (if x8 ≤ (x0.length : Int) then ((leaf_Size.f k ((x0.take (x8 : Int).toNat).drop ((wrap64 (x8 - 1)) : Int).toNat)).bind fun t177 => (if x5 < 0 then (leaf_Cut.l0 k x0 x8 (mx (wrap64 (x6 + (wrap64 (t177 - 2)))) (wrap64 (x7 - (wrap64 (x6 + (wrap64 (t177 - 2))))))) (wrap64 (x6 + (wrap64 (t177 - 2)))) x7 (wrap64 (x8 + 1))) else (if (mx (wrap64 (x6 + (wrap64 (t177 - 2)))) (wrap64 (x7 - (wrap64 (x6 + (wrap64 (t177 - 2))))))) < x5 then (leaf_Cut.l0 k x0 x8 (mx (wrap64 (x6 + (wrap64 (t177 - 2)))) (wrap64 (x7 - (wrap64 (x6 + (wrap64 (t177 - 2))))))) (wrap64 (x6 + (wrap64 (t177 - 2)))) x7 (wrap64 (x8 + 1))) else (leaf_Cut.l0 k x0 x4 x5 (wrap64 (x6 + (wrap64 (t177 - 2)))) x7 (wrap64 (x8 + 1)))))) else (none)) else (none)) else (none)) else (if 0 ≤ x4 then (if x4 ≤ (x0.length : Int) then ((api_Entry.f (x0.take (x4 : Int).toNat)).bind fun t182 => ((api_Entry.f (x0.drop (x4 : Int).toNat)).bind fun t189 => (some (t182, t189)))) else (none)) else (none))
def leaf_Cut.f (k : Nat) (l0 : List (S78)) : Option ((List (S78)) × (List (S78))) := if (l0.length : Int) < 2 then ((api_Entry.f l0).bind fun t169 => (some (t169, ([] : List (S78))))) else ((leaf_Size.f k l0).bind fun t172 => (leaf_Cut.l0 k l0 1 (-1) 0 (wrap64 (t172 - 2)) 1))
theorem leaf_Cut.mono_l : ∀ k, (∀ y0 y1 y2 y3 y4 y5, LeO (leaf_Cut.l0 k y0 y1 y2 y3 y4 y5) (leaf_Cut.l0 (k + 1) y0 y1 y2 y3 y4 y5))
  | 0 => fun _ _ _ _ _ _ r h => by simp [leaf_Cut.l0] at h
  | k + 1 => by
    have ih0 := leaf_Cut.mono_l k
    · intro y0 y1 y2 y3 y4 y5
      unfold leaf_Cut.l0
      repeat' first
      | (with_reducible exact ih0 _ _ _ _ _ _)
      | (with_reducible exact leaf_Size.mono _ _)
      | (with_reducible exact LeO.refl _)
      | (with_reducible exact LeO.none _)
      | (with_reducible refine LeO.ite ?_ ?_)
      | (with_reducible refine LeO.bind ?_ (fun _ => ?_))
      | exact ih0 _ _ _ _ _ _
      | exact leaf_Size.mono _ _
      | exact LeO.none _
      | refine LeO.ite ?_ ?_
      | refine LeO.bind ?_ (fun _ => ?_)
theorem leaf_Cut.mono : ∀ a0 k, LeO (leaf_Cut.f k a0) (leaf_Cut.f (k + 1) a0) := by
  intro a0 k
  have ih0 := leaf_Cut.mono_l k
  unfold leaf_Cut.f
  repeat' first
      | (with_reducible exact ih0 _ _ _ _ _ _)
      | (with_reducible exact leaf_Size.mono _ _)
      | (with_reducible exact LeO.refl _)
      | (with_reducible exact LeO.none _)
      | (with_reducible refine LeO.ite ?_ ?_)
      | (with_reducible refine LeO.bind ?_ (fun _ => ?_))
      | exact ih0 _ _ _ _ _ _
      | exact leaf_Size.mono _ _
      | exact LeO.none _
      | refine LeO.ite ?_ ?_
      | refine LeO.bind ?_ (fun _ => ?_)
def leaf_Cut.T12 : Bool × List (List Nat × List Nat) := (true, [([], []), ([], []), ([0, 1], [0, 1]), ([2], [2]), ([], []), ([], []), ([4, 5], [4, 5]), ([6, 3], [6]), ([3, 7, 0, 1, 2, 3], [3]), ([7, 8, 0, 1, 2, 3, 4, 5, 6, 7, 8], [7])])
def leaf_Cut.B12 : List Nat := [0, 0, 3, 7, 0, 0, 48, 127, 255, 511]
theorem leaf_Cut.tab12 : rtab .any (opsOf Try.f27 12) = leaf_Cut.T12 := by kernel_rfl
theorem leaf_Cut.bits12 : waitsOk leaf_Cut.T12.2 leaf_Cut.B12 = true := by kernel_rfl
set_option maxHeartbeats 8000000 in
set_option maxRecDepth 100000 in
theorem leaf_Cut.calls (k : Nat) (A0 : Option Addr) (c0 : Nat) (l0 : List (S78)) (r1 : List (S78)) (r2 : List (S78)) (w : World) (hr0 : Kd.C k78 w A0 l0.length l0) (hc0 : l0.length ≤ c0) (h : leaf_Cut.f k l0 = some (r1, r2)) :
    Calls Try.prog 27 #[.slice A0 l0.length c0] w fun e w' => ∃ v0_ v1_ : Value, e = .returned (.tuple #[v0_, v1_]) ∧ Kd.R k78 78 w' w.heap.size (fun k_ => some k_ ≠ (v1_ : Value).ownBlock) v0_ r1 ∧ Kd.R k78 78 w' w.heap.size (fun k_ => some k_ ≠ (v0_ : Value).ownBlock) v1_ r2 ∧ Below w.heap.size w w' := by
  have HR0 := Aside0.mk hr0
  have HC0 := Aside0.mk hc0
  clear hr0 hc0
  have HB := Aside0.mk (Below.refl w.heap.size w)
  have H : (if (l0.length : Int) < 2 then ((api_Entry.f l0).bind fun t169 => (some (t169, ([] : List (S78))))) else ((leaf_Size.f k l0).bind fun t172 => (leaf_Cut.l0 k l0 1 (-1) 0 (wrap64 (t172 - 2)) 1))) = some (r1, r2) := h
  clear h
  by_cases c2 : (l0.length : Int) < 2
  · rw [if_pos c2] at H
    have c2b0 : decide ((l0.length : Int) < 2) = true := decide_eq_true c2
    have c2b1 : decide (l0.length < 2) = true := decide_eq_true (by omega)
    clear c2
    replace H := Option.bind_eq_some_iff.mp H
    obtain ⟨t169, A30, H⟩ := H
    replace H : (some (t169, ([] : List (S78)))) = some (r1, r2) := H
    have A3 := Aside0.mk A30
    clear A30
    simp only [Option.some.injEq, Prod.mk.injEq] at H
    obtain ⟨rfl, rfl⟩ := H
    go_enter Try.func27, Try.ntmps27
    go_wp2_with (first | ((with_reducible refine gate_callee (f := 47) rfl ?_); refine goesL_ (some 14) rfl rfl Try.func47 (by kernel_rfl) rfl #[.slice A0 l0.length c0] rfl (by (try simp only [List.map_toArray, List.map_cons, List.map_nil]); first | done | rfl | (simp only [List.length_drop, List.length_take]; rfl)) ?_; (with_reducible refine (api_Entry.calls _ _ l0 t169 _ ?side1 ?side2 A3.out).mono ?_); (case side1 => repeat (first | exact HR0.out | (with_reducible refine Kd.C_alloc ?_ _) | (with_reducible refine Kd.C_drewN ?_ _) | (with_reducible refine Kd.C_drew ?_))); (case side2 => exact HC0.out); rintro e w4 ⟨v170, rfl, ho0, hb⟩; refine ⟨_, rfl, ?_⟩; have n0_ := Aside0.mk (Kd.R_lower ho0 (below_size (by repeat (first | (with_reducible first | exact HB.out | apply below_alloc | apply pw_below_drewN | apply below_drew1) | exact HB.out)))); have n1_ := Aside0.mk (below_step (by repeat (first | (with_reducible first | exact HB.out | apply below_alloc | apply pw_below_drewN | apply below_drew1) | exact HB.out)) hb); clear HB; have HO171 := n0_; have HB := n1_; clear n0_ n1_; (try clear hb); (try clear hb2); (try clear hk); (try clear hi); (try clear ho0)))
    go_ret2
    exact ⟨_, _, by first | rfl | (simp [errW_none, errW_some] <;> rfl) | (simp [*, errW_none, errW_some] <;> rfl), by (with_reducible repeat (first | apply Kd.R_alloc | apply Kd.R_drewN | apply Kd.R_drew)); exact Kd.R_mono HO171.out (fun _ hk => (by simp [Value.ownBlock])), by first | exact Kd.R_nil _ _ _ _ _ | exact Kd.N_nil _ _ _ _ _ | exact Kd.V_nil _ _ _ _ _ | exact Kd.Q_nil _ _ _ _ _ | exact Kd.S_nil _ _ _ _ _, by repeat (first | (with_reducible first | exact HB.out | apply below_alloc | apply pw_below_drewN | apply below_drew1) | exact HB.out)⟩
  · rw [if_neg c2] at H
    have c2b0 : decide ((l0.length : Int) < 2) = false := decide_eq_false c2
    have c2b1 : decide (l0.length < 2) = false := decide_eq_false (by omega)
    clear c2
    replace H := Option.bind_eq_some_iff.mp H
    obtain ⟨t172, A50, H⟩ := H
    replace H : (leaf_Cut.l0 k l0 1 (-1) 0 (wrap64 (t172 - 2)) 1) = some (r1, r2) := H
    have A5 := Aside0.mk A50
    clear A50
    have H' := Aside0.mk H
    clear H
    go_enter Try.func27, Try.ntmps27
    go_wp2_with (first | ((with_reducible refine gate_callee (f := 18) rfl ?_); refine goesL_ (some 16) rfl rfl Try.func18 (by kernel_rfl) rfl #[.slice A0 l0.length c0] rfl (by (try simp only [List.map_toArray, List.map_cons, List.map_nil]); first | done | rfl | (simp only [List.length_drop, List.length_take]; rfl)) ?_; (with_reducible refine (leaf_Size.calls k _ _ l0 t172 _ ?side1 ?side2 A5.out).mono ?_); (case side1 => repeat (first | exact HR0.out | (with_reducible refine Kd.C_alloc ?_ _) | (with_reducible refine Kd.C_drewN ?_ _) | (with_reducible refine Kd.C_drew ?_))); (case side2 => exact HC0.out); rintro e w6 ⟨rfl, hb⟩; refine ⟨_, rfl, ?_⟩; have n0_ := Aside0.mk (below_step (by repeat (first | (with_reducible first | exact HB.out | apply below_alloc | apply pw_below_drewN | apply below_drew1) | exact HB.out)) hb); clear HB; have HB := n0_; clear n0_; (try clear hb); (try clear hb2); (try clear hk); (try clear hi)))
    go_loopg [4, 5, 6, 8] k (fun kq v4 v5 v6 v8 w' => ∃ (x4_1 : Int) (x5_1 : Int) (x6_1 : Int) (x8_1 : Int), v4 = .int .i64 x4_1 ∧ v5 = .int .i64 x5_1 ∧ v6 = .int .i64 x6_1 ∧ v8 = .int .i64 x8_1 ∧ Aside0 (leaf_Cut.l0 kq l0 x4_1 x5_1 x6_1 (wrap64 (t172 - 2)) x8_1 = some (r1, r2)) ∧ Aside0 (kq ≤ k) ∧ Aside0 (Below w.heap.size w w'))
    case atStart => exact ⟨(1), ((-1)), (0), (1), (by first | rfl | (simp; done) | (simp [*]; done)), (by first | rfl | (simp; done) | (simp [*]; done)), (by first | rfl | (simp; done) | (simp [*]; done)), (by first | rfl | (simp; done) | (simp [*]; done)), H', ⟨Nat.le_refl _⟩, ⟨by repeat (first | (with_reducible first | exact HB.out | apply below_alloc | apply pw_below_drewN | apply below_drew1) | exact HB.out)⟩⟩
    case round =>
      clear H'
      try clear c1
      try clear c2
      try clear c2b0
      try clear c2b1
      try clear p2
      try clear c4
      try clear p6
      obtain ⟨x4_1, x5_1, x6_1, x8_1, rfl, rfl, rfl, rfl, HA, HK1, HB⟩ := hrel
      cases gk with
      | zero => exact absurd HA.out (by simp [leaf_Cut.l0])
      | succ k1 =>
        have H := HA.out
        clear HA
        simp only [leaf_Cut.l0] at H
        by_cases c7 : x8_1 < (l0.length : Int)
        · rw [if_pos c7] at H
          have c7b0 : decide (x8_1 < (l0.length : Int)) = true := decide_eq_true c7
          clear c7
          obtain ⟨ji8, hji8⟩ : ∃ j_ : Int, (wrap64 (x8_1 - 1)) = j_ := ⟨_, rfl⟩
          replace H : (if 0 ≤ (ji8) then (if (ji8) ≤ x8_1 then (if x8_1 ≤ (l0.length : Int) then ((leaf_Size.f k1 ((l0.take (x8_1 : Int).toNat).drop ((ji8) : Int).toNat)).bind fun t177 => (if x5_1 < 0 then (leaf_Cut.l0 k1 l0 x8_1 (mx (wrap64 (x6_1 + (wrap64 (t177 - 2)))) (wrap64 ((wrap64 (t172 - 2)) - (wrap64 (x6_1 + (wrap64 (t177 - 2))))))) (wrap64 (x6_1 + (wrap64 (t177 - 2)))) (wrap64 (t172 - 2)) (wrap64 (x8_1 + 1))) else (if (mx (wrap64 (x6_1 + (wrap64 (t177 - 2)))) (wrap64 ((wrap64 (t172 - 2)) - (wrap64 (x6_1 + (wrap64 (t177 - 2))))))) < x5_1 then (leaf_Cut.l0 k1 l0 x8_1 (mx (wrap64 (x6_1 + (wrap64 (t177 - 2)))) (wrap64 ((wrap64 (t172 - 2)) - (wrap64 (x6_1 + (wrap64 (t177 - 2))))))) (wrap64 (x6_1 + (wrap64 (t177 - 2)))) (wrap64 (t172 - 2)) (wrap64 (x8_1 + 1))) else (leaf_Cut.l0 k1 l0 x4_1 x5_1 (wrap64 (x6_1 + (wrap64 (t177 - 2)))) (wrap64 (t172 - 2)) (wrap64 (x8_1 + 1)))))) else (none)) else (none)) else (none)) = some (r1, r2) := by first | (rw [hji8] at H; exact H) | (simp only [hji8] at H ⊢; exact H)
          have hji8w : (IntKind.i64.wrap (x8_1 - 1)) = ji8 := (i64_w _).trans hji8
          by_cases c9 : 0 ≤ (ji8)
          · rw [if_pos c9] at H
            have c9b0 := eq_true c9
            have c9b1 : decide (0 ≤ (ji8)) = true := decide_eq_true c9
            clear c9
            by_cases c10 : (ji8) ≤ x8_1
            · rw [if_pos c10] at H
              have c10b0 := eq_true c10
              have c10b1 : decide ((ji8) ≤ x8_1) = true := decide_eq_true c10
              clear c10
              by_cases c11 : x8_1 ≤ (l0.length : Int)
              · rw [if_pos c11] at H
                have c11b0 := eq_true c11
                have c11b1 : decide (x8_1 ≤ (l0.length : Int)) = true := decide_eq_true c11
                clear c11
                obtain ⟨y173, hy173⟩ : ∃ y_ : List (S78), y_ = ((l0.take (x8_1 : Int).toNat).drop ((ji8) : Int).toNat) := ⟨_, rfl⟩
                replace H : ((leaf_Size.f k1 y173).bind fun t177 => (if x5_1 < 0 then (leaf_Cut.l0 k1 l0 x8_1 (mx (wrap64 (x6_1 + (wrap64 (t177 - 2)))) (wrap64 ((wrap64 (t172 - 2)) - (wrap64 (x6_1 + (wrap64 (t177 - 2))))))) (wrap64 (x6_1 + (wrap64 (t177 - 2)))) (wrap64 (t172 - 2)) (wrap64 (x8_1 + 1))) else (if (mx (wrap64 (x6_1 + (wrap64 (t177 - 2)))) (wrap64 ((wrap64 (t172 - 2)) - (wrap64 (x6_1 + (wrap64 (t177 - 2))))))) < x5_1 then (leaf_Cut.l0 k1 l0 x8_1 (mx (wrap64 (x6_1 + (wrap64 (t177 - 2)))) (wrap64 ((wrap64 (t172 - 2)) - (wrap64 (x6_1 + (wrap64 (t177 - 2))))))) (wrap64 (x6_1 + (wrap64 (t177 - 2)))) (wrap64 (t172 - 2)) (wrap64 (x8_1 + 1))) else (leaf_Cut.l0 k1 l0 x4_1 x5_1 (wrap64 (x6_1 + (wrap64 (t177 - 2)))) (wrap64 (t172 - 2)) (wrap64 (x8_1 + 1)))))) = some (r1, r2) := by first | (rw [hy173]; with_reducible exact H) | (have H2_ := (Option.bind_some _ _).symm.trans H; rw [hy173]; with_reducible exact H2_) | (have H2_ := (Option.bind_some _ _).symm.trans H; with_reducible exact H2_) | with_reducible exact H | (rw [hy173]; exact H) | exact H
                have Ny173 := Aside0.mk hy173
                clear hy173
                replace H := Option.bind_eq_some_iff.mp H
                obtain ⟨t177, A120, H⟩ := H
                replace H : (if x5_1 < 0 then (leaf_Cut.l0 k1 l0 x8_1 (mx (wrap64 (x6_1 + (wrap64 (t177 - 2)))) (wrap64 ((wrap64 (t172 - 2)) - (wrap64 (x6_1 + (wrap64 (t177 - 2))))))) (wrap64 (x6_1 + (wrap64 (t177 - 2)))) (wrap64 (t172 - 2)) (wrap64 (x8_1 + 1))) else (if (mx (wrap64 (x6_1 + (wrap64 (t177 - 2)))) (wrap64 ((wrap64 (t172 - 2)) - (wrap64 (x6_1 + (wrap64 (t177 - 2))))))) < x5_1 then (leaf_Cut.l0 k1 l0 x8_1 (mx (wrap64 (x6_1 + (wrap64 (t177 - 2)))) (wrap64 ((wrap64 (t172 - 2)) - (wrap64 (x6_1 + (wrap64 (t177 - 2))))))) (wrap64 (x6_1 + (wrap64 (t177 - 2)))) (wrap64 (t172 - 2)) (wrap64 (x8_1 + 1))) else (leaf_Cut.l0 k1 l0 x4_1 x5_1 (wrap64 (x6_1 + (wrap64 (t177 - 2)))) (wrap64 (t172 - 2)) (wrap64 (x8_1 + 1))))) = some (r1, r2) := H
                have A12 := Aside0.mk A120
                clear A120
                obtain ⟨ji13, hji13⟩ : ∃ j_ : Int, (mx (wrap64 (x6_1 + (wrap64 (t177 - 2)))) (wrap64 ((wrap64 (t172 - 2)) - (wrap64 (x6_1 + (wrap64 (t177 - 2))))))) = j_ := ⟨_, rfl⟩
                replace H : (if x5_1 < 0 then (leaf_Cut.l0 k1 l0 x8_1 ji13 (wrap64 (x6_1 + (wrap64 (t177 - 2)))) (wrap64 (t172 - 2)) (wrap64 (x8_1 + 1))) else (if (ji13) < x5_1 then (leaf_Cut.l0 k1 l0 x8_1 ji13 (wrap64 (x6_1 + (wrap64 (t177 - 2)))) (wrap64 (t172 - 2)) (wrap64 (x8_1 + 1))) else (leaf_Cut.l0 k1 l0 x4_1 x5_1 (wrap64 (x6_1 + (wrap64 (t177 - 2)))) (wrap64 (t172 - 2)) (wrap64 (x8_1 + 1))))) = some (r1, r2) := by first | (rw [hji13] at H; exact H) | (simp only [hji13] at H ⊢; exact H)
                (try rw [hji13] at A12)
                have hji13_ : (if (wrap64 (x6_1 + (wrap64 (t177 - 2)))) < (wrap64 ((wrap64 (t172 - 2)) - (wrap64 (x6_1 + (wrap64 (t177 - 2)))))) then (wrap64 ((wrap64 (t172 - 2)) - (wrap64 (x6_1 + (wrap64 (t177 - 2)))))) else (wrap64 (x6_1 + (wrap64 (t177 - 2))))) = ji13 := hji13
                by_cases c14 : x5_1 < 0
                · rw [if_pos c14] at H
                  have c14b0 : decide (x5_1 < 0) = true := decide_eq_true c14
                  clear c14
                  have H' := Aside0.mk H
                  clear H
                  have q15 : (x8_1 : Int) ≤ ((l0.length : Int) : Int) := of_decide_eq_true (by first | (with_reducible assumption) | assumption)
                  obtain ⟨i015, hi015, _, hsz15, _⟩ := info_parts info78
                  have hroom15 : l0.length ≤ c0 := HC0.out
                  have hC15 : Kd.C k78 _ A0 l0.length l0 := HR0.out
                  have ql15 : ((ji8) : Int) ≤ (x8_1 : Int) := of_decide_eq_true (by first | (with_reducible assumption) | assumption)
                  have q015 : (0 : Int) ≤ ((ji8) : Int) := of_decide_eq_true (by first | (with_reducible assumption) | assumption)
                  have hcut15 := cut_mid (P := Try.prog) 22 78 .i64 .i64 Try.underlying22 hi015 2 hsz15 A0 l0.length c0 (ji8) x8_1 q015 ql15 q15 hroom15
                  have hr15 := Kd.C_mid (lo := ((ji8) : Int).toNat) (hi := (x8_1 : Int).toNat) (c := c0) hC15 (by omega) (by omega) hroom15
                  obtain ⟨A15, hA15⟩ : ∃ A1, A1 = (if c0 = ((ji8) : Int).toNat then A0 else (A0 : Option Addr).map (·.add (((ji8) : Int).toNat * 2))) := ⟨_, rfl⟩
                  obtain ⟨c15, hc15⟩ : ∃ c1, c1 = c0 - ((ji8) : Int).toNat := ⟨_, rfl⟩
                  have hy15 : y173.length = (x8_1 : Int).toNat - ((ji8) : Int).toNat := (by rw [Ny173.out, List.length_drop, List.length_take] <;> omega)
                  rw [show ((l0).take (x8_1 : Int).toNat).drop ((ji8) : Int).toNat = y173 from Ny173.out.symm] at hr15
                  replace hr15 : Kd.C k78 _ A15 y173.length y173 := (by rw [hA15]; exact hr15)
                  rw [← hy15, ← hA15, ← hc15] at hcut15
                  have HR176 := Aside0.mk hr15
                  have HC176 := Aside0.mk (show y173.length ≤ c15 from by rw [hy15, hc15]; exact Nat.sub_le_sub_right (Nat.le_trans (by omega) hroom15) _)
                  clear hr15 hC15 hroom15 hi015 hsz15 hc15
                  have KY15 := Aside0.mk hy15
                  have KA15 := Aside0.mk hA15
                  clear hy15 hA15
                  replace q15 := eq_true q15
                  go_wp2_with (first | ((with_reducible refine gate_callee (f := 18) rfl ?_); refine goesL_ (some 30) rfl rfl Try.func18 (by kernel_rfl) rfl #[.slice A15 y173.length c15] rfl (by (try simp only [List.map_toArray, List.map_cons, List.map_nil]); first | done | rfl | (simp only [List.length_drop, List.length_take]; rfl)) ?_; (with_reducible refine (leaf_Size.calls k1 _ _ y173 t177 _ ?side1 ?side2 A12.out).mono ?_); (case side1 => repeat (first | exact (Kd.C_below HR176.out HB.out) | (with_reducible refine Kd.C_alloc ?_ _) | (with_reducible refine Kd.C_drewN ?_ _) | (with_reducible refine Kd.C_drew ?_))); (case side2 => exact HC176.out); rintro e w16 ⟨rfl, hb⟩; refine ⟨_, rfl, ?_⟩; have n0_ := Aside0.mk (below_step (by repeat (first | (with_reducible first | exact HB.out | apply below_alloc | apply pw_below_drewN | apply below_drew1) | exact HB.out)) hb); clear HB; have HB := n0_; clear n0_; (try clear hb); (try clear hb2); (try clear hk); (try clear hi)))
                  go_roundg k1
                  case measure => have := HK1.out; omega
                  case rel => exact ⟨(x8_1), (ji13), (wrap64 (x6_1 + (wrap64 (t177 - 2)))), (wrap64 (x8_1 + 1)), (by first | rfl | (simp; done) | (simp [*]; done)), (by first | rfl | (simp; done) | (simp only [← hji13] <;> (first | rfl | simp)) | (simp [*]; done)), (by first | rfl | (simp; done) | (simp [*]; done)), (by first | rfl | (simp; done) | (simp [*]; done)), H', ⟨by have := HK1.out; omega⟩, ⟨by repeat (first | (with_reducible first | exact HB.out | apply below_alloc | apply pw_below_drewN | apply below_drew1) | exact HB.out)⟩⟩
                · rw [if_neg c14] at H
                  have c14b0 : decide (x5_1 < 0) = false := decide_eq_false c14
                  clear c14
                  by_cases c17 : (ji13) < x5_1
                  · rw [if_pos c17] at H
                    have c17b0 : decide ((ji13) < x5_1) = true := decide_eq_true c17
                    clear c17
                    have H' := Aside0.mk H
                    clear H
                    have q18 : (x8_1 : Int) ≤ ((l0.length : Int) : Int) := of_decide_eq_true (by first | (with_reducible assumption) | assumption)
                    obtain ⟨i018, hi018, _, hsz18, _⟩ := info_parts info78
                    have hroom18 : l0.length ≤ c0 := HC0.out
                    have hC18 : Kd.C k78 _ A0 l0.length l0 := HR0.out
                    have ql18 : ((ji8) : Int) ≤ (x8_1 : Int) := of_decide_eq_true (by first | (with_reducible assumption) | assumption)
                    have q018 : (0 : Int) ≤ ((ji8) : Int) := of_decide_eq_true (by first | (with_reducible assumption) | assumption)
                    have hcut18 := cut_mid (P := Try.prog) 22 78 .i64 .i64 Try.underlying22 hi018 2 hsz18 A0 l0.length c0 (ji8) x8_1 q018 ql18 q18 hroom18
                    have hr18 := Kd.C_mid (lo := ((ji8) : Int).toNat) (hi := (x8_1 : Int).toNat) (c := c0) hC18 (by omega) (by omega) hroom18
                    obtain ⟨A18, hA18⟩ : ∃ A1, A1 = (if c0 = ((ji8) : Int).toNat then A0 else (A0 : Option Addr).map (·.add (((ji8) : Int).toNat * 2))) := ⟨_, rfl⟩
                    obtain ⟨c18, hc18⟩ : ∃ c1, c1 = c0 - ((ji8) : Int).toNat := ⟨_, rfl⟩
                    have hy18 : y173.length = (x8_1 : Int).toNat - ((ji8) : Int).toNat := (by rw [Ny173.out, List.length_drop, List.length_take] <;> omega)
                    rw [show ((l0).take (x8_1 : Int).toNat).drop ((ji8) : Int).toNat = y173 from Ny173.out.symm] at hr18
                    replace hr18 : Kd.C k78 _ A18 y173.length y173 := (by rw [hA18]; exact hr18)
                    rw [← hy18, ← hA18, ← hc18] at hcut18
                    have HR176 := Aside0.mk hr18
                    have HC176 := Aside0.mk (show y173.length ≤ c18 from by rw [hy18, hc18]; exact Nat.sub_le_sub_right (Nat.le_trans (by omega) hroom18) _)
                    clear hr18 hC18 hroom18 hi018 hsz18 hc18
                    have KY18 := Aside0.mk hy18
                    have KA18 := Aside0.mk hA18
                    clear hy18 hA18
                    replace q18 := eq_true q18
                    go_wp2_with (first | ((with_reducible refine gate_callee (f := 18) rfl ?_); refine goesL_ (some 30) rfl rfl Try.func18 (by kernel_rfl) rfl #[.slice A18 y173.length c18] rfl (by (try simp only [List.map_toArray, List.map_cons, List.map_nil]); first | done | rfl | (simp only [List.length_drop, List.length_take]; rfl)) ?_; (with_reducible refine (leaf_Size.calls k1 _ _ y173 t177 _ ?side1 ?side2 A12.out).mono ?_); (case side1 => repeat (first | exact (Kd.C_below HR176.out HB.out) | (with_reducible refine Kd.C_alloc ?_ _) | (with_reducible refine Kd.C_drewN ?_ _) | (with_reducible refine Kd.C_drew ?_))); (case side2 => exact HC176.out); rintro e w19 ⟨rfl, hb⟩; refine ⟨_, rfl, ?_⟩; have n0_ := Aside0.mk (below_step (by repeat (first | (with_reducible first | exact HB.out | apply below_alloc | apply pw_below_drewN | apply below_drew1) | exact HB.out)) hb); clear HB; have HB := n0_; clear n0_; (try clear hb); (try clear hb2); (try clear hk); (try clear hi)))
                    go_roundg k1
                    case measure => have := HK1.out; omega
                    case rel => exact ⟨(x8_1), (ji13), (wrap64 (x6_1 + (wrap64 (t177 - 2)))), (wrap64 (x8_1 + 1)), (by first | rfl | (simp; done) | (simp [*]; done)), (by first | rfl | (simp; done) | (simp only [← hji13] <;> (first | rfl | simp)) | (simp [*]; done)), (by first | rfl | (simp; done) | (simp [*]; done)), (by first | rfl | (simp; done) | (simp [*]; done)), H', ⟨by have := HK1.out; omega⟩, ⟨by repeat (first | (with_reducible first | exact HB.out | apply below_alloc | apply pw_below_drewN | apply below_drew1) | exact HB.out)⟩⟩
                  · rw [if_neg c17] at H
                    have c17b0 : decide ((ji13) < x5_1) = false := decide_eq_false c17
                    clear c17
                    have H' := Aside0.mk H
                    clear H
                    have q20 : (x8_1 : Int) ≤ ((l0.length : Int) : Int) := of_decide_eq_true (by first | (with_reducible assumption) | assumption)
                    obtain ⟨i020, hi020, _, hsz20, _⟩ := info_parts info78
                    have hroom20 : l0.length ≤ c0 := HC0.out
                    have hC20 : Kd.C k78 _ A0 l0.length l0 := HR0.out
                    have ql20 : ((ji8) : Int) ≤ (x8_1 : Int) := of_decide_eq_true (by first | (with_reducible assumption) | assumption)
                    have q020 : (0 : Int) ≤ ((ji8) : Int) := of_decide_eq_true (by first | (with_reducible assumption) | assumption)
                    have hcut20 := cut_mid (P := Try.prog) 22 78 .i64 .i64 Try.underlying22 hi020 2 hsz20 A0 l0.length c0 (ji8) x8_1 q020 ql20 q20 hroom20
                    have hr20 := Kd.C_mid (lo := ((ji8) : Int).toNat) (hi := (x8_1 : Int).toNat) (c := c0) hC20 (by omega) (by omega) hroom20
                    obtain ⟨A20, hA20⟩ : ∃ A1, A1 = (if c0 = ((ji8) : Int).toNat then A0 else (A0 : Option Addr).map (·.add (((ji8) : Int).toNat * 2))) := ⟨_, rfl⟩
                    obtain ⟨c20, hc20⟩ : ∃ c1, c1 = c0 - ((ji8) : Int).toNat := ⟨_, rfl⟩
                    have hy20 : y173.length = (x8_1 : Int).toNat - ((ji8) : Int).toNat := (by rw [Ny173.out, List.length_drop, List.length_take] <;> omega)
                    rw [show ((l0).take (x8_1 : Int).toNat).drop ((ji8) : Int).toNat = y173 from Ny173.out.symm] at hr20
                    replace hr20 : Kd.C k78 _ A20 y173.length y173 := (by rw [hA20]; exact hr20)
                    rw [← hy20, ← hA20, ← hc20] at hcut20
                    have HR176 := Aside0.mk hr20
                    have HC176 := Aside0.mk (show y173.length ≤ c20 from by rw [hy20, hc20]; exact Nat.sub_le_sub_right (Nat.le_trans (by omega) hroom20) _)
                    clear hr20 hC20 hroom20 hi020 hsz20 hc20
                    have KY20 := Aside0.mk hy20
                    have KA20 := Aside0.mk hA20
                    clear hy20 hA20
                    replace q20 := eq_true q20
                    go_wp2_with (first | ((with_reducible refine gate_callee (f := 18) rfl ?_); refine goesL_ (some 30) rfl rfl Try.func18 (by kernel_rfl) rfl #[.slice A20 y173.length c20] rfl (by (try simp only [List.map_toArray, List.map_cons, List.map_nil]); first | done | rfl | (simp only [List.length_drop, List.length_take]; rfl)) ?_; (with_reducible refine (leaf_Size.calls k1 _ _ y173 t177 _ ?side1 ?side2 A12.out).mono ?_); (case side1 => repeat (first | exact (Kd.C_below HR176.out HB.out) | (with_reducible refine Kd.C_alloc ?_ _) | (with_reducible refine Kd.C_drewN ?_ _) | (with_reducible refine Kd.C_drew ?_))); (case side2 => exact HC176.out); rintro e w21 ⟨rfl, hb⟩; refine ⟨_, rfl, ?_⟩; have n0_ := Aside0.mk (below_step (by repeat (first | (with_reducible first | exact HB.out | apply below_alloc | apply pw_below_drewN | apply below_drew1) | exact HB.out)) hb); clear HB; have HB := n0_; clear n0_; (try clear hb); (try clear hb2); (try clear hk); (try clear hi)))
                    go_roundg k1
                    case measure => have := HK1.out; omega
                    case rel => exact ⟨(x4_1), (x5_1), (wrap64 (x6_1 + (wrap64 (t177 - 2)))), (wrap64 (x8_1 + 1)), (by first | rfl | (simp; done) | (simp [*]; done)), (by first | rfl | (simp; done) | (simp [*]; done)), (by first | rfl | (simp; done) | (simp [*]; done)), (by first | rfl | (simp; done) | (simp [*]; done)), H', ⟨by have := HK1.out; omega⟩, ⟨by repeat (first | (with_reducible first | exact HB.out | apply below_alloc | apply pw_below_drewN | apply below_drew1) | exact HB.out)⟩⟩
              · rw [if_neg c11] at H
                exact absurd H (by simp)
            · rw [if_neg c10] at H
              exact absurd H (by simp)
          · rw [if_neg c9] at H
            exact absurd H (by simp)
        · rw [if_neg c7] at H
          have c7b0 : decide (x8_1 < (l0.length : Int)) = false := decide_eq_false c7
          clear c7
          by_cases c22 : 0 ≤ x4_1
          · rw [if_pos c22] at H
            have c22b0 := eq_true c22
            have c22b1 : decide (0 ≤ x4_1) = true := decide_eq_true c22
            clear c22
            by_cases c23 : x4_1 ≤ (l0.length : Int)
            · rw [if_pos c23] at H
              have c23b0 := eq_true c23
              have c23b1 : decide (x4_1 ≤ (l0.length : Int)) = true := decide_eq_true c23
              clear c23
              obtain ⟨y178, hy178⟩ : ∃ y_ : List (S78), y_ = (l0.take (x4_1 : Int).toNat) := ⟨_, rfl⟩
              replace H : ((api_Entry.f y178).bind fun t182 => ((api_Entry.f (l0.drop (x4_1 : Int).toNat)).bind fun t189 => (some (t182, t189)))) = some (r1, r2) := by first | (rw [hy178]; with_reducible exact H) | (have H2_ := (Option.bind_some _ _).symm.trans H; rw [hy178]; with_reducible exact H2_) | (have H2_ := (Option.bind_some _ _).symm.trans H; with_reducible exact H2_) | with_reducible exact H | (rw [hy178]; exact H) | exact H
              have Ny178 := Aside0.mk hy178
              clear hy178
              replace H := Option.bind_eq_some_iff.mp H
              obtain ⟨t182, A240, H⟩ := H
              replace H : ((api_Entry.f (l0.drop (x4_1 : Int).toNat)).bind fun t189 => (some (t182, t189))) = some (r1, r2) := H
              have A24 := Aside0.mk A240
              clear A240
              have c25b0 := eq_true (of_decide_eq_true (by first | (with_reducible assumption) | assumption) : 0 ≤ x4_1)
              have c26b0 := eq_true (of_decide_eq_true (by first | (with_reducible assumption) | assumption) : x4_1 ≤ (l0.length : Int))
              obtain ⟨y185, hy185⟩ : ∃ y_ : List (S78), y_ = (l0.drop (x4_1 : Int).toNat) := ⟨_, rfl⟩
              replace H : ((api_Entry.f y185).bind fun t189 => (some (t182, t189))) = some (r1, r2) := by first | (rw [hy185]; with_reducible exact H) | (have H2_ := (Option.bind_some _ _).symm.trans H; rw [hy185]; with_reducible exact H2_) | (have H2_ := (Option.bind_some _ _).symm.trans H; with_reducible exact H2_) | with_reducible exact H | (rw [hy185]; exact H) | exact H
              have Ny185 := Aside0.mk hy185
              clear hy185
              replace H := Option.bind_eq_some_iff.mp H
              obtain ⟨t189, A270, H⟩ := H
              replace H : (some (t182, t189)) = some (r1, r2) := H
              have A27 := Aside0.mk A270
              clear A270
              simp only [Option.some.injEq, Prod.mk.injEq] at H
              obtain ⟨rfl, rfl⟩ := H
              try go_wp2
              have n0_ := Aside0.mk (below_drew1 HB.out)
              clear HB
              have HB := n0_
              clear n0_
              have q29 : (x4_1 : Int) ≤ ((l0.length : Int) : Int) := of_decide_eq_true (by first | (with_reducible assumption) | assumption)
              obtain ⟨i029, hi029, _, hsz29, _⟩ := info_parts info78
              have hroom29 : l0.length ≤ c0 := HC0.out
              have hC29 : Kd.C k78 _ A0 l0.length l0 := HR0.out
              have hcut29 := cut_to (P := Try.prog) 22 78 .i64 Try.underlying22 hi029 A0 l0.length c0 x4_1 (of_decide_eq_true (by first | (with_reducible assumption) | assumption)) q29 hroom29
              have hr29 := Kd.C_take (m := (x4_1 : Int).toNat) hC29 (by omega)
              have hy29 : y178.length = (x4_1 : Int).toNat := (by rw [Ny178.out, List.length_take]; omega)
              rw [← Ny178.out] at hr29
              rw [← hy29] at hcut29
              have HR181 := Aside0.mk hr29
              have HC181 := Aside0.mk (show y178.length ≤ c0 from by omega)
              clear hr29 hC29 hroom29 hi029 hsz29
              have KY29 := Aside0.mk hy29
              clear hy29
              replace q29 := eq_true q29
              have q30 : (x4_1 : Int) ≤ ((l0.length : Int) : Int) := of_decide_eq_true (by first | (with_reducible assumption) | assumption)
              obtain ⟨i030, hi030, _, hsz30, _⟩ := info_parts info78
              have hroom30 : l0.length ≤ c0 := HC0.out
              have hC30 : Kd.C k78 _ A0 l0.length l0 := HR0.out
              have q030 : (0 : Int) ≤ (x4_1 : Int) := of_decide_eq_true (by first | (with_reducible assumption) | assumption)
              have hcut30 := cut_from (P := Try.prog) 22 78 .i64 Try.underlying22 hi030 2 hsz30 A0 l0.length c0 x4_1 q030 q30
              have hr30 := Kd.C_drop (m := (x4_1 : Int).toNat) (c := c0) hC30 (by omega) hroom30
              obtain ⟨A30, hA30⟩ : ∃ A1, A1 = (if c0 = (x4_1 : Int).toNat then A0 else (A0 : Option Addr).map (·.add ((x4_1 : Int).toNat * 2))) := ⟨_, rfl⟩
              obtain ⟨c30, hc30⟩ : ∃ c1, c1 = c0 - (x4_1 : Int).toNat := ⟨_, rfl⟩
              have hy30 : y185.length = l0.length - (x4_1 : Int).toNat := (by rw [Ny185.out, List.length_drop] <;> omega)
              rw [show (l0).drop (x4_1 : Int).toNat = y185 from Ny185.out.symm] at hr30
              replace hr30 : Kd.C k78 _ A30 y185.length y185 := (by rw [hA30]; exact hr30)
              rw [← hy30, ← hA30, ← hc30] at hcut30
              have HR188 := Aside0.mk hr30
              have HC188 := Aside0.mk (show y185.length ≤ c30 from by rw [hy30, hc30]; exact Nat.sub_le_sub_right hroom30 _)
              clear hr30 hC30 hroom30 hi030 hsz30 hc30
              have KY30 := Aside0.mk hy30
              have KA30 := Aside0.mk hA30
              clear hy30 hA30
              replace q30 := eq_true q30
              refine start_ (n := 10) (S := fun w' => True) (ds := []) #[false, false, false, false, false, false, false, false, false, false] (by kernel_rfl) rfl rfl trivial (fun hHeld => ?_); refine with_tabW leaf_Cut.tab12 leaf_Cut.bits12 (fun HT_ HW_ => ?_)
              generalize wr.drew = w28 at HB HR181 HR188 hHeld ⊢
              refine pure_ (i := 0) (N := some 47) (v := ?_) (a' := ?_) #[true, false, false, false, false, false, false, false, false, false] rfl rfl (any_of HT_.out (by kernel_rfl)) (fun _ _ _ h => h) (Or.inl ⟨by rfl, ?_⟩) ?_ ?_
              rotate_left
              · intro w'
                go_simp
                with_reducible rfl
              rotate_left
              · simp only [Act.put, List.setIfInBounds_toArray, List.set_cons_zero, List.set_cons_succ, i64_w, i32_w]
                rfl
              refine pure_ (i := 1) (N := some 48) (v := ?_) (a' := ?_) #[true, true, false, false, false, false, false, false, false, false] rfl rfl (any_of HT_.out (by kernel_rfl)) (fun _ _ _ h => h) (Or.inl ⟨by rfl, ?_⟩) ?_ ?_
              rotate_left
              · intro w'
                go_simp
                with_reducible rfl
              rotate_left
              · simp only [Act.put, List.setIfInBounds_toArray, List.set_cons_zero, List.set_cons_succ, i64_w, i32_w]
                rfl
              refine pure_ (i := 2) (N := some 49) (v := ?_) (a' := ?_) #[true, true, true, false, false, false, false, false, false, false] rfl rfl (any_of HT_.out (by kernel_rfl)) (fun _ _ _ h => h) (Or.inl ⟨by rfl, ?_⟩) ?_ ?_
              rotate_left
              · intro w'
                go_simp
                with_reducible rfl
              rotate_left
              · simp only [Act.put, List.setIfInBounds_toArray, List.set_cons_zero, List.set_cons_succ, i64_w, i32_w]
                rfl
              refine pure_ (i := 4) (N := some 51) (v := ?_) (a' := ?_) #[true, true, true, false, true, false, false, false, false, false] rfl rfl (any_of HT_.out (by kernel_rfl)) (fun _ _ _ h => h) (Or.inl ⟨by rfl, ?_⟩) ?_ ?_
              rotate_left
              · intro w'
                go_simp
                with_reducible rfl
              rotate_left
              · simp only [Act.put, List.setIfInBounds_toArray, List.set_cons_zero, List.set_cons_succ, i64_w, i32_w]
                rfl
              refine pure_ (i := 5) (N := some 52) (v := ?_) (a' := ?_) #[true, true, true, false, true, true, false, false, false, false] rfl rfl (any_of HT_.out (by kernel_rfl)) (fun _ _ _ h => h) (Or.inl ⟨by rfl, ?_⟩) ?_ ?_
              rotate_left
              · intro w'
                go_simp
                with_reducible rfl
              rotate_left
              · simp only [Act.put, List.setIfInBounds_toArray, List.set_cons_zero, List.set_cons_succ, i64_w, i32_w]
                rfl
              refine pure_ (i := 6) (N := some 53) (v := ?_) (a' := ?_) #[true, true, true, false, true, true, true, false, false, false] rfl rfl (any_of HT_.out (by kernel_rfl)) (fun _ _ _ h => h) (Or.inl ⟨by rfl, ?_⟩) ?_ ?_
              rotate_left
              · intro w'
                go_simp
                with_reducible rfl
              rotate_left
              · simp only [Act.put, List.setIfInBounds_toArray, List.set_cons_zero, List.set_cons_succ, i64_w, i32_w]
                rfl
              refine one_ (i := 3) (N := some 50) #[true, true, true, true, true, true, true, false, false, false] rfl rfl (one_of HT_.out (by kernel_rfl)) (by decide) (fun K hK => ?_)
              refine goes_ Try.func47 (by kernel_rfl) rfl #[.slice A0 y178.length c0] (by rfl) rfl rfl (by (try simp only [List.map_toArray, List.map_cons, List.map_nil]); first | done | rfl | (simp only [List.length_drop, List.length_take]; rfl)) ?_
              with_reducible refine (api_Entry.calls _ _ y178 t182 _ ?side1 ?side2 A24.out).mono ?_
              (case side1 => repeat (first | exact (Kd.C_below HR181.out HB.out) | (with_reducible refine Kd.C_alloc ?_ _) | (with_reducible refine Kd.C_drewN ?_ _) | (with_reducible refine Kd.C_drew ?_)))
              (case side2 => exact HC181.out)
              rintro e w31 ⟨v183, rfl, ho0, hb⟩
              refine ⟨_, rfl, ?_⟩
              have n0_ := Aside0.mk (Kd.R_lower ho0 (below_size (by repeat (first | (with_reducible first | exact HB.out | apply below_alloc | apply pw_below_drewN | apply below_drew1) | exact HB.out))))
              have n1_ := Aside0.mk (below_step (by repeat (first | (with_reducible first | exact HB.out | apply below_alloc | apply pw_below_drewN | apply below_drew1) | exact HB.out)) hb)
              clear HB
              have HO184 := n0_
              have HB := n1_
              clear n0_ n1_
              (try clear hb)
              (try clear hb2)
              (try clear hk)
              (try clear hi)
              (try clear ho0)
              refine hK.out _ _ trivial (fun hHeld => ?_)
              clear hK K
              refine norm_ (a' := ?_) ?_ ?_
              rotate_left
              · show Act.put _ (some 50) _ = _
                simp only [Act.put, List.setIfInBounds_toArray, List.set_cons_zero, List.set_cons_succ, i64_w, i32_w]
                rfl
              refine one_ (i := 7) (N := some 54) #[true, true, true, true, true, true, true, true, false, false] rfl rfl (one_of HT_.out (by kernel_rfl)) (by decide) (fun K hK => ?_)
              refine goes_ Try.func47 (by kernel_rfl) rfl #[.slice A30 y185.length c30] (by rfl) rfl rfl (by (try simp only [List.map_toArray, List.map_cons, List.map_nil]); first | done | rfl | (simp only [List.length_drop, List.length_take]; rfl)) ?_
              with_reducible refine (api_Entry.calls _ _ y185 t189 _ ?side1 ?side2 A27.out).mono ?_
              (case side1 => repeat (first | exact (Kd.C_below HR188.out HB.out) | (with_reducible refine Kd.C_alloc ?_ _) | (with_reducible refine Kd.C_drewN ?_ _) | (with_reducible refine Kd.C_drew ?_)))
              (case side2 => exact HC188.out)
              rintro e w32 ⟨v190, rfl, ho0, hb⟩
              refine ⟨_, rfl, ?_⟩
              have n0_ := Aside0.mk (Kd.R_elder' (by (with_reducible repeat (first | apply Kd.R_alloc | apply Kd.R_drewN | apply Kd.R_drew)); exact HO184.out) (Kd.R_base ho0) hb)
              have n1_ := Aside0.mk (Kd.R_lower (Kd.R_new' ho0 (Kd.R_lt (by (with_reducible repeat (first | apply Kd.R_alloc | apply Kd.R_drewN | apply Kd.R_drew)); exact HO184.out))) (below_size (by repeat (first | (with_reducible first | exact HB.out | apply below_alloc | apply pw_below_drewN | apply below_drew1) | exact HB.out))))
              have n2_ := Aside0.mk (below_step (by repeat (first | (with_reducible first | exact HB.out | apply below_alloc | apply pw_below_drewN | apply below_drew1) | exact HB.out)) hb)
              clear HO184
              clear HB
              have HO184 := n0_
              have HO191 := n1_
              have HB := n2_
              clear n0_ n1_ n2_
              (try clear hb)
              (try clear hb2)
              (try clear hk)
              (try clear hi)
              (try clear ho0)
              refine hK.out _ _ trivial (fun hHeld => ?_)
              clear hK K
              refine norm_ (a' := ?_) ?_ ?_
              rotate_left
              · show Act.put _ (some 54) _ = _
                simp only [Act.put, List.setIfInBounds_toArray, List.set_cons_zero, List.set_cons_succ, i64_w, i32_w]
                rfl
              refine pure_ (i := 8) (N := some 2) (v := ?_) (a' := ?_) #[true, true, true, true, true, true, true, true, true, false] rfl rfl (any_of HT_.out (by kernel_rfl)) (fun _ _ _ h => h) (Or.inl ⟨by rfl, ?_⟩) ?_ ?_
              rotate_left
              · intro w'
                go_simp
                with_reducible rfl
              rotate_left
              · simp only [Act.put, List.setIfInBounds_toArray, List.set_cons_zero, List.set_cons_succ, i64_w, i32_w]
                rfl
              refine pure_ (i := 9) (N := some 3) (v := ?_) (a' := ?_) #[true, true, true, true, true, true, true, true, true, true] rfl rfl (any_of HT_.out (by kernel_rfl)) (fun _ _ _ h => h) (Or.inl ⟨by rfl, ?_⟩) ?_ ?_
              rotate_left
              · intro w'
                go_simp
                with_reducible rfl
              rotate_left
              · simp only [Act.put, List.setIfInBounds_toArray, List.set_cons_zero, List.set_cons_succ, i64_w, i32_w]
                rfl
              refine done_ (done_of HT_.out (by kernel_rfl)) ?_
              try go_wp2
              go_ret2
              exact ⟨_, _, by first | rfl | (simp [errW_none, errW_some] <;> rfl) | (simp [*, errW_none, errW_some] <;> rfl), by (with_reducible repeat (first | apply Kd.R_alloc | apply Kd.R_drewN | apply Kd.R_drew)); exact Kd.R_mono HO184.out (fun _ hk => hk.2), by (with_reducible repeat (first | apply Kd.R_alloc | apply Kd.R_drewN | apply Kd.R_drew)); exact Kd.R_mono HO191.out (fun _ hk => hk.2), by repeat (first | (with_reducible first | exact HB.out | apply below_alloc | apply pw_below_drewN | apply below_drew1) | exact HB.out)⟩
            · rw [if_neg c23] at H
              exact absurd H (by simp)
          · rw [if_neg c22] at H
            exact absurd H (by simp)

end Go.Proofs.Ytdieanikopjbjaa.QLeafC
