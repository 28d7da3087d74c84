-- PRINTED BY print.sh 35421559b90ae4d0a3588c463048766b98c2df88dd9212a6774a882060cdf62d: not written by this session
import Derived.Test.YtaefejbhdbljaaaPMixSumsx0
namespace Go.Proofs.Ytaefejbhdbljaaa.PMixSums
open Go.RowKit Go.Proofs.YtaefejbhdbljaaaW.PrintWords Go.Proofs.YtaefejbhdbljaaaW.PrintLast Go.Proofs.YtaefejbhdbljaaaW.PrintMore
attribute [local go_sem] max2_int min2_int max_two min_two max_three min_three max_four min_four   -- for this text's walks alone
set_option linter.unusedVariables false
set_option linter.unusedSimpArgs false

/-! ### mix_More: function 17 -/
def mix_More.l0 : Nat → ByteArray → Int → Int → Int → Int → Option (Int)
  | 0, _, _, _, _, _ => none
  | k + 1, x1, x5, x6, x15, x16 => if x16 < x15 then (if 0 ≤ x16 then (if x16 < (x1.size : Int) then (mix_More.l0 k x1 (((x5 + ((bt x1 x16) % 4294967296)) % 4294967296) % 65521) (((x6 + (((x5 + ((bt x1 x16) % 4294967296)) % 4294967296) % 65521)) % 4294967296) % 65521) x15 (wrap64 (x16 + 1))) else (none)) else (none)) else (some (Go.bits .or .u32 ((x6 * 65536) % 4294967296) x5))
def mix_More.f (k : Nat) (a0 : Int) (a1 : ByteArray) : Option (Int) := mix_More.l0 k a1 (Int.tmod (Go.bits .and .u32 a0 65535) 65521) (Int.tmod (a0 / 65536) 65521) (a1.size : Int) 0
theorem mix_More.mono_l : ∀ k, (∀ y0 y1 y2 y3 y4, LeO (mix_More.l0 k y0 y1 y2 y3 y4) (mix_More.l0 (k + 1) y0 y1 y2 y3 y4))
  | 0 => fun _ _ _ _ _ r h => by simp [mix_More.l0] at h
  | k + 1 => by
    have ih0 := mix_More.mono_l k
    · intro y0 y1 y2 y3 y4
      unfold mix_More.l0
      repeat' first
      | (with_reducible exact ih0 _ _ _ _ _)
      | (with_reducible exact LeO.refl _)
      | (with_reducible exact LeO.none _)
      | (with_reducible refine LeO.ite ?_ ?_)
      | (with_reducible refine LeO.bind ?_ (fun _ => ?_))
      | exact ih0 _ _ _ _ _
      | exact LeO.none _
      | refine LeO.ite ?_ ?_
      | refine LeO.bind ?_ (fun _ => ?_)
theorem mix_More.mono : ∀ a0 a1 k, LeO (mix_More.f k a0 a1) (mix_More.f (k + 1) a0 a1) := by
  intro a0 a1 k
  have ih0 := mix_More.mono_l k
  unfold mix_More.f
  repeat' first
      | (with_reducible exact ih0 _ _ _ _ _)
      | (with_reducible exact LeO.refl _)
      | (with_reducible exact LeO.none _)
      | (with_reducible refine LeO.ite ?_ ?_)
      | (with_reducible refine LeO.bind ?_ (fun _ => ?_))
      | exact ih0 _ _ _ _ _
      | exact LeO.none _
      | refine LeO.ite ?_ ?_
      | refine LeO.bind ?_ (fun _ => ?_)
set_option maxHeartbeats 8000000 in
set_option maxRecDepth 100000 in
theorem mix_More.calls (k : Nat) (a0 : Int) (a1 : ByteArray) (r : Int) (w : World) (h : mix_More.f k a0 a1 = some r) :
    Calls Try.prog 17 #[.int .u32 a0, .string a1] w fun e w' => e = .returned (.int .u32 r) ∧ Drawn0 w w' := by
  have H : (mix_More.l0 k a1 (Int.tmod (Go.bits .and .u32 a0 65535) 65521) (Int.tmod (a0 / 65536) 65521) (a1.size : Int) 0) = some r := h
  clear h
  have H' := Aside0.mk H
  clear H
  go_enter Try.func17, Try.ntmps17
  go_wp2
  go_loopg [5, 6, 16] k (fun kq v5 v6 v16 w' => ∃ (x5_1 : Int) (x6_1 : Int) (x16_1 : Int), v5 = .int .u32 x5_1 ∧ v6 = .int .u32 x6_1 ∧ v16 = .int .i64 x16_1 ∧ Aside0 (mix_More.l0 kq a1 x5_1 x6_1 (a1.size : Int) x16_1 = some r) ∧ Aside0 (kq ≤ k) ∧ Drawn0 w w')
  case atStart => exact ⟨(Int.tmod (Go.bits .and .u32 a0 65535) 65521), (Int.tmod (a0 / 65536) 65521), (0), (by first | rfl | (simp; done) | (simp [*]; done)), (by first | rfl | (simp; done) | (simp [*]; done)), (by first | rfl | (simp; done) | (simp [*]; done)), H', ⟨Nat.le_refl _⟩, by repeat (first | exact Drawn0.refl _ | apply Drawn0.step)⟩
  case round =>
    clear H'
    try clear c1
    try clear p2
    obtain ⟨x5_1, x6_1, x16_1, rfl, rfl, rfl, HA, HK1, ⟨m1, rfl⟩⟩ := hrel
    cases gk with
    | zero => exact absurd HA.out (by simp [mix_More.l0])
    | succ k1 =>
      have H := HA.out
      clear HA
      simp only [mix_More.l0] at H
      by_cases c3 : x16_1 < (a1.size : Int)
      · rw [if_pos c3] at H
        have c3b0 : decide (x16_1 < (a1.size : Int)) = true := decide_eq_true c3
        clear c3
        by_cases c4 : 0 ≤ x16_1
        · rw [if_pos c4] at H
          have c4b0 : decide (0 ≤ x16_1) = true := decide_eq_true c4
          clear c4
          by_cases c5 : x16_1 < (a1.size : Int)
          · rw [if_pos c5] at H
            have c5b0 : decide (x16_1 < (a1.size : Int)) = true := decide_eq_true c5
            clear c5
            have H' := Aside0.mk H
            clear H
            have p6 : 0 ≤ (x16_1 : Int) := of_decide_eq_true (by first | (with_reducible assumption) | assumption)
            have q6 : x16_1 < (a1.size : Int) := of_decide_eq_true (by first | (with_reducible assumption) | assumption)
            have hx6 := bt_at a1 x16_1
            replace p6 := eq_true p6
            replace q6 := eq_true q6
            go_wp2
            go_roundg k1
            case measure => have := HK1.out; omega
            case rel => exact ⟨(((x5_1 + ((bt a1 x16_1) % 4294967296)) % 4294967296) % 65521), (((x6_1 + (((x5_1 + ((bt a1 x16_1) % 4294967296)) % 4294967296) % 65521)) % 4294967296) % 65521), (wrap64 (x16_1 + 1)), (by first | rfl | (simp; done) | (simp [*]; done)), (by first | rfl | (simp; done) | (simp [*]; done)), (by first | rfl | (simp; done) | (simp [*]; done)), H', ⟨by have := HK1.out; omega⟩, by repeat (first | exact Drawn0.refl _ | apply Drawn0.step)⟩
          · rw [if_neg c5] at H
            exact absurd H (by simp)
        · rw [if_neg c4] at H
          exact absurd H (by simp)
      · rw [if_neg c3] at H
        have c3b0 : decide (x16_1 < (a1.size : Int)) = false := decide_eq_false c3
        clear c3
        obtain rfl := Option.some.inj H
        go_wp2
        go_ret
        exact ⟨by first | rfl | (simp; done) | (simp [*]; done), by repeat (first | exact Drawn0.refl _ | apply Drawn0.step)⟩

/-! ### mix_Sum: function 15 -/
def mix_Sum.f (k : Nat) (a0 : ByteArray) : Option (Int) := (mix_More.f k 1 a0).bind fun t101 => (some t101)
theorem mix_Sum.mono : ∀ a0 k, LeO (mix_Sum.f k a0) (mix_Sum.f (k + 1) a0) := by
  intro a0 k
  unfold mix_Sum.f
  repeat' first
      | (with_reducible exact mix_More.mono _ _ _)
      | (with_reducible exact LeO.refl _)
      | (with_reducible exact LeO.none _)
      | (with_reducible refine LeO.ite ?_ ?_)
      | (with_reducible refine LeO.bind ?_ (fun _ => ?_))
      | exact mix_More.mono _ _ _
      | exact LeO.none _
      | refine LeO.ite ?_ ?_
      | refine LeO.bind ?_ (fun _ => ?_)
set_option maxHeartbeats 8000000 in
set_option maxRecDepth 100000 in
theorem mix_Sum.calls (k : Nat) (a0 : ByteArray) (r : Int) (w : World) (h : mix_Sum.f k a0 = some r) :
    Calls Try.prog 15 #[.string a0] w fun e w' => e = .returned (.int .u32 r) ∧ Drawn0 w w' := by
  have H : ((mix_More.f k 1 a0).bind fun t101 => (some t101)) = some r := h
  clear h
  replace H := Option.bind_eq_some_iff.mp H
  obtain ⟨t101, A20, H⟩ := H
  replace H : (some t101) = some r := H
  have A2 := Aside0.mk A20
  clear A20
  obtain rfl := Option.some.inj H
  go_enter Try.func15, Try.ntmps15
  go_wp2_with (first | ((with_reducible refine gate_callee (f := 17) rfl ?_); refine goesL_ (some 4) rfl rfl Try.func17 (by kernel_rfl) rfl #[.int .u32 1, .string a0] rfl (by (try simp only [List.map_toArray, List.map_cons, List.map_nil]); first | done | rfl | (simp only [List.length_drop, List.length_take]; rfl)) ?_; (with_reducible refine (mix_More.calls k 1 a0 t101 _ A2.out).mono ?_); rintro e w' ⟨rfl, ⟨nd, rfl⟩⟩; refine ⟨_, rfl, ?_⟩))
  go_ret
  exact ⟨by first | rfl | (simp; done) | (simp [*]; done), by repeat (first | exact Drawn0.refl _ | apply Drawn0.step)⟩

/-! ### aumbrylaw02_wakes: function 14 -/
def aumbrylaw02_wakes.f (k : Nat)  : Option (Bool) := (mix_Sum.f k (⟨#[97]⟩ : ByteArray)).bind fun t102 => (if t102 = 6422626 then ((mix_Sum.f k (⟨#[97, 98]⟩ : ByteArray)).bind fun t103 => (some (t103 == 19267780))) else (some false))
theorem aumbrylaw02_wakes.mono : ∀ k, LeO (aumbrylaw02_wakes.f k ) (aumbrylaw02_wakes.f (k + 1) ) := by
  intro  k
  unfold aumbrylaw02_wakes.f
  repeat' first
      | (with_reducible exact mix_Sum.mono _ _)
      | (with_reducible exact LeO.refl _)
      | (with_reducible exact LeO.none _)
      | (with_reducible refine LeO.ite ?_ ?_)
      | (with_reducible refine LeO.bind ?_ (fun _ => ?_))
      | exact mix_Sum.mono _ _
      | exact LeO.none _
      | refine LeO.ite ?_ ?_
      | refine LeO.bind ?_ (fun _ => ?_)
set_option maxHeartbeats 8000000 in
set_option maxRecDepth 100000 in
theorem aumbrylaw02_wakes.calls (k : Nat)  (r : Bool) (w : World) (h : aumbrylaw02_wakes.f k  = some r) :
    Calls Try.prog 14 #[] w fun e w' => e = .returned (.bool r) ∧ Drawn0 w w' := by
  have H : ((mix_Sum.f k (⟨#[97]⟩ : ByteArray)).bind fun t102 => (if t102 = 6422626 then ((mix_Sum.f k (⟨#[97, 98]⟩ : ByteArray)).bind fun t103 => (some (t103 == 19267780))) else (some false))) = some r := h
  clear h
  replace H := Option.bind_eq_some_iff.mp H
  obtain ⟨t102, A10, H⟩ := H
  replace H : (if t102 = 6422626 then ((mix_Sum.f k (⟨#[97, 98]⟩ : ByteArray)).bind fun t103 => (some (t103 == 19267780))) else (some false)) = some r := H
  have A1 := Aside0.mk A10
  clear A10
  by_cases c2 : t102 = 6422626
  · rw [if_pos c2] at H
    have c2b0 : (t102 == 6422626) = true := beq_iff_eq.mpr c2
    have c2b1 : (t102 != 6422626) = false := bne_eq_false_iff_eq.mpr c2
    clear c2
    replace H := Option.bind_eq_some_iff.mp H
    obtain ⟨t103, A30, H⟩ := H
    replace H : (some (t103 == 19267780)) = some r := H
    have A3 := Aside0.mk A30
    clear A30
    obtain rfl := Option.some.inj H
    go_enter Try.func14, Try.ntmps14
    go_wp2_with (first | ((with_reducible refine gate_callee (f := 15) rfl ?_); refine goesL_ (some 1) rfl rfl Try.func15 (by kernel_rfl) rfl #[.string (⟨#[97]⟩ : ByteArray)] rfl (by (try simp only [List.map_toArray, List.map_cons, List.map_nil]); first | done | rfl | (simp only [List.length_drop, List.length_take]; rfl)) ?_; (with_reducible refine (mix_Sum.calls k (⟨#[97]⟩ : ByteArray) t102 _ A1.out).mono ?_); rintro e w' ⟨rfl, ⟨nd, rfl⟩⟩; refine ⟨_, rfl, ?_⟩) | (go_at_call 15; (with_reducible refine (mix_Sum.calls k (⟨#[97, 98]⟩ : ByteArray) t103 _ A3.out).mono ?_); rintro e w' ⟨rfl, ⟨nd, rfl⟩⟩))
    go_ret
    exact ⟨by first | rfl | (simp; done) | (simp [*]; done), by repeat (first | exact Drawn0.refl _ | apply Drawn0.step)⟩
  · rw [if_neg c2] at H
    have c2b0 : (t102 == 6422626) = false := beq_eq_false_iff_ne.mpr c2
    have c2b1 : (t102 != 6422626) = true := bne_iff_ne.mpr c2
    obtain rfl := Option.some.inj H
    go_enter Try.func14, Try.ntmps14
    go_wp2_with (first | ((with_reducible refine gate_callee (f := 15) rfl ?_); refine goesL_ (some 1) rfl rfl Try.func15 (by kernel_rfl) rfl #[.string (⟨#[97]⟩ : ByteArray)] rfl (by (try simp only [List.map_toArray, List.map_cons, List.map_nil]); first | done | rfl | (simp only [List.length_drop, List.length_take]; rfl)) ?_; (with_reducible refine (mix_Sum.calls k (⟨#[97]⟩ : ByteArray) t102 _ A1.out).mono ?_); rintro e w' ⟨rfl, ⟨nd, rfl⟩⟩; refine ⟨_, rfl, ?_⟩))
    go_ret
    exact ⟨by first | rfl | (simp; done) | (simp [*]; done), by repeat (first | exact Drawn0.refl _ | apply Drawn0.step)⟩

/-! ### aumbryref02_More: function 18 -/
def aumbryref02_More.l0 : Nat → ByteArray → Int → Int → Int → Option (Int)
  | 0, _, _, _, _ => none
  | k + 1, x1, x5, x6, x7 => if x7 < (x1.size : Int) then (if 0 ≤ x7 then (aumbryref02_More.l0 k x1 (Int.tmod (IntKind.u64.wrap (x5 + (IntKind.u64.wrap (bt x1 x7)))) 65521) (Int.tmod (IntKind.u64.wrap (x6 + (Int.tmod (IntKind.u64.wrap (x5 + (IntKind.u64.wrap (bt x1 x7)))) 65521))) 65521) (wrap64 (x7 + 1))) else (none)) else (some ((IntKind.u64.wrap ((IntKind.u64.wrap (x6 * 65536)) + x5)) % 4294967296))
def aumbryref02_More.f (k : Nat) (a0 : Int) (a1 : ByteArray) : Option (Int) := aumbryref02_More.l0 k a1 (Int.tmod (Int.tmod (IntKind.u64.wrap (a0)) 65536) 65521) (Int.tmod (IntKind.u64.wrap (Int.tdiv (IntKind.u64.wrap (a0)) 65536)) 65521) 0
theorem aumbryref02_More.mono_l : ∀ k, (∀ y0 y1 y2 y3, LeO (aumbryref02_More.l0 k y0 y1 y2 y3) (aumbryref02_More.l0 (k + 1) y0 y1 y2 y3))
  | 0 => fun _ _ _ _ r h => by simp [aumbryref02_More.l0] at h
  | k + 1 => by
    have ih0 := aumbryref02_More.mono_l k
    · intro y0 y1 y2 y3
      unfold aumbryref02_More.l0
      repeat' first
      | (with_reducible exact ih0 _ _ _ _)
      | (with_reducible exact LeO.refl _)
      | (with_reducible exact LeO.none _)
      | (with_reducible refine LeO.ite ?_ ?_)
      | (with_reducible refine LeO.bind ?_ (fun _ => ?_))
      | exact ih0 _ _ _ _
      | exact LeO.none _
      | refine LeO.ite ?_ ?_
      | refine LeO.bind ?_ (fun _ => ?_)
theorem aumbryref02_More.mono : ∀ a0 a1 k, LeO (aumbryref02_More.f k a0 a1) (aumbryref02_More.f (k + 1) a0 a1) := by
  intro a0 a1 k
  have ih0 := aumbryref02_More.mono_l k
  unfold aumbryref02_More.f
  repeat' first
      | (with_reducible exact ih0 _ _ _ _)
      | (with_reducible exact LeO.refl _)
      | (with_reducible exact LeO.none _)
      | (with_reducible refine LeO.ite ?_ ?_)
      | (with_reducible refine LeO.bind ?_ (fun _ => ?_))
      | exact ih0 _ _ _ _
      | exact LeO.none _
      | refine LeO.ite ?_ ?_
      | refine LeO.bind ?_ (fun _ => ?_)
set_option maxHeartbeats 8000000 in
set_option maxRecDepth 100000 in
theorem aumbryref02_More.calls (k : Nat) (a0 : Int) (a1 : ByteArray) (r : Int) (w : World) (h : aumbryref02_More.f k a0 a1 = some r) :
    Calls Try.prog 18 #[.int .u32 a0, .string a1] w fun e w' => e = .returned (.int .u32 r) ∧ Drawn0 w w' := by
  have H : (aumbryref02_More.l0 k a1 (Int.tmod (Int.tmod (IntKind.u64.wrap (a0)) 65536) 65521) (Int.tmod (IntKind.u64.wrap (Int.tdiv (IntKind.u64.wrap (a0)) 65536)) 65521) 0) = some r := h
  clear h
  have H' := Aside0.mk H
  clear H
  go_enter Try.func18, Try.ntmps18
  go_wp2
  go_loopg [5, 6, 7] k (fun kq v5 v6 v7 w' => ∃ (x5_1 : Int) (x6_1 : Int) (x7_1 : Int), v5 = .int .u64 x5_1 ∧ v6 = .int .u64 x6_1 ∧ v7 = .int .i64 x7_1 ∧ Aside0 (aumbryref02_More.l0 kq a1 x5_1 x6_1 x7_1 = some r) ∧ Aside0 (kq ≤ k) ∧ Drawn0 w w')
  case atStart => exact ⟨(Int.tmod (Int.tmod (IntKind.u64.wrap (a0)) 65536) 65521), (Int.tmod (IntKind.u64.wrap (Int.tdiv (IntKind.u64.wrap (a0)) 65536)) 65521), (0), (by first | rfl | (simp; done) | (simp [*]; done)), (by first | rfl | (simp; done) | (simp [*]; done)), (by first | rfl | (simp; done) | (simp [*]; done)), H', ⟨Nat.le_refl _⟩, by repeat (first | exact Drawn0.refl _ | apply Drawn0.step)⟩
  case round =>
    clear H'
    try clear c1
    try clear p2
    obtain ⟨x5_1, x6_1, x7_1, rfl, rfl, rfl, HA, HK1, ⟨m1, rfl⟩⟩ := hrel
    cases gk with
    | zero => exact absurd HA.out (by simp [aumbryref02_More.l0])
    | succ k1 =>
      have H := HA.out
      clear HA
      simp only [aumbryref02_More.l0] at H
      by_cases c3 : x7_1 < (a1.size : Int)
      · rw [if_pos c3] at H
        have c3b0 : decide (x7_1 < (a1.size : Int)) = true := decide_eq_true c3
        clear c3
        by_cases c4 : 0 ≤ x7_1
        · rw [if_pos c4] at H
          have c4b0 : decide (0 ≤ x7_1) = true := decide_eq_true c4
          clear c4
          have H' := Aside0.mk H
          clear H
          have p5 : 0 ≤ (x7_1 : Int) := of_decide_eq_true (by first | (with_reducible assumption) | assumption)
          have q5 : x7_1 < (a1.size : Int) := of_decide_eq_true (by first | (with_reducible assumption) | assumption)
          have hx5 := bt_at a1 x7_1
          replace p5 := eq_true p5
          replace q5 := eq_true q5
          go_wp2
          go_roundg k1
          case measure => have := HK1.out; omega
          case rel => exact ⟨(Int.tmod (IntKind.u64.wrap (x5_1 + (IntKind.u64.wrap (bt a1 x7_1)))) 65521), (Int.tmod (IntKind.u64.wrap (x6_1 + (Int.tmod (IntKind.u64.wrap (x5_1 + (IntKind.u64.wrap (bt a1 x7_1)))) 65521))) 65521), (wrap64 (x7_1 + 1)), (by first | rfl | (simp; done) | (simp [*]; done)), (by first | rfl | (simp; done) | (simp [*]; done)), (by first | rfl | (simp; done) | (simp [*]; done)), H', ⟨by have := HK1.out; omega⟩, by repeat (first | exact Drawn0.refl _ | apply Drawn0.step)⟩
        · rw [if_neg c4] at H
          exact absurd H (by simp)
      · rw [if_neg c3] at H
        have c3b0 : decide (x7_1 < (a1.size : Int)) = false := decide_eq_false c3
        clear c3
        obtain rfl := Option.some.inj H
        go_wp2
        go_ret
        exact ⟨by first | rfl | (simp; done) | (simp [*]; done), by repeat (first | exact Drawn0.refl _ | apply Drawn0.step)⟩

/-! ### aumbryref02_Sum: function 16 -/
def aumbryref02_Sum.f (k : Nat) (a0 : ByteArray) : Option (Int) := (aumbryref02_More.f k 1 a0).bind fun t104 => (some t104)
theorem aumbryref02_Sum.mono : ∀ a0 k, LeO (aumbryref02_Sum.f k a0) (aumbryref02_Sum.f (k + 1) a0) := by
  intro a0 k
  unfold aumbryref02_Sum.f
  repeat' first
      | (with_reducible exact aumbryref02_More.mono _ _ _)
      | (with_reducible exact LeO.refl _)
      | (with_reducible exact LeO.none _)
      | (with_reducible refine LeO.ite ?_ ?_)
      | (with_reducible refine LeO.bind ?_ (fun _ => ?_))
      | exact aumbryref02_More.mono _ _ _
      | exact LeO.none _
      | refine LeO.ite ?_ ?_
      | refine LeO.bind ?_ (fun _ => ?_)
set_option maxHeartbeats 8000000 in
set_option maxRecDepth 100000 in
theorem aumbryref02_Sum.calls (k : Nat) (a0 : ByteArray) (r : Int) (w : World) (h : aumbryref02_Sum.f k a0 = some r) :
    Calls Try.prog 16 #[.string a0] w fun e w' => e = .returned (.int .u32 r) ∧ Drawn0 w w' := by
  have H : ((aumbryref02_More.f k 1 a0).bind fun t104 => (some t104)) = some r := h
  clear h
  replace H := Option.bind_eq_some_iff.mp H
  obtain ⟨t104, A20, H⟩ := H
  replace H : (some t104) = some r := H
  have A2 := Aside0.mk A20
  clear A20
  obtain rfl := Option.some.inj H
  go_enter Try.func16, Try.ntmps16
  go_wp2_with (first | ((with_reducible refine gate_callee (f := 18) rfl ?_); refine goesL_ (some 4) rfl rfl Try.func18 (by kernel_rfl) rfl #[.int .u32 1, .string a0] rfl (by (try simp only [List.map_toArray, List.map_cons, List.map_nil]); first | done | rfl | (simp only [List.length_drop, List.length_take]; rfl)) ?_; (with_reducible refine (aumbryref02_More.calls k 1 a0 t104 _ A2.out).mono ?_); rintro e w' ⟨rfl, ⟨nd, rfl⟩⟩; refine ⟨_, rfl, ?_⟩))
  go_ret
  exact ⟨by first | rfl | (simp; done) | (simp [*]; done), by repeat (first | exact Drawn0.refl _ | apply Drawn0.step)⟩

/-! ### aumbrylaw02_MixSums: function 3 -/
def aumbrylaw02_MixSums.f (k : Nat) (a0 : Int) (a1 : ByteArray) : Option (Bool) := (aumbrylaw02_wakes.f k).bind fun t105 => (if t105 = true then ((mix_Sum.f k a1).bind fun t106 => ((aumbryref02_Sum.f k a1).bind fun t107 => (if t106 = t107 then ((mix_More.f k a0 a1).bind fun t108 => ((aumbryref02_More.f k a0 a1).bind fun t109 => (some (t108 == t109)))) else (some false)))) else (some false))
theorem aumbrylaw02_MixSums.mono : ∀ a0 a1 k, LeO (aumbrylaw02_MixSums.f k a0 a1) (aumbrylaw02_MixSums.f (k + 1) a0 a1) := by
  intro a0 a1 k
  unfold aumbrylaw02_MixSums.f
  repeat' first
      | (with_reducible exact aumbrylaw02_wakes.mono _)
      | (with_reducible exact aumbryref02_More.mono _ _ _)
      | (with_reducible exact aumbryref02_Sum.mono _ _)
      | (with_reducible exact mix_More.mono _ _ _)
      | (with_reducible exact mix_Sum.mono _ _)
      | (with_reducible exact LeO.refl _)
      | (with_reducible exact LeO.none _)
      | (with_reducible refine LeO.ite ?_ ?_)
      | (with_reducible refine LeO.bind ?_ (fun _ => ?_))
      | exact aumbrylaw02_wakes.mono _
      | exact aumbryref02_More.mono _ _ _
      | exact aumbryref02_Sum.mono _ _
      | exact mix_More.mono _ _ _
      | exact mix_Sum.mono _ _
      | exact LeO.none _
      | refine LeO.ite ?_ ?_
      | refine LeO.bind ?_ (fun _ => ?_)
set_option maxHeartbeats 8000000 in
set_option maxRecDepth 100000 in
theorem aumbrylaw02_MixSums.calls (k : Nat) (a0 : Int) (a1 : ByteArray) (r : Bool) (w : World) (h : aumbrylaw02_MixSums.f k a0 a1 = some r) :
    Calls Try.prog 3 #[.int .u32 a0, .string a1] w fun e w' => e = .returned (.bool r) ∧ Drawn0 w w' := by
  have H : ((aumbrylaw02_wakes.f k).bind fun t105 => (if t105 = true then ((mix_Sum.f k a1).bind fun t106 => ((aumbryref02_Sum.f k a1).bind fun t107 => (if t106 = t107 then ((mix_More.f k a0 a1).bind fun t108 => ((aumbryref02_More.f k a0 a1).bind fun t109 => (some (t108 == t109)))) else (some false)))) else (some false))) = some r := h
  clear h
  replace H := Option.bind_eq_some_iff.mp H
  obtain ⟨t105, A30, H⟩ := H
  replace H : (if t105 = true then ((mix_Sum.f k a1).bind fun t106 => ((aumbryref02_Sum.f k a1).bind fun t107 => (if t106 = t107 then ((mix_More.f k a0 a1).bind fun t108 => ((aumbryref02_More.f k a0 a1).bind fun t109 => (some (t108 == t109)))) else (some false)))) else (some false)) = some r := H
  have A3 := Aside0.mk A30
  clear A30
  by_cases c4 : t105 = true
  · subst c4
    have H1 : ((mix_Sum.f k a1).bind fun t106 => ((aumbryref02_Sum.f k a1).bind fun t107 => (if t106 = t107 then ((mix_More.f k a0 a1).bind fun t108 => ((aumbryref02_More.f k a0 a1).bind fun t109 => (some (t108 == t109)))) else (some false)))) = some r := by rw [if_pos rfl] at H; exact H
    clear H
    have H := H1
    clear H1
    replace H := Option.bind_eq_some_iff.mp H
    obtain ⟨t106, A50, H⟩ := H
    replace H : ((aumbryref02_Sum.f k a1).bind fun t107 => (if t106 = t107 then ((mix_More.f k a0 a1).bind fun t108 => ((aumbryref02_More.f k a0 a1).bind fun t109 => (some (t108 == t109)))) else (some false))) = some r := H
    have A5 := Aside0.mk A50
    clear A50
    replace H := Option.bind_eq_some_iff.mp H
    obtain ⟨t107, A60, H⟩ := H
    replace H : (if t106 = t107 then ((mix_More.f k a0 a1).bind fun t108 => ((aumbryref02_More.f k a0 a1).bind fun t109 => (some (t108 == t109)))) else (some false)) = some r := H
    have A6 := Aside0.mk A60
    clear A60
    by_cases c7 : t106 = t107
    · rw [if_pos c7] at H
      have c7b0 : (t106 == t107) = true := beq_iff_eq.mpr c7
      have c7b1 : (t106 != t107) = false := bne_eq_false_iff_eq.mpr c7
      clear c7
      replace H := Option.bind_eq_some_iff.mp H
      obtain ⟨t108, A80, H⟩ := H
      replace H : ((aumbryref02_More.f k a0 a1).bind fun t109 => (some (t108 == t109))) = some r := H
      have A8 := Aside0.mk A80
      clear A80
      replace H := Option.bind_eq_some_iff.mp H
      obtain ⟨t109, A90, H⟩ := H
      replace H : (some (t108 == t109)) = some r := H
      have A9 := Aside0.mk A90
      clear A90
      obtain rfl := Option.some.inj H
      go_enter Try.func3, Try.ntmps3
      go_wp2_with (first | ((with_reducible refine gate_callee (f := 14) rfl ?_); refine goesL_ (some 5) rfl rfl Try.func14 (by kernel_rfl) rfl #[] rfl (by (try simp only [List.map_toArray, List.map_cons, List.map_nil]); first | done | rfl | (simp only [List.length_drop, List.length_take]; rfl)) ?_; (with_reducible refine (aumbrylaw02_wakes.calls k  true _ A3.out).mono ?_); rintro e w' ⟨rfl, ⟨nd, rfl⟩⟩; refine ⟨_, rfl, ?_⟩) | (go_at_call 15; (with_reducible refine (mix_Sum.calls k a1 t106 _ A5.out).mono ?_); rintro e w' ⟨rfl, ⟨nd, rfl⟩⟩) | (go_at_call 16; (with_reducible refine (aumbryref02_Sum.calls k a1 t107 _ A6.out).mono ?_); rintro e w' ⟨rfl, ⟨nd, rfl⟩⟩) | (go_at_call 17; (with_reducible refine (mix_More.calls k a0 a1 t108 _ A8.out).mono ?_); rintro e w' ⟨rfl, ⟨nd, rfl⟩⟩) | (go_at_call 18; (with_reducible refine (aumbryref02_More.calls k a0 a1 t109 _ A9.out).mono ?_); rintro e w' ⟨rfl, ⟨nd, rfl⟩⟩))
      go_ret
      exact ⟨by first | rfl | (simp; done) | (simp [*]; done), by repeat (first | exact Drawn0.refl _ | apply Drawn0.step)⟩
    · rw [if_neg c7] at H
      have c7b0 : (t106 == t107) = false := beq_eq_false_iff_ne.mpr c7
      have c7b1 : (t106 != t107) = true := bne_iff_ne.mpr c7
      obtain rfl := Option.some.inj H
      go_enter Try.func3, Try.ntmps3
      go_wp2_with (first | ((with_reducible refine gate_callee (f := 14) rfl ?_); refine goesL_ (some 5) rfl rfl Try.func14 (by kernel_rfl) rfl #[] rfl (by (try simp only [List.map_toArray, List.map_cons, List.map_nil]); first | done | rfl | (simp only [List.length_drop, List.length_take]; rfl)) ?_; (with_reducible refine (aumbrylaw02_wakes.calls k  true _ A3.out).mono ?_); rintro e w' ⟨rfl, ⟨nd, rfl⟩⟩; refine ⟨_, rfl, ?_⟩) | (go_at_call 15; (with_reducible refine (mix_Sum.calls k a1 t106 _ A5.out).mono ?_); rintro e w' ⟨rfl, ⟨nd, rfl⟩⟩) | (go_at_call 16; (with_reducible refine (aumbryref02_Sum.calls k a1 t107 _ A6.out).mono ?_); rintro e w' ⟨rfl, ⟨nd, rfl⟩⟩))
      go_ret
      exact ⟨by first | rfl | (simp; done) | (simp [*]; done), by repeat (first | exact Drawn0.refl _ | apply Drawn0.step)⟩
  · replace c4 := Bool.eq_false_iff.mpr c4
    subst c4
    have H1 : (some false) = some r := by rw [if_neg (show ¬ (false = true) by decide)] at H; exact H
    clear H
    have H := H1
    clear H1
    obtain rfl := Option.some.inj H
    go_enter Try.func3, Try.ntmps3
    go_wp2_with (first | ((with_reducible refine gate_callee (f := 14) rfl ?_); refine goesL_ (some 5) rfl rfl Try.func14 (by kernel_rfl) rfl #[] rfl (by (try simp only [List.map_toArray, List.map_cons, List.map_nil]); first | done | rfl | (simp only [List.length_drop, List.length_take]; rfl)) ?_; (with_reducible refine (aumbrylaw02_wakes.calls k  false _ A3.out).mono ?_); rintro e w' ⟨rfl, ⟨nd, rfl⟩⟩; refine ⟨_, rfl, ?_⟩))
    go_ret
    exact ⟨by first | rfl | (simp; done) | (simp [*]; done), by repeat (first | exact Drawn0.refl _ | apply Drawn0.step)⟩

/-- THE ONE PURE STATEMENT of aumbrylaw02_MixSums: yours. -/
def aumbrylaw02_MixSums.Pure : Prop := ∀ (a0 : Int) (a1 : ByteArray), (Lit.int .u32 a0).wf = true → a1.size ≤ 140737488351232 → ∃ k, aumbrylaw02_MixSums.f k a0 a1 = some true
theorem aumbrylaw02_MixSums.walk (P : aumbrylaw02_MixSums.Pure) (a0 : Int) (a1 : ByteArray) (w : World) (w0 : (Lit.int .u32 a0).wf = true) (w1 : a1.size ≤ 140737488351232) :
    Calls Try.prog 3 #[.int .u32 a0, .string a1] w fun e w' => e = .returned (.bool true) ∧ Below w.heap.size w w' := by
  obtain ⟨k, h⟩ := P a0 a1 w0 w1
  refine (aumbrylaw02_MixSums.calls k a0 a1 true w h).mono ?_
  rintro e w' ⟨rfl, hd⟩
  exact ⟨rfl, hd.below⟩

end Go.Proofs.Ytaefejbhdbljaaa.PMixSums
