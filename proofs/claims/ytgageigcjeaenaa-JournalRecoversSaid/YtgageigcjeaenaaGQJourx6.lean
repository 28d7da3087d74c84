/- Written by a program of this session out of the translation: Lean functions with the same answers as the Go functions, and the walks that show it. -/
import Derived.Test.YtgageigcjeaenaaGQJourx0
import Derived.Test.YtgageigcjeaenaaGQJourx4
import Derived.Test.YtgageigcjeaenaaGQJourx5
namespace Go.Proofs.Ytgageigcjeaenaa.QJour
open Go.RowKit Go.Proofs.YtgageigcjeaenaaW.PrintWords Go.Proofs.YtgageigcjeaenaaW.PrintLast Go.Proofs.YtgageigcjeaenaaW.PrintMore
attribute [local go_sem] max2_int min2_int max_two min_two max_three min_three max_four min_four
attribute [local go_sem high] StepStr.leq_str StepStr.gtr_str
set_option linter.unusedVariables false
set_option linter.unusedSimpArgs false

/-! ### aumbryref02_More: function 90 -/
def aumbryref02_More.l0 : Nat → ByteArray → Int → Int → Int → Option (Int)
  | 0, _, _, _, _ => none
  | k + 1, x1, x5, x6, x7 => if x7 < (x1.size : Int) then (if 0 ≤ x7 then (aumbryref02_More.l0 k x1 (Int.tmod (IntKind.u64.wrap (x5 + (IntKind.u64.wrap (bt x1 x7)))) 65521) (Int.tmod (IntKind.u64.wrap (x6 + (Int.tmod (IntKind.u64.wrap (x5 + (IntKind.u64.wrap (bt x1 x7)))) 65521))) 65521) (wrap64 (x7 + 1))) else (none)) else (some ((IntKind.u64.wrap ((IntKind.u64.wrap (x6 * 65536)) + x5)) % 4294967296))
def aumbryref02_More.f (k : Nat) (a0 : Int) (a1 : ByteArray) : Option (Int) := aumbryref02_More.l0 k a1 (Int.tmod (Int.tmod (IntKind.u64.wrap (a0)) 65536) 65521) (Int.tmod (IntKind.u64.wrap (Int.tdiv (IntKind.u64.wrap (a0)) 65536)) 65521) 0
theorem aumbryref02_More.mono_l : ∀ k, (∀ y0 y1 y2 y3, LeO (aumbryref02_More.l0 k y0 y1 y2 y3) (aumbryref02_More.l0 (k + 1) y0 y1 y2 y3))
  | 0 => fun _ _ _ _ r h => by simp [aumbryref02_More.l0] at h
  | k + 1 => by
    have ih0 := aumbryref02_More.mono_l k
    · intro y0 y1 y2 y3
      unfold aumbryref02_More.l0
      repeat' first
      | (with_reducible exact ih0 _ _ _ _)
      | (with_reducible exact LeO.refl _)
      | (with_reducible exact LeO.none _)
      | (with_reducible refine LeO.ite ?_ ?_)
      | (with_reducible refine LeO.bind ?_ (fun _ => ?_))
      | exact ih0 _ _ _ _
      | exact LeO.none _
      | refine LeO.ite ?_ ?_
      | refine LeO.bind ?_ (fun _ => ?_)
theorem aumbryref02_More.mono : ∀ a0 a1 k, LeO (aumbryref02_More.f k a0 a1) (aumbryref02_More.f (k + 1) a0 a1) := by
  intro a0 a1 k
  have ih0 := aumbryref02_More.mono_l k
  unfold aumbryref02_More.f
  repeat' first
      | (with_reducible exact ih0 _ _ _ _)
      | (with_reducible exact LeO.refl _)
      | (with_reducible exact LeO.none _)
      | (with_reducible refine LeO.ite ?_ ?_)
      | (with_reducible refine LeO.bind ?_ (fun _ => ?_))
      | exact ih0 _ _ _ _
      | exact LeO.none _
      | refine LeO.ite ?_ ?_
      | refine LeO.bind ?_ (fun _ => ?_)
set_option maxHeartbeats 8000000 in
set_option maxRecDepth 100000 in
theorem aumbryref02_More.calls (k : Nat) (a0 : Int) (a1 : ByteArray) (r : Int) (w : World) (h : aumbryref02_More.f k a0 a1 = some r) :
    Calls Try.prog 90 #[.int .u32 a0, .string a1] w fun e w' => e = .returned (.int .u32 r) ∧ Drawn0 w w' := by
  have H : (aumbryref02_More.l0 k a1 (Int.tmod (Int.tmod (IntKind.u64.wrap (a0)) 65536) 65521) (Int.tmod (IntKind.u64.wrap (Int.tdiv (IntKind.u64.wrap (a0)) 65536)) 65521) 0) = some r := h
  clear h
  have H' := Aside0.mk H
  clear H
  go_enter Try.func90, Try.ntmps90
  go_wp2
  go_loopg [5, 6, 7] k (fun kq v5 v6 v7 w' => ∃ (x5_1 : Int) (x6_1 : Int) (x7_1 : Int), v5 = .int .u64 x5_1 ∧ v6 = .int .u64 x6_1 ∧ v7 = .int .i64 x7_1 ∧ Aside0 (aumbryref02_More.l0 kq a1 x5_1 x6_1 x7_1 = some r) ∧ Aside0 (kq ≤ k) ∧ Drawn0 w w')
  case atStart => exact ⟨(Int.tmod (Int.tmod (IntKind.u64.wrap (a0)) 65536) 65521), (Int.tmod (IntKind.u64.wrap (Int.tdiv (IntKind.u64.wrap (a0)) 65536)) 65521), (0), (by first | rfl | (simp; done) | (simp [*]; done)), (by first | rfl | (simp; done) | (simp [*]; done)), (by first | rfl | (simp; done) | (simp [*]; done)), H', ⟨Nat.le_refl _⟩, by repeat (first | exact Drawn0.refl _ | apply Drawn0.step)⟩
  case round =>
    clear H'
    try clear p2
    obtain ⟨x5_1, x6_1, x7_1, rfl, rfl, rfl, HA, HK1, ⟨m1, rfl⟩⟩ := hrel
    cases gk with
    | zero => exact absurd HA.out (by simp [aumbryref02_More.l0])
    | succ k1 =>
      have H := HA.out
      clear HA
      simp only [aumbryref02_More.l0] at H
      by_cases c3 : x7_1 < (a1.size : Int)
      · rw [if_pos c3] at H
        have c3b0 : decide (x7_1 < (a1.size : Int)) = true := decide_eq_true c3
        clear c3
        by_cases c4 : 0 ≤ x7_1
        · rw [if_pos c4] at H
          have c4b0 : decide (0 ≤ x7_1) = true := decide_eq_true c4
          clear c4
          have H' := Aside0.mk H
          clear H
          have p5 : 0 ≤ (x7_1 : Int) := of_decide_eq_true (by first | (with_reducible assumption) | assumption)
          have q5 : x7_1 < (a1.size : Int) := of_decide_eq_true (by first | (with_reducible assumption) | assumption)
          have hx5 := bt_at a1 x7_1
          replace p5 := eq_true p5
          replace q5 := eq_true q5
          go_wp2
          go_roundg k1
          case measure => have := HK1.out; omega
          case rel => exact ⟨(Int.tmod (IntKind.u64.wrap (x5_1 + (IntKind.u64.wrap (bt a1 x7_1)))) 65521), (Int.tmod (IntKind.u64.wrap (x6_1 + (Int.tmod (IntKind.u64.wrap (x5_1 + (IntKind.u64.wrap (bt a1 x7_1)))) 65521))) 65521), (wrap64 (x7_1 + 1)), (by first | rfl | (simp; done) | (simp [*]; done)), (by first | rfl | (simp; done) | (simp [*]; done)), (by first | rfl | (simp; done) | (simp [*]; done)), H', ⟨by have := HK1.out; omega⟩, by repeat (first | exact Drawn0.refl _ | apply Drawn0.step)⟩
        · rw [if_neg c4] at H
          exact absurd H (by simp)
      · rw [if_neg c3] at H
        have c3b0 : decide (x7_1 < (a1.size : Int)) = false := decide_eq_false c3
        clear c3
        obtain rfl := Option.some.inj H
        go_wp2
        go_ret
        exact ⟨by first | rfl | (simp; done) | (simp [*]; done), by repeat (first | exact Drawn0.refl _ | apply Drawn0.step)⟩

/-! ### aumbryref02_Sum: function 89 -/
def aumbryref02_Sum.f (k : Nat) (a0 : ByteArray) : Option (Int) := (aumbryref02_More.f k 1 a0).bind fun t177 => (some t177)
theorem aumbryref02_Sum.mono : ∀ a0 k, LeO (aumbryref02_Sum.f k a0) (aumbryref02_Sum.f (k + 1) a0) := by
  intro a0 k
  unfold aumbryref02_Sum.f
  repeat' first
      | (with_reducible exact aumbryref02_More.mono _ _ _)
      | (with_reducible exact LeO.refl _)
      | (with_reducible exact LeO.none _)
      | (with_reducible refine LeO.ite ?_ ?_)
      | (with_reducible refine LeO.bind ?_ (fun _ => ?_))
      | exact aumbryref02_More.mono _ _ _
      | exact LeO.none _
      | refine LeO.ite ?_ ?_
      | refine LeO.bind ?_ (fun _ => ?_)
set_option maxHeartbeats 8000000 in
set_option maxRecDepth 100000 in
theorem aumbryref02_Sum.calls (k : Nat) (a0 : ByteArray) (r : Int) (w : World) (h : aumbryref02_Sum.f k a0 = some r) :
    Calls Try.prog 89 #[.string a0] w fun e w' => e = .returned (.int .u32 r) ∧ Drawn0 w w' := by
  have H : ((aumbryref02_More.f k 1 a0).bind fun t177 => (some t177)) = some r := h
  clear h
  replace H := Option.bind_eq_some_iff.mp H
  obtain ⟨t177, A20, H⟩ := H
  replace H : (some t177) = some r := H
  have A2 := Aside0.mk A20
  clear A20
  obtain rfl := Option.some.inj H
  go_enter Try.func89, Try.ntmps89
  go_wp2_with (first | ((with_reducible refine gate_callee (f := 90) rfl ?_); refine goesL_ (some 4) rfl rfl Try.func90 (by kernel_rfl) rfl #[.int .u32 1, .string a0] rfl (by (try simp only [List.map_toArray, List.map_cons, List.map_nil]); first | done | rfl | (simp only [List.length_drop, List.length_take]; rfl)) ?_; (with_reducible refine (aumbryref02_More.calls k 1 a0 t177 _ A2.out).mono ?_); rintro e w' ⟨rfl, ⟨nd, rfl⟩⟩; refine ⟨_, rfl, ?_⟩))
  go_ret
  exact ⟨by first | rfl | (simp; done) | (simp [*]; done), by repeat (first | exact Drawn0.refl _ | apply Drawn0.step)⟩

/-! ### aumbryref10_Head: function 77 -/
mutual
def aumbryref10_Head.l0 : Nat → List (S62) → Int → List ByteArray → Int → Int → Option (ByteArray)
  | 0, _, _, _, _, _ => none
  | k + 1, x0, x3, x4, x15, x16 => if x16 < x15 then (if 0 ≤ x16 then (if x16 < (x4.length : Int) then ((aumbryref02_More.f k x3 (rdOf ByteArray.empty x4 x16)).bind fun t183 => (aumbryref10_Head.l0 k x0 t183 x4 x15 (wrap64 (x16 + 1)))) else (none)) else (none)) else (aumbryref10_Head.l1 k x0 x3 (x0.length : Int) 0)
def aumbryref10_Head.l1 : Nat → List (S62) → Int → Int → Int → Option (ByteArray)
  | 0, _, _, _, _ => none
  | k + 1, x0, x3, x27, x28 => if x28 < x27 then (if 0 ≤ x28 then (if x28 < (x0.length : Int) then ((aumbryref02_More.f k x3 ((rd_T62 x0 x28).f1)).bind fun t185 => (aumbryref10_Head.l1 k x0 t185 x27 (wrap64 (x28 + 1)))) else (none)) else (none)) else ((aumbryref01_Put.f k (IntKind.u64.wrap ((x0.length : Int))) 2).bind fun bt186 => ((aumbryref01_Put.f k (IntKind.u64.wrap (x3)) 4).bind fun bt188 => (if 4 + bt186.1.size ≤ 9223372036854775807 then (if ((⟨#[106, 114, 110, 108]⟩ : ByteArray) ++ bt186.1).size + bt188.1.size ≤ 9223372036854775807 then ((aumbryref10_block.f (((⟨#[106, 114, 110, 108]⟩ : ByteArray) ++ bt186.1) ++ bt188.1)).bind fun t190 => (some t190)) else (none)) else (none))))
end
def aumbryref10_Head.f (k : Nat) (l0 : List (S62)) : Option (ByteArray) := (aumbryref02_Sum.f k (⟨#[]⟩ : ByteArray)).bind fun t178 => ((aumbryref10_List.f k l0).bind fun t179 => (aumbryref10_Head.l0 k l0 t178 t179 (t179.length : Int) 0))
theorem aumbryref10_Head.mono_l : ∀ k, (∀ y0 y1 y2 y3 y4, LeO (aumbryref10_Head.l0 k y0 y1 y2 y3 y4) (aumbryref10_Head.l0 (k + 1) y0 y1 y2 y3 y4)) ∧ (∀ y0 y1 y2 y3, LeO (aumbryref10_Head.l1 k y0 y1 y2 y3) (aumbryref10_Head.l1 (k + 1) y0 y1 y2 y3))
  | 0 => ⟨fun _ _ _ _ _ r h => by simp [aumbryref10_Head.l0] at h, fun _ _ _ _ r h => by simp [aumbryref10_Head.l1] at h⟩
  | k + 1 => by
    obtain ⟨ih0, ih1⟩ := aumbryref10_Head.mono_l k
    refine ⟨?_, ?_⟩
    · intro y0 y1 y2 y3 y4
      unfold aumbryref10_Head.l0
      repeat' first
      | (with_reducible exact ih0 _ _ _ _ _)
      | (with_reducible exact ih1 _ _ _ _)
      | (with_reducible exact aumbryref01_Put.mono _ _ _)
      | (with_reducible exact aumbryref02_More.mono _ _ _)
      | (with_reducible exact aumbryref02_Sum.mono _ _)
      | (with_reducible exact aumbryref10_List.mono _ _)
      | (with_reducible exact LeO.refl _)
      | (with_reducible exact LeO.none _)
      | (with_reducible refine LeO.ite ?_ ?_)
      | (with_reducible refine LeO.bind ?_ (fun _ => ?_))
      | exact ih0 _ _ _ _ _
      | exact ih1 _ _ _ _
      | exact aumbryref01_Put.mono _ _ _
      | exact aumbryref02_More.mono _ _ _
      | exact aumbryref02_Sum.mono _ _
      | exact aumbryref10_List.mono _ _
      | exact LeO.none _
      | refine LeO.ite ?_ ?_
      | refine LeO.bind ?_ (fun _ => ?_)
    · intro y0 y1 y2 y3
      unfold aumbryref10_Head.l1
      repeat' first
      | (with_reducible exact ih0 _ _ _ _ _)
      | (with_reducible exact ih1 _ _ _ _)
      | (with_reducible exact aumbryref01_Put.mono _ _ _)
      | (with_reducible exact aumbryref02_More.mono _ _ _)
      | (with_reducible exact aumbryref02_Sum.mono _ _)
      | (with_reducible exact aumbryref10_List.mono _ _)
      | (with_reducible exact LeO.refl _)
      | (with_reducible exact LeO.none _)
      | (with_reducible refine LeO.ite ?_ ?_)
      | (with_reducible refine LeO.bind ?_ (fun _ => ?_))
      | exact ih0 _ _ _ _ _
      | exact ih1 _ _ _ _
      | exact aumbryref01_Put.mono _ _ _
      | exact aumbryref02_More.mono _ _ _
      | exact aumbryref02_Sum.mono _ _
      | exact aumbryref10_List.mono _ _
      | exact LeO.none _
      | refine LeO.ite ?_ ?_
      | refine LeO.bind ?_ (fun _ => ?_)
theorem aumbryref10_Head.mono : ∀ a0 k, LeO (aumbryref10_Head.f k a0) (aumbryref10_Head.f (k + 1) a0) := by
  intro a0 k
  obtain ⟨ih0, ih1⟩ := aumbryref10_Head.mono_l k
  unfold aumbryref10_Head.f
  repeat' first
      | (with_reducible exact ih0 _ _ _ _ _)
      | (with_reducible exact ih1 _ _ _ _)
      | (with_reducible exact aumbryref01_Put.mono _ _ _)
      | (with_reducible exact aumbryref02_More.mono _ _ _)
      | (with_reducible exact aumbryref02_Sum.mono _ _)
      | (with_reducible exact aumbryref10_List.mono _ _)
      | (with_reducible exact LeO.refl _)
      | (with_reducible exact LeO.none _)
      | (with_reducible refine LeO.ite ?_ ?_)
      | (with_reducible refine LeO.bind ?_ (fun _ => ?_))
      | exact ih0 _ _ _ _ _
      | exact ih1 _ _ _ _
      | exact aumbryref01_Put.mono _ _ _
      | exact aumbryref02_More.mono _ _ _
      | exact aumbryref02_Sum.mono _ _
      | exact aumbryref10_List.mono _ _
      | exact LeO.none _
      | refine LeO.ite ?_ ?_
      | refine LeO.bind ?_ (fun _ => ?_)
set_option maxHeartbeats 8000000 in
set_option maxRecDepth 100000 in
theorem aumbryref10_Head.calls (k : Nat) (A0 : Option Addr) (c0 : Nat) (l0 : List (S62)) (r : ByteArray) (w : World) (hr0 : Kd.C k62 w A0 l0.length l0) (hc0 : l0.length ≤ c0) (h : aumbryref10_Head.f k l0 = some r) :
    Calls Try.prog 77 #[.slice A0 l0.length c0] w fun e w' => e = .returned (.string r) ∧ Below w.heap.size w w' := by
  have HR0 := Aside0.mk hr0
  have HC0 := Aside0.mk hc0
  clear hr0 hc0
  have HB := Aside0.mk (Below.refl w.heap.size w)
  have H : ((aumbryref02_Sum.f k (⟨#[]⟩ : ByteArray)).bind fun t178 => ((aumbryref10_List.f k l0).bind fun t179 => (aumbryref10_Head.l0 k l0 t178 t179 (t179.length : Int) 0))) = some r := h
  clear h
  replace H := Option.bind_eq_some_iff.mp H
  obtain ⟨t178, A20, H⟩ := H
  replace H : ((aumbryref10_List.f k l0).bind fun t179 => (aumbryref10_Head.l0 k l0 t178 t179 (t179.length : Int) 0)) = some r := H
  have A2 := Aside0.mk A20
  clear A20
  replace H := Option.bind_eq_some_iff.mp H
  obtain ⟨t179, A30, H⟩ := H
  replace H : (aumbryref10_Head.l0 k l0 t178 t179 (t179.length : Int) 0) = some r := H
  have A3 := Aside0.mk A30
  clear A30
  have H' := Aside0.mk H
  clear H
  go_enter Try.func77, Try.ntmps77
  go_wp2_with (first | ((with_reducible refine gate_callee (f := 89) rfl ?_); refine goesL_ (some 11) rfl rfl Try.func89 (by kernel_rfl) rfl #[.string (⟨#[]⟩ : ByteArray)] rfl (by (try simp only [List.map_toArray, List.map_cons, List.map_nil]); first | done | rfl | (simp only [List.length_drop, List.length_take]; rfl)) ?_; (with_reducible refine (aumbryref02_Sum.calls k (⟨#[]⟩ : ByteArray) t178 _ A2.out).mono ?_); rintro e w' ⟨rfl, ⟨nd, rfl⟩⟩; refine ⟨_, rfl, ?_⟩) | ((with_reducible refine gate_callee (f := 76) rfl ?_); refine goesL_ (some 13) rfl rfl Try.func76 (by kernel_rfl) rfl #[.slice A0 l0.length c0] rfl (by (try simp only [List.map_toArray, List.map_cons, List.map_nil]); first | done | rfl | (simp only [List.length_drop, List.length_take]; rfl)) ?_; (with_reducible refine (aumbryref10_List.calls k _ _ l0 t179 _ ?side1 ?side2 A3.out).mono ?_); (case side1 => repeat (first | exact HR0.out | (with_reducible refine Kd.C_alloc ?_ _) | (with_reducible refine Kd.C_drewN ?_ _) | (with_reducible refine Kd.C_drew ?_))); (case side2 => exact HC0.out); rintro e w4 ⟨v180, rfl, ho0, hb⟩; refine ⟨_, rfl, ?_⟩; have n0_ := Aside0.mk (Kd.R_lower ho0 (below_size (by repeat (first | (with_reducible first | exact HB.out | apply below_alloc | apply pw_below_drewN | apply below_drew1) | exact HB.out)))); have n1_ := Aside0.mk (below_step (by repeat (first | (with_reducible first | exact HB.out | apply below_alloc | apply pw_below_drewN | apply below_drew1) | exact HB.out)) hb); clear HB; have HO181 := n0_; have HB := n1_; clear n0_ n1_; (try clear hb); (try clear hb2); (try clear hk); (try clear hi); (try clear ho0); obtain ⟨Ao5, co5, eo5⟩ := Kd.R_slice HO181.out; subst eo5))
  go_loopg [3, 16] k (fun kq v3 v16 w' => ∃ (x3_1 : Int) (x16_1 : Int), v3 = .int .u32 x3_1 ∧ v16 = .int .i64 x16_1 ∧ Aside0 (aumbryref10_Head.l0 kq l0 x3_1 t179 (t179.length : Int) x16_1 = some r) ∧ Aside0 (kq ≤ k) ∧ Aside0 (Kd.R Kd.string 9 w' w.heap.size (fun _ => True) (.slice Ao5 t179.length co5) t179) ∧ Aside0 (Below w.heap.size w w'))
  case atStart => exact ⟨(t178), (0), (by first | rfl | (simp; done) | (simp [*]; done)), (by first | rfl | (simp; done) | (simp [*]; done)), H', ⟨Nat.le_refl _⟩, ⟨by (with_reducible repeat (first | apply Kd.R_alloc | apply Kd.R_drewN | apply Kd.R_drew)); exact HO181.out⟩, ⟨by repeat (first | (with_reducible first | exact HB.out | apply below_alloc | apply pw_below_drewN | apply below_drew1) | exact HB.out)⟩⟩
  case round =>
    clear H'
    try clear p2
    obtain ⟨x3_1, x16_1, rfl, rfl, HA, HK1, HO_4, HB⟩ := hrel
    cases gk with
    | zero => exact absurd HA.out (by simp [aumbryref10_Head.l0])
    | succ k1 =>
      have H := HA.out
      clear HA
      simp only [aumbryref10_Head.l0] at H
      by_cases c6 : x16_1 < (t179.length : Int)
      · rw [if_pos c6] at H
        have c6b0 : decide (x16_1 < (t179.length : Int)) = true := decide_eq_true c6
        clear c6
        by_cases c7 : 0 ≤ x16_1
        · rw [if_pos c7] at H
          have c7b0 : decide (0 ≤ x16_1) = true := decide_eq_true c7
          clear c7
          by_cases c8 : x16_1 < (t179.length : Int)
          · rw [if_pos c8] at H
            have c8b0 : decide (x16_1 < (t179.length : Int)) = true := decide_eq_true c8
            clear c8
            replace H := Option.bind_eq_some_iff.mp H
            obtain ⟨t183, A90, H⟩ := H
            replace H : (aumbryref10_Head.l0 k1 l0 t183 t179 (t179.length : Int) (wrap64 (x16_1 + 1))) = some r := H
            have A9 := Aside0.mk A90
            clear A90
            have H' := Aside0.mk H
            clear H
            have p182 : 0 ≤ (x16_1 : Int) := of_decide_eq_true (by first | (with_reducible assumption) | assumption)
            have q182 : x16_1 < (t179.length : Int) := of_decide_eq_true (by first | (with_reducible assumption) | assumption)
            obtain ⟨ad182, e182, hx182_0⟩ := Kd.at_string (Kd.R_reads' HO_4.out).2.2 x16_1 p182 q182
            cases e182
            replace p182 := eq_true p182
            replace q182 := eq_true q182
            go_wp2_with (first | ((with_reducible refine gate_callee (f := 90) rfl ?_); refine goesL_ (some 24) rfl rfl Try.func90 (by kernel_rfl) rfl #[.int .u32 x3_1, .string (rdOf ByteArray.empty t179 x16_1)] rfl (by (try simp only [List.map_toArray, List.map_cons, List.map_nil]); first | done | rfl | (simp only [List.length_drop, List.length_take]; rfl)) ?_; (with_reducible refine (aumbryref02_More.calls k1 x3_1 (rdOf ByteArray.empty t179 x16_1) t183 _ A9.out).mono ?_); rintro e w' ⟨rfl, ⟨nd, rfl⟩⟩; refine ⟨_, rfl, ?_⟩))
            go_roundg k1
            case measure => have := HK1.out; omega
            case rel => exact ⟨(t183), (wrap64 (x16_1 + 1)), (by first | rfl | (simp; done) | (simp [*]; done)), (by first | rfl | (simp; done) | (simp [*]; done)), H', ⟨by have := HK1.out; omega⟩, ⟨by (with_reducible repeat (first | apply Kd.R_alloc | apply Kd.R_drewN | apply Kd.R_drew)); exact HO_4.out⟩, ⟨by repeat (first | (with_reducible first | exact HB.out | apply below_alloc | apply pw_below_drewN | apply below_drew1) | exact HB.out)⟩⟩
          · rw [if_neg c8] at H
            exact absurd H (by simp)
        · rw [if_neg c7] at H
          exact absurd H (by simp)
      · rw [if_neg c6] at H
        have c6b0 : decide (x16_1 < (t179.length : Int)) = false := decide_eq_false c6
        clear c6
        have H' := Aside0.mk H
        clear H
        go_wp2
        go_loopg [3, 28] k1 (fun kq v3 v28 w' => ∃ (x3_2 : Int) (x28_2 : Int), v3 = .int .u32 x3_2 ∧ v28 = .int .i64 x28_2 ∧ Aside0 (aumbryref10_Head.l1 kq l0 x3_2 (l0.length : Int) x28_2 = some r) ∧ Aside0 (kq ≤ k1) ∧ Aside0 (Below w.heap.size w w'))
        case atStart => exact ⟨(x3_1), (0), (by first | rfl | (simp; done) | (simp [*]; done)), (by first | rfl | (simp; done) | (simp [*]; done)), H', ⟨Nat.le_refl _⟩, ⟨by repeat (first | (with_reducible first | exact HB.out | apply below_alloc | apply pw_below_drewN | apply below_drew1) | exact HB.out)⟩⟩
        case round =>
          clear H'
          try clear p1
          try clear q1
          try clear hx1
          try clear p2
          try clear c6
          try clear c6b0
          try clear p6
          try clear c7
          try clear c7b0
          try clear c8
          try clear c8b0
          try clear c9
          try clear hx182_0
          try clear p182
          try clear p2
          try clear q182
          obtain ⟨x3_2, x28_2, rfl, rfl, HA, HK2, HB⟩ := hrel
          cases gk with
          | zero => exact absurd HA.out (by simp [aumbryref10_Head.l1])
          | succ k2 =>
            have H := HA.out
            clear HA
            simp only [aumbryref10_Head.l1] at H
            by_cases c10 : x28_2 < (l0.length : Int)
            · rw [if_pos c10] at H
              have c10b0 : decide (x28_2 < (l0.length : Int)) = true := decide_eq_true c10
              clear c10
              by_cases c11 : 0 ≤ x28_2
              · rw [if_pos c11] at H
                have c11b0 : decide (0 ≤ x28_2) = true := decide_eq_true c11
                clear c11
                by_cases c12 : x28_2 < (l0.length : Int)
                · rw [if_pos c12] at H
                  have c12b0 : decide (x28_2 < (l0.length : Int)) = true := decide_eq_true c12
                  clear c12
                  replace H := Option.bind_eq_some_iff.mp H
                  obtain ⟨t185, A130, H⟩ := H
                  replace H : (aumbryref10_Head.l1 k2 l0 t185 (l0.length : Int) (wrap64 (x28_2 + 1))) = some r := H
                  have A13 := Aside0.mk A130
                  clear A130
                  have H' := Aside0.mk H
                  clear H
                  have p184 : 0 ≤ (x28_2 : Int) := of_decide_eq_true (by first | (with_reducible assumption) | assumption)
                  have q184 : x28_2 < (l0.length : Int) := of_decide_eq_true (by first | (with_reducible assumption) | assumption)
                  obtain ⟨ad184, e184, hx184_0, hx184_1⟩ := at_T62 HR0.out x28_2 p184 q184
                  cases e184
                  replace hx184_0 := (HB.out.cell (World.block_lt_of_cell? w _ hx184_0)).trans hx184_0
                  replace hx184_1 := (HB.out.cell (World.block_lt_of_cell? w _ hx184_1)).trans hx184_1
                  replace p184 := eq_true p184
                  replace q184 := eq_true q184
                  go_wp2_with (first | ((with_reducible refine gate_callee (f := 90) rfl ?_); refine goesL_ (some 37) rfl rfl Try.func90 (by kernel_rfl) rfl #[.int .u32 x3_2, .string ((rd_T62 l0 x28_2).f1)] rfl (by (try simp only [List.map_toArray, List.map_cons, List.map_nil]); first | done | rfl | (simp only [List.length_drop, List.length_take]; rfl)) ?_; (with_reducible refine (aumbryref02_More.calls k2 x3_2 ((rd_T62 l0 x28_2).f1) t185 _ A13.out).mono ?_); rintro e w' ⟨rfl, ⟨nd, rfl⟩⟩; refine ⟨_, rfl, ?_⟩))
                  go_roundg k2
                  case measure => have := HK1.out; have := HK2.out; omega
                  case rel => exact ⟨(t185), (wrap64 (x28_2 + 1)), (by first | rfl | (simp; done) | (simp [*]; done)), (by first | rfl | (simp; done) | (simp [*]; done)), H', ⟨by have := HK1.out; have := HK2.out; omega⟩, ⟨by repeat (first | (with_reducible first | exact HB.out | apply below_alloc | apply pw_below_drewN | apply below_drew1) | exact HB.out)⟩⟩
                · rw [if_neg c12] at H
                  exact absurd H (by simp)
              · rw [if_neg c11] at H
                exact absurd H (by simp)
            · rw [if_neg c10] at H
              have c10b0 : decide (x28_2 < (l0.length : Int)) = false := decide_eq_false c10
              clear c10
              replace H := Option.bind_eq_some_iff.mp H
              obtain ⟨⟨t186, t187⟩, A140, H⟩ := H
              replace H : ((aumbryref01_Put.f k2 (IntKind.u64.wrap (x3_2)) 4).bind fun bt188 => (if 4 + t186.size ≤ 9223372036854775807 then (if ((⟨#[106, 114, 110, 108]⟩ : ByteArray) ++ t186).size + bt188.1.size ≤ 9223372036854775807 then ((aumbryref10_block.f (((⟨#[106, 114, 110, 108]⟩ : ByteArray) ++ t186) ++ bt188.1)).bind fun t190 => (some t190)) else (none)) else (none))) = some r := H
              have A14 := Aside0.mk A140
              clear A140
              replace H := Option.bind_eq_some_iff.mp H
              obtain ⟨⟨t188, t189⟩, A150, H⟩ := H
              replace H : (if 4 + t186.size ≤ 9223372036854775807 then (if ((⟨#[106, 114, 110, 108]⟩ : ByteArray) ++ t186).size + t188.size ≤ 9223372036854775807 then ((aumbryref10_block.f (((⟨#[106, 114, 110, 108]⟩ : ByteArray) ++ t186) ++ t188)).bind fun t190 => (some t190)) else (none)) else (none)) = some r := H
              have A15 := Aside0.mk A150
              clear A150
              by_cases c16 : 4 + t186.size ≤ 9223372036854775807
              · rw [if_pos c16] at H
                have c16b0 := eq_true c16
                have c16b1 : decide (4 + t186.size ≤ 9223372036854775807) = true := decide_eq_true c16
                try have c16b2 : (9223372036854775807 < 4 + t186.size) = False := eq_false (Nat.not_lt.2 c16)
                try (have c16b3 : (9223372036854775807 < 4 + t186.size) = False := eq_false (Nat.not_lt.2 c16); simp only [ByteArray.size_append] at c16b3)
                clear c16
                by_cases c17 : ((⟨#[106, 114, 110, 108]⟩ : ByteArray) ++ t186).size + t188.size ≤ 9223372036854775807
                · rw [if_pos c17] at H
                  have c17b0 := eq_true c17
                  have c17b1 : decide (((⟨#[106, 114, 110, 108]⟩ : ByteArray) ++ t186).size + t188.size ≤ 9223372036854775807) = true := decide_eq_true c17
                  have c17b4 : (9223372036854775807 < 4 + t186.size + t188.size) = False := eq_false (by have h4 : (⟨#[106, 114, 110, 108]⟩ : ByteArray).size = 4 := rfl; rw [ByteArray.size_append, h4] at c17; omega)
                  try have c17b2 : (9223372036854775807 < ((⟨#[106, 114, 110, 108]⟩ : ByteArray) ++ t186).size + t188.size) = False := eq_false (Nat.not_lt.2 c17)
                  try (have c17b3 : (9223372036854775807 < ((⟨#[106, 114, 110, 108]⟩ : ByteArray) ++ t186).size + t188.size) = False := eq_false (Nat.not_lt.2 c17); simp only [ByteArray.size_append] at c17b3)
                  clear c17
                  replace H := Option.bind_eq_some_iff.mp H
                  obtain ⟨t190, A180, H⟩ := H
                  replace H : (some t190) = some r := H
                  have A18 := Aside0.mk A180
                  clear A180
                  obtain rfl := Option.some.inj H
                  go_wp2_with (first | ((with_reducible refine gate_callee (f := 88) rfl ?_); refine goesL_ (some 43) rfl rfl Try.func88 (by kernel_rfl) rfl #[.int .u64 (IntKind.u64.wrap ((l0.length : Int))), .int .i64 2] rfl (by (try simp only [List.map_toArray, List.map_cons, List.map_nil]); first | done | rfl | (simp only [List.length_drop, List.length_take]; rfl)) ?_; (with_reducible refine (aumbryref01_Put.calls k2 (IntKind.u64.wrap ((l0.length : Int))) 2 t186 t187 _ A14.out).mono ?_); rintro e w19 ⟨rfl, hb⟩; refine ⟨_, rfl, ?_⟩; have n0_ := Aside0.mk (below_step (by repeat (first | (with_reducible first | exact HB.out | apply below_alloc | apply pw_below_drewN | apply below_drew1) | exact HB.out)) hb); clear HB; have HB := n0_; clear n0_; (try clear hb); (try clear hb2); (try clear hk); (try clear hi)) | ((with_reducible refine gate_callee (f := 88) rfl ?_); refine goesL_ (some 49) rfl rfl Try.func88 (by kernel_rfl) rfl #[.int .u64 (IntKind.u64.wrap (x3_2)), .int .i64 4] rfl (by (try simp only [List.map_toArray, List.map_cons, List.map_nil]); first | done | rfl | (simp only [List.length_drop, List.length_take]; rfl)) ?_; (with_reducible refine (aumbryref01_Put.calls k2 (IntKind.u64.wrap (x3_2)) 4 t188 t189 _ A15.out).mono ?_); rintro e w20 ⟨rfl, hb⟩; refine ⟨_, rfl, ?_⟩; have n0_ := Aside0.mk (below_step (by repeat (first | (with_reducible first | exact HB.out | apply below_alloc | apply pw_below_drewN | apply below_drew1) | exact HB.out)) hb); clear HB; have HB := n0_; clear n0_; (try clear hb); (try clear hb2); (try clear hk); (try clear hi)) | ((with_reducible refine gate_callee (f := 72) rfl ?_); refine goesL_ (some 56) rfl rfl Try.func72 (by kernel_rfl) rfl #[.string (((⟨#[106, 114, 110, 108]⟩ : ByteArray) ++ t186) ++ t188)] rfl (by (try simp only [List.map_toArray, List.map_cons, List.map_nil]); first | done | rfl | (simp only [List.length_drop, List.length_take]; rfl)) ?_; (with_reducible refine (aumbryref10_block.calls (((⟨#[106, 114, 110, 108]⟩ : ByteArray) ++ t186) ++ t188) t190 _ A18.out).mono ?_); rintro e w21 ⟨rfl, hb⟩; refine ⟨_, rfl, ?_⟩; have n0_ := Aside0.mk (below_step (by repeat (first | (with_reducible first | exact HB.out | apply below_alloc | apply pw_below_drewN | apply below_drew1) | exact HB.out)) hb); clear HB; have HB := n0_; clear n0_; (try clear hb); (try clear hb2); (try clear hk); (try clear hi)))
                  go_ret
                  exact ⟨by first | rfl | (simp [errW_none, errW_some] <;> rfl) | (simp [*, errW_none, errW_some] <;> rfl), by repeat (first | (with_reducible first | exact HB.out | apply below_alloc | apply pw_below_drewN | apply below_drew1) | exact HB.out)⟩
                · rw [if_neg c17] at H
                  exact absurd H (by simp)
              · rw [if_neg c16] at H
                exact absurd H (by simp)

/-! ### aumbryref10_Writes: function 54 -/
mutual
def aumbryref10_Writes.l0 : Nat → Int → List (S62) → List (S62) → Int → Int → Option ((List (S62)))
  | 0, _, _, _, _, _ => none
  | k + 1, x0, x1, x5, x14, x15 => if x15 < x14 then ((aumbryref10_Pages.f k x0).bind fun t191 => ((aumbryref10_Rows.f t191).bind fun t192 => (if 0 ≤ x15 then (if x15 < (x1.length : Int) then (if x5.length < 5864062014805 then (aumbryref10_Writes.l0 k x0 x1 (x5 ++ [(⟨wrap64 ((wrap64 (2 + t192)) + x15), (rd_T62 x1 x15).f1⟩ : S62)]) x14 (wrap64 (x15 + 1))) else (none)) else (none)) else (none)))) else ((aumbryref10_List.f k x1).bind fun t197 => (aumbryref10_Writes.l1 k x1 x5 t197 (t197.length : Int) 0))
def aumbryref10_Writes.l1 : Nat → List (S62) → List (S62) → List ByteArray → Int → Int → Option ((List (S62)))
  | 0, _, _, _, _, _ => none
  | k + 1, x1, x5, x7, x37, x38 => if x38 < x37 then (if 0 ≤ x38 then (if x38 < (x7.length : Int) then (if x5.length < 5864062014805 then (aumbryref10_Writes.l1 k x1 (x5 ++ [(⟨wrap64 (2 + x38), rdOf ByteArray.empty x7 x38⟩ : S62)]) x7 x37 (wrap64 (x38 + 1))) else (none)) else (none)) else (none)) else ((aumbryref10_Head.f k x1).bind fun t204 => (if x5.length < 5864062014805 then ((some (x5 ++ [(⟨1, t204⟩ : S62)] : List (S62))).bind fun y205 => (if y205.length + x1.length < 5864062014805 then ((some (y205 ++ x1 : List (S62))).bind fun y208 => ((aumbryref10_block.f (⟨#[]⟩ : ByteArray)).bind fun t211 => (if y208.length < 5864062014805 then (some (y208 ++ [(⟨1, t211⟩ : S62)])) else (none)))) else (none))) else (none)))
end
def aumbryref10_Writes.f (k : Nat) (a0 : Int) (l1 : List (S62)) : Option ((List (S62))) := if (l1.length : Int) = 0 then (some ([] : List (S62))) else (aumbryref10_Writes.l0 k a0 l1 ([] : List (S62)) (l1.length : Int) 0)
theorem aumbryref10_Writes.mono_l : ∀ k, (∀ y0 y1 y2 y3 y4, LeO (aumbryref10_Writes.l0 k y0 y1 y2 y3 y4) (aumbryref10_Writes.l0 (k + 1) y0 y1 y2 y3 y4)) ∧ (∀ y0 y1 y2 y3 y4, LeO (aumbryref10_Writes.l1 k y0 y1 y2 y3 y4) (aumbryref10_Writes.l1 (k + 1) y0 y1 y2 y3 y4))
  | 0 => ⟨fun _ _ _ _ _ r h => by simp [aumbryref10_Writes.l0] at h, fun _ _ _ _ _ r h => by simp [aumbryref10_Writes.l1] at h⟩
  | k + 1 => by
    obtain ⟨ih0, ih1⟩ := aumbryref10_Writes.mono_l k
    refine ⟨?_, ?_⟩
    · intro y0 y1 y2 y3 y4
      unfold aumbryref10_Writes.l0
      repeat' first
      | (with_reducible exact ih0 _ _ _ _ _)
      | (with_reducible exact ih1 _ _ _ _ _)
      | (with_reducible exact aumbryref10_Head.mono _ _)
      | (with_reducible exact aumbryref10_List.mono _ _)
      | (with_reducible exact aumbryref10_Pages.mono _ _)
      | (with_reducible exact LeO.refl _)
      | (with_reducible exact LeO.none _)
      | (with_reducible refine LeO.ite ?_ ?_)
      | (with_reducible refine LeO.bind ?_ (fun _ => ?_))
      | exact ih0 _ _ _ _ _
      | exact ih1 _ _ _ _ _
      | exact aumbryref10_Head.mono _ _
      | exact aumbryref10_List.mono _ _
      | exact aumbryref10_Pages.mono _ _
      | exact LeO.none _
      | refine LeO.ite ?_ ?_
      | refine LeO.bind ?_ (fun _ => ?_)
    · intro y0 y1 y2 y3 y4
      unfold aumbryref10_Writes.l1
      repeat' first
      | (with_reducible exact ih0 _ _ _ _ _)
      | (with_reducible exact ih1 _ _ _ _ _)
      | (with_reducible exact aumbryref10_Head.mono _ _)
      | (with_reducible exact aumbryref10_List.mono _ _)
      | (with_reducible exact aumbryref10_Pages.mono _ _)
      | (with_reducible exact LeO.refl _)
      | (with_reducible exact LeO.none _)
      | (with_reducible refine LeO.ite ?_ ?_)
      | (with_reducible refine LeO.bind ?_ (fun _ => ?_))
      | exact ih0 _ _ _ _ _
      | exact ih1 _ _ _ _ _
      | exact aumbryref10_Head.mono _ _
      | exact aumbryref10_List.mono _ _
      | exact aumbryref10_Pages.mono _ _
      | exact LeO.none _
      | refine LeO.ite ?_ ?_
      | refine LeO.bind ?_ (fun _ => ?_)
theorem aumbryref10_Writes.mono : ∀ a0 a1 k, LeO (aumbryref10_Writes.f k a0 a1) (aumbryref10_Writes.f (k + 1) a0 a1) := by
  intro a0 a1 k
  obtain ⟨ih0, ih1⟩ := aumbryref10_Writes.mono_l k
  unfold aumbryref10_Writes.f
  repeat' first
      | (with_reducible exact ih0 _ _ _ _ _)
      | (with_reducible exact ih1 _ _ _ _ _)
      | (with_reducible exact aumbryref10_Head.mono _ _)
      | (with_reducible exact aumbryref10_List.mono _ _)
      | (with_reducible exact aumbryref10_Pages.mono _ _)
      | (with_reducible exact LeO.refl _)
      | (with_reducible exact LeO.none _)
      | (with_reducible refine LeO.ite ?_ ?_)
      | (with_reducible refine LeO.bind ?_ (fun _ => ?_))
      | exact ih0 _ _ _ _ _
      | exact ih1 _ _ _ _ _
      | exact aumbryref10_Head.mono _ _
      | exact aumbryref10_List.mono _ _
      | exact aumbryref10_Pages.mono _ _
      | exact LeO.none _
      | refine LeO.ite ?_ ?_
      | refine LeO.bind ?_ (fun _ => ?_)
def aumbryref10_Writes.T7 : Bool × List (List Nat × List Nat) := (true, [([], []), ([], []), ([1], [1]), ([2, 2], [2]), ([3], [3]), ([], []), ([4, 5], [4, 5]), ([], []), ([], []), ([7, 8], [7, 8]), ([9], [9]), ([10], [10]), ([6, 11], [6, 11]), ([12], [12]), ([0, 13, 3], [0, 13]), ([14, 14, 0, 1, 2, 3, 4, 5, 6, 7, 8, 9, 10, 11, 12, 13, 14], [0, 14])])
def aumbryref10_Writes.B7 : List Nat := [0, 0, 2, 6, 14, 0, 62, 0, 0, 384, 896, 1920, 4094, 8190, 16383, 32767]
theorem aumbryref10_Writes.tab7 : rtab .any (opsOf Try.f54 7) = aumbryref10_Writes.T7 := by kernel_rfl
theorem aumbryref10_Writes.bits7 : waitsOk aumbryref10_Writes.T7.2 aumbryref10_Writes.B7 = true := by kernel_rfl
set_option maxHeartbeats 8000000 in
set_option maxRecDepth 100000 in
theorem aumbryref10_Writes.calls (k : Nat) (a0 : Int) (A1 : Option Addr) (c1 : Nat) (l1 : List (S62)) (r : List (S62)) (w : World) (hr1 : Kd.C k62 w A1 l1.length l1) (hc1 : l1.length ≤ c1) (h : aumbryref10_Writes.f k a0 l1 = some r) :
    Calls Try.prog 54 #[.int .i64 a0, .slice A1 l1.length c1] w fun e w' => ∃ v0_ : Value, e = .returned (v0_) ∧ Kd.R k62 62 w' w.heap.size (fun _ => True) v0_ r ∧ Below w.heap.size w w' := by
  have hu62 := Try.underlying62
  have HR1 := Aside0.mk hr1
  have HC1 := Aside0.mk hc1
  clear hr1 hc1
  have HB := Aside0.mk (Below.refl w.heap.size w)
  have H : (if (l1.length : Int) = 0 then (some ([] : List (S62))) else (aumbryref10_Writes.l0 k a0 l1 ([] : List (S62)) (l1.length : Int) 0)) = some r := h
  clear h
  by_cases c3 : (l1.length : Int) = 0
  · rw [if_pos c3] at H
    have c3b0 : ((l1.length : Int) == 0) = true := beq_iff_eq.mpr c3
    have c3b1 : ((l1.length : Int) != 0) = false := bne_eq_false_iff_eq.mpr c3
    clear c3
    obtain rfl := Option.some.inj H
    go_enter Try.func54, Try.ntmps54
    go_wp2
    go_ret
    exact ⟨_, by first | rfl | (simp [errW_none, errW_some] <;> rfl) | (simp [*, errW_none, errW_some] <;> rfl), by first | exact Kd.R_nil _ _ _ _ _ | exact Kd.N_nil _ _ _ _ _ | exact Kd.V_nil _ _ _ _ _ | exact Kd.Q_nil _ _ _ _ _ | exact Kd.S_nil _ _ _ _ _, by repeat (first | (with_reducible first | exact HB.out | apply below_alloc | apply pw_below_drewN | apply below_drew1) | exact HB.out)⟩
  · rw [if_neg c3] at H
    have c3b0 : ((l1.length : Int) == 0) = false := beq_eq_false_iff_ne.mpr c3
    have c3b1 : ((l1.length : Int) != 0) = true := bne_iff_ne.mpr c3
    have c3b2 : ¬ (l1 = []) := fun h_ => c3 (by rw [h_]; rfl)
    have H' := Aside0.mk H
    clear H
    go_enter Try.func54, Try.ntmps54
    go_wp2
    go_loopg [5, 15] k (fun kq v5 v15 w' => ∃ (x5_1 : List (S62)) (x15_1 : Int), v15 = .int .i64 x15_1 ∧ Aside0 (aumbryref10_Writes.l0 kq a0 l1 x5_1 (l1.length : Int) x15_1 = some r) ∧ Aside0 (kq ≤ k) ∧ Aside0 (Kd.R k62 62 w' w.heap.size (fun _ => True) v5 x5_1) ∧ Aside0 (Below w.heap.size w w'))
    case atStart => exact ⟨(([] : List (S62))), (0), (by first | rfl | (simp; done) | (simp [*]; done)), H', ⟨Nat.le_refl _⟩, ⟨by first | exact Kd.R_nil _ _ _ _ _ | exact Kd.N_nil _ _ _ _ _ | exact Kd.V_nil _ _ _ _ _ | exact Kd.Q_nil _ _ _ _ _ | exact Kd.S_nil _ _ _ _ _⟩, ⟨by repeat (first | (with_reducible first | exact HB.out | apply below_alloc | apply pw_below_drewN | apply below_drew1) | exact HB.out)⟩⟩
    case round =>
      clear H'
      try clear c1
      try clear p2
      try clear c3
      try clear c3b0
      try clear c3b1
      try clear c3b2
      obtain ⟨x5_1, x15_1, rfl, HA, HK1, HO_5, HB⟩ := hrel
      cases gk with
      | zero => exact absurd HA.out (by simp [aumbryref10_Writes.l0])
      | succ k1 =>
        have H := HA.out
        clear HA
        simp only [aumbryref10_Writes.l0] at H
        by_cases c4 : x15_1 < (l1.length : Int)
        · rw [if_pos c4] at H
          have c4b0 : decide (x15_1 < (l1.length : Int)) = true := decide_eq_true c4
          clear c4
          replace H := Option.bind_eq_some_iff.mp H
          obtain ⟨t191, A50, H⟩ := H
          replace H : ((aumbryref10_Rows.f t191).bind fun t192 => (if 0 ≤ x15_1 then (if x15_1 < (l1.length : Int) then (if x5_1.length < 5864062014805 then (aumbryref10_Writes.l0 k1 a0 l1 (x5_1 ++ [(⟨wrap64 ((wrap64 (2 + t192)) + x15_1), (rd_T62 l1 x15_1).f1⟩ : S62)]) (l1.length : Int) (wrap64 (x15_1 + 1))) else (none)) else (none)) else (none))) = some r := H
          have A5 := Aside0.mk A50
          clear A50
          replace H := Option.bind_eq_some_iff.mp H
          obtain ⟨t192, A60, H⟩ := H
          replace H : (if 0 ≤ x15_1 then (if x15_1 < (l1.length : Int) then (if x5_1.length < 5864062014805 then (aumbryref10_Writes.l0 k1 a0 l1 (x5_1 ++ [(⟨wrap64 ((wrap64 (2 + t192)) + x15_1), (rd_T62 l1 x15_1).f1⟩ : S62)]) (l1.length : Int) (wrap64 (x15_1 + 1))) else (none)) else (none)) else (none)) = some r := H
          have A6 := Aside0.mk A60
          clear A60
          by_cases c7 : 0 ≤ x15_1
          · rw [if_pos c7] at H
            have c7b0 : decide (0 ≤ x15_1) = true := decide_eq_true c7
            clear c7
            by_cases c8 : x15_1 < (l1.length : Int)
            · rw [if_pos c8] at H
              have c8b0 : decide (x15_1 < (l1.length : Int)) = true := decide_eq_true c8
              clear c8
              by_cases c9 : x5_1.length < 5864062014805
              · rw [if_pos c9] at H
                have LMc9 := Aside0.mk c9
                clear c9
                obtain ⟨y194, hy194⟩ : ∃ y_ : List (S62), y_ = (x5_1 ++ [(⟨wrap64 ((wrap64 (2 + t192)) + x15_1), (rd_T62 l1 x15_1).f1⟩ : S62)]) := ⟨_, rfl⟩
                replace H : (aumbryref10_Writes.l0 k1 a0 l1 y194 (l1.length : Int) (wrap64 (x15_1 + 1))) = some r := by first | (rw [hy194]; with_reducible exact H) | (have H2_ := (Option.bind_some _ _).symm.trans H; rw [hy194]; with_reducible exact H2_) | (have H2_ := (Option.bind_some _ _).symm.trans H; with_reducible exact H2_) | with_reducible exact H | (rw [hy194]; exact H) | exact H
                have Ny194 := Aside0.mk hy194
                clear hy194
                have H' := Aside0.mk H
                clear H
                try go_wp2
                have n0_ := Aside0.mk (Kd.R_drew HO_5.out)
                have n1_ := Aside0.mk (below_drew1 HB.out)
                clear HO_5
                clear HB
                have HO_5 := n0_
                have HB := n1_
                clear n0_ n1_
                have p193 : 0 ≤ (x15_1 : Int) := of_decide_eq_true (by first | (with_reducible assumption) | assumption)
                have q193 : x15_1 < (l1.length : Int) := of_decide_eq_true (by first | (with_reducible assumption) | assumption)
                obtain ⟨ad193, e193, hx193_0, hx193_1⟩ := at_T62 HR1.out x15_1 p193 q193
                have hw193_1 := hx193_1
                have hw193_0 := hx193_0
                cases e193
                replace hx193_0 := (HB.out.cell (World.block_lt_of_cell? w _ hx193_0)).trans hx193_0
                replace hx193_1 := (HB.out.cell (World.block_lt_of_cell? w _ hx193_1)).trans hx193_1
                replace p193 := eq_true p193
                replace q193 := eq_true q193
                refine start_ (n := 16) (S := fun w' => w'.cell? (ad193.add ((x15_1).toNat * 2)) = some (.int .i64 ((rd_T62 l1 x15_1).f0)) ∧ w'.cell? ⟨(ad193.add ((x15_1).toNat * 2)).block, (ad193.add ((x15_1).toNat * 2)).off + 1, none⟩ = some (.string ((rd_T62 l1 x15_1).f1))) (ds := []) #[false, false, false, false, false, false, false, false, false, false, false, false, false, false, false, false] (by kernel_rfl) rfl rfl ⟨((HB.out.cell (World.block_lt_of_cell? w _ hw193_0)).trans hw193_0), ((HB.out.cell (World.block_lt_of_cell? w _ hw193_1)).trans hw193_1)⟩ (fun hHeld => ?_); refine with_tabW aumbryref10_Writes.tab7 aumbryref10_Writes.bits7 (fun HT_ HW_ => ?_)
                generalize wr.drew = w10 at HO_5 HB hx193_0 hx193_1 hHeld ⊢
                refine pure_ (i := 0) (N := some 18) (v := ?_) (a' := ?_) #[true, false, false, false, false, false, false, false, false, false, false, false, false, false, false, false] rfl rfl (any_of HT_.out (by kernel_rfl)) (fun _ _ _ h => h) (Or.inl ⟨by rfl, ?_⟩) ?_ ?_
                rotate_left
                · intro w'
                  go_simp
                  with_reducible rfl
                rotate_left
                · simp only [Act.put, List.setIfInBounds_toArray, List.set_cons_zero, List.set_cons_succ, i64_w, i32_w]
                  rfl
                refine pure_ (i := 1) (N := some 19) (v := ?_) (a' := ?_) #[true, true, false, false, false, false, false, false, false, false, false, false, false, false, false, false] rfl rfl (any_of HT_.out (by kernel_rfl)) (fun _ _ _ h => h) (Or.inl ⟨by rfl, ?_⟩) ?_ ?_
                rotate_left
                · intro w'
                  go_simp
                  with_reducible rfl
                rotate_left
                · simp only [Act.put, List.setIfInBounds_toArray, List.set_cons_zero, List.set_cons_succ, i64_w, i32_w]
                  rfl
                refine pure_ (i := 5) (N := some 23) (v := ?_) (a' := ?_) #[true, true, false, false, false, true, false, false, false, false, false, false, false, false, false, false] rfl rfl (any_of HT_.out (by kernel_rfl)) (fun _ _ _ h => h) (Or.inl ⟨by rfl, ?_⟩) ?_ ?_
                rotate_left
                · intro w'
                  go_simp
                  with_reducible rfl
                rotate_left
                · simp only [Act.put, List.setIfInBounds_toArray, List.set_cons_zero, List.set_cons_succ, i64_w, i32_w]
                  rfl
                refine pure_ (i := 7) (N := some 25) (v := ?_) (a' := ?_) #[true, true, false, false, false, true, false, true, false, false, false, false, false, false, false, false] rfl rfl (any_of HT_.out (by kernel_rfl)) (fun _ _ _ h => h) (Or.inl ⟨by rfl, ?_⟩) ?_ ?_
                rotate_left
                · intro w'
                  go_simp
                  with_reducible rfl
                rotate_left
                · simp only [Act.put, List.setIfInBounds_toArray, List.set_cons_zero, List.set_cons_succ, i64_w, i32_w]
                  rfl
                refine pure_ (i := 8) (N := some 26) (v := ?_) (a' := ?_) #[true, true, false, false, false, true, false, true, true, false, false, false, false, false, false, false] rfl rfl (any_of HT_.out (by kernel_rfl)) (fun _ _ _ h => h) (Or.inl ⟨by rfl, ?_⟩) ?_ ?_
                rotate_left
                · intro w'
                  go_simp
                  with_reducible rfl
                rotate_left
                · simp only [Act.put, List.setIfInBounds_toArray, List.set_cons_zero, List.set_cons_succ, i64_w, i32_w]
                  rfl
                refine pure_ (i := 9) (N := some 27) (v := ?_) (a' := ?_) #[true, true, false, false, false, true, false, true, true, true, false, false, false, false, false, false] rfl rfl (any_of HT_.out (by kernel_rfl)) (fun _ _ _ h => h) (Or.inl ⟨by rfl, ?_⟩) ?_ ?_
                rotate_left
                · intro w'
                  go_simp
                  with_reducible rfl
                rotate_left
                · simp only [Act.put, List.setIfInBounds_toArray, List.set_cons_zero, List.set_cons_succ, i64_w, i32_w]
                  rfl
                refine pure_ (i := 10) (N := some 28) (v := ?_) (a' := ?_) #[true, true, false, false, false, true, false, true, true, true, true, false, false, false, false, false] rfl rfl (any_of HT_.out (by kernel_rfl)) (fun _ _ _ h => h) (Or.inl ⟨by rfl, ?_⟩) ?_ ?_
                rotate_left
                · intro w'
                  go_simp
                  with_reducible rfl
                rotate_left
                · simp only [Act.put, List.setIfInBounds_toArray, List.set_cons_zero, List.set_cons_succ, i64_w, i32_w]
                  rfl
                refine take_ (i := 11) (N := some 29) (v := ?_) (a' := ?_) #[true, true, false, false, false, true, false, true, true, true, true, true, false, false, false, false] rfl rfl (take_ofW HT_.out HW_.out (by kernel_rfl)) (fun _ _ _ h => h) (Or.inl ⟨by rfl, ?_⟩) hHeld ?_ ?_
                rotate_left
                · rintro w' ⟨s0, s1⟩
                  go_simp
                  with_reducible rfl
                rotate_left
                · simp only [Act.put, List.setIfInBounds_toArray, List.set_cons_zero, List.set_cons_succ, i64_w, i32_w]
                  rfl
                refine one_ (i := 2) (N := some 20) #[true, true, true, false, false, true, false, true, true, true, true, true, false, false, false, false] rfl rfl (one_of HT_.out (by kernel_rfl)) (by decide) (fun K hK => ?_)
                refine goes_ Try.func41 (by kernel_rfl) rfl #[.int .i64 a0] (by rfl) rfl rfl (by (try simp only [List.map_toArray, List.map_cons, List.map_nil]); first | done | rfl | (simp only [List.length_drop, List.length_take]; rfl)) ?_
                with_reducible refine (aumbryref10_Pages.calls k1 a0 t191 _ A5.out).mono ?_
                rintro e w' ⟨rfl, ⟨nd, rfl⟩⟩
                refine ⟨_, rfl, ?_⟩
                refine hK.out _ _ ⟨((HB.out.cell (World.block_lt_of_cell? w _ hw193_0)).trans hw193_0), ((HB.out.cell (World.block_lt_of_cell? w _ hw193_1)).trans hw193_1)⟩ (fun hHeld => ?_)
                clear hK K
                refine norm_ (a' := ?_) ?_ ?_
                rotate_left
                · show Act.put _ (some 20) _ = _
                  simp only [Act.put, List.setIfInBounds_toArray, List.set_cons_zero, List.set_cons_succ, i64_w, i32_w]
                  rfl
                refine one_ (i := 3) (N := some 21) #[true, true, true, true, false, true, false, true, true, true, true, true, false, false, false, false] rfl rfl (one_of HT_.out (by kernel_rfl)) (by decide) (fun K hK => ?_)
                refine goes_ Try.func64 (by kernel_rfl) rfl #[.int .i64 t191] (by rfl) rfl rfl (by (try simp only [List.map_toArray, List.map_cons, List.map_nil]); first | done | rfl | (simp only [List.length_drop, List.length_take]; rfl)) ?_
                with_reducible refine (aumbryref10_Rows.calls t191 t192 _ A6.out).mono ?_
                rintro e w' ⟨rfl, ⟨nd, rfl⟩⟩
                refine ⟨_, rfl, ?_⟩
                refine hK.out _ _ ⟨((HB.out.cell (World.block_lt_of_cell? w _ hw193_0)).trans hw193_0), ((HB.out.cell (World.block_lt_of_cell? w _ hw193_1)).trans hw193_1)⟩ (fun hHeld => ?_)
                clear hK K
                refine norm_ (a' := ?_) ?_ ?_
                rotate_left
                · show Act.put _ (some 21) _ = _
                  simp only [Act.put, List.setIfInBounds_toArray, List.set_cons_zero, List.set_cons_succ, i64_w, i32_w]
                  rfl
                refine pure_ (i := 4) (N := some 22) (v := ?_) (a' := ?_) #[true, true, true, true, true, true, false, true, true, true, true, true, false, false, false, false] rfl rfl (any_of HT_.out (by kernel_rfl)) (fun _ _ _ h => h) (Or.inl ⟨by rfl, ?_⟩) ?_ ?_
                rotate_left
                · intro w'
                  go_simp
                  with_reducible rfl
                rotate_left
                · simp only [Act.put, List.setIfInBounds_toArray, List.set_cons_zero, List.set_cons_succ, i64_w, i32_w]
                  rfl
                refine pure_ (i := 6) (N := some 24) (v := ?_) (a' := ?_) #[true, true, true, true, true, true, true, true, true, true, true, true, false, false, false, false] rfl rfl (any_of HT_.out (by kernel_rfl)) (fun _ _ _ h => h) (Or.inl ⟨by rfl, ?_⟩) ?_ ?_
                rotate_left
                · intro w'
                  go_simp
                  with_reducible rfl
                rotate_left
                · simp only [Act.put, List.setIfInBounds_toArray, List.set_cons_zero, List.set_cons_succ, i64_w, i32_w]
                  rfl
                refine pure_ (i := 12) (N := some 30) (v := ?_) (a' := ?_) #[true, true, true, true, true, true, true, true, true, true, true, true, true, false, false, false] rfl rfl (any_of HT_.out (by kernel_rfl)) (fun _ _ _ h => h) (Or.inl ⟨by rfl, ?_⟩) ?_ ?_
                rotate_left
                · intro w'
                  go_simp
                  with_reducible rfl
                rotate_left
                · simp only [Act.put, List.setIfInBounds_toArray, List.set_cons_zero, List.set_cons_succ, i64_w, i32_w]
                  rfl
                refine one_ (i := 13) (N := some 31) #[true, true, true, true, true, true, true, true, true, true, true, true, true, true, false, false] rfl rfl (one_of HT_.out (by kernel_rfl)) (by decide) (fun K hK => ?_)
                refine value_ (w1 := ?_) (v := ?_) (by rfl) rfl ?_ ?_
                rotate_left 2
                · go_simp
                  constructor
                  · rfl
                  · rfl
                refine hK.out _ _ ⟨(World.cell?_alloc_lt _ _ _ (World.block_lt_of_cell? _ _ (((HB.out.cell (World.block_lt_of_cell? w _ hw193_0)).trans hw193_0)))).trans (((HB.out.cell (World.block_lt_of_cell? w _ hw193_0)).trans hw193_0)), (World.cell?_alloc_lt _ _ _ (World.block_lt_of_cell? _ _ (((HB.out.cell (World.block_lt_of_cell? w _ hw193_1)).trans hw193_1)))).trans (((HB.out.cell (World.block_lt_of_cell? w _ hw193_1)).trans hw193_1))⟩ (fun hHeld => ?_)
                clear hK K
                refine norm_ (a' := ?_) ?_ ?_
                rotate_left
                · show Act.put _ (some 31) _ = _
                  simp only [Act.put, List.setIfInBounds_toArray, List.set_cons_zero, List.set_cons_succ, i64_w, i32_w]
                  rfl
                refine one_ (i := 14) (N := some 32) #[true, true, true, true, true, true, true, true, true, true, true, true, true, true, true, false] rfl rfl (one_of HT_.out (by kernel_rfl)) (by decide) (fun K hK => ?_)
                refine Kd.R_append_step k62 (w0 := w) w.heap.size (by rfl) (.tmp 18) (.tmp 31) 35 62 (.agg #[(.int .i64 0), (.string ⟨#[]⟩)]) 24 rfl Try.underlying35 info62 rfl (by decide) (by omega) u5 x5_1 (⟨wrap64 ((wrap64 (2 + t192)) + x15_1), (rd_T62 l1 x15_1).f1⟩ : S62) [.int .i64 (wrap64 ((wrap64 (2 + t192)) + x15_1)), .string ((rd_T62 l1 x15_1).f1)] (fun _ => True) (fun _ => False) rfl rfl ?aP (fun _ hk => hk.elim) ?aF ?aO ?aB ?aS ?aL ?_
                (case aP => exact k62_mkM _ _ _ (⟨wrap64 ((wrap64 (2 + t192)) + x15_1), (rd_T62 l1 x15_1).f1⟩ : S62))
                (case aB => exact (by repeat (first | (with_reducible first | exact HB.out | apply below_alloc | apply pw_below_drewN | apply below_drew1) | exact HB.out)))
                (case aF => exact (fun _ _ => trivial))
                (case aO => exact (by (with_reducible repeat (first | apply Kd.R_alloc | apply Kd.R_drewN | apply Kd.R_drew)); exact HO_5.out))
                (case aS => exact (below_size (by repeat (first | (with_reducible first | exact HB.out | apply below_alloc | apply pw_below_drewN | apply below_drew1) | exact HB.out))))
                (case aL => have := LMc9.out; omega)
                intro v195 w11 ho hb hg hat
                rw [← Ny194.out] at ho
                have n0_ := Aside0.mk (hb)
                have n1_ := Aside0.mk (ho)
                clear HB
                clear HO_5
                have HB := n0_
                have HO196 := n1_
                clear n0_ n1_
                clear ho hb hg hat
                refine hK.out _ _ ⟨((HB.out.cell (World.block_lt_of_cell? w _ hw193_0)).trans hw193_0), ((HB.out.cell (World.block_lt_of_cell? w _ hw193_1)).trans hw193_1)⟩ (fun hHeld => ?_)
                clear hK K
                refine norm_ (a' := ?_) ?_ ?_
                rotate_left
                · show Act.put _ (some 32) _ = _
                  simp only [Act.put, List.setIfInBounds_toArray, List.set_cons_zero, List.set_cons_succ, i64_w, i32_w]
                  rfl
                refine pure_ (i := 15) (N := some 5) (v := ?_) (a' := ?_) #[true, true, true, true, true, true, true, true, true, true, true, true, true, true, true, true] rfl rfl (any_of HT_.out (by kernel_rfl)) (fun _ _ _ h => h) (Or.inl ⟨by rfl, ?_⟩) ?_ ?_
                rotate_left
                · intro w'
                  go_simp
                  with_reducible rfl
                rotate_left
                · simp only [Act.put, List.setIfInBounds_toArray, List.set_cons_zero, List.set_cons_succ, i64_w, i32_w]
                  rfl
                refine done_ (done_of HT_.out (by kernel_rfl)) ?_
                try go_wp2
                go_roundg k1
                case measure => have := HK1.out; omega
                case rel => exact ⟨(y194), (wrap64 (x15_1 + 1)), (by first | rfl | (simp; done) | (simp [*]; done)), H', ⟨by have := HK1.out; omega⟩, ⟨by (with_reducible repeat (first | apply Kd.R_alloc | apply Kd.R_drewN | apply Kd.R_drew)); exact HO196.out⟩, ⟨by repeat (first | (with_reducible first | exact HB.out | apply below_alloc | apply pw_below_drewN | apply below_drew1) | exact HB.out)⟩⟩
              · rw [if_neg c9] at H
                exact absurd H (by simp)
            · rw [if_neg c8] at H
              exact absurd H (by simp)
          · rw [if_neg c7] at H
            exact absurd H (by simp)
        · rw [if_neg c4] at H
          have c4b0 : decide (x15_1 < (l1.length : Int)) = false := decide_eq_false c4
          clear c4
          replace H := Option.bind_eq_some_iff.mp H
          obtain ⟨t197, A120, H⟩ := H
          replace H : (aumbryref10_Writes.l1 k1 l1 x5_1 t197 (t197.length : Int) 0) = some r := H
          have A12 := Aside0.mk A120
          clear A120
          have H' := Aside0.mk H
          clear H
          go_wp2_with (first | ((with_reducible refine gate_callee (f := 76) rfl ?_); refine goesL_ (some 35) rfl rfl Try.func76 (by kernel_rfl) rfl #[.slice A1 l1.length c1] rfl (by (try simp only [List.map_toArray, List.map_cons, List.map_nil]); first | done | rfl | (simp only [List.length_drop, List.length_take]; rfl)) ?_; (with_reducible refine (aumbryref10_List.calls k1 _ _ l1 t197 _ ?side1 ?side2 A12.out).mono ?_); (case side1 => repeat (first | exact (Kd.C_below HR1.out HB.out) | (with_reducible refine Kd.C_alloc ?_ _) | (with_reducible refine Kd.C_drewN ?_ _) | (with_reducible refine Kd.C_drew ?_))); (case side2 => exact HC1.out); rintro e w13 ⟨v198, rfl, ho0, hb⟩; refine ⟨_, rfl, ?_⟩; have n0_ := Aside0.mk (Kd.R_below (by (with_reducible repeat (first | apply Kd.R_alloc | apply Kd.R_drewN | apply Kd.R_drew)); exact HO_5.out) hb); have n1_ := Aside0.mk (Kd.R_lower ho0 (below_size (by repeat (first | (with_reducible first | exact HB.out | apply below_alloc | apply pw_below_drewN | apply below_drew1) | exact HB.out)))); have n2_ := Aside0.mk (below_step (by repeat (first | (with_reducible first | exact HB.out | apply below_alloc | apply pw_below_drewN | apply below_drew1) | exact HB.out)) hb); clear HO_5; clear HB; have HO_5 := n0_; have HO199 := n1_; have HB := n2_; clear n0_ n1_ n2_; (try clear hb); (try clear hb2); (try clear hk); (try clear hi); (try clear ho0); obtain ⟨Ao14, co14, eo14⟩ := Kd.R_slice HO199.out; subst eo14))
          go_loopg [5, 38] k1 (fun kq v5 v38 w' => ∃ (x5_2 : List (S62)) (x38_2 : Int), v38 = .int .i64 x38_2 ∧ Aside0 (aumbryref10_Writes.l1 kq l1 x5_2 t197 (t197.length : Int) x38_2 = some r) ∧ Aside0 (kq ≤ k1) ∧ Aside0 (Kd.R k62 62 w' w.heap.size (fun _ => True) v5 x5_2) ∧ Aside0 (Kd.R Kd.string 9 w' w.heap.size (fun _ => True) (.slice Ao14 t197.length co14) t197) ∧ Aside0 (Below w.heap.size w w'))
          case atStart => exact ⟨(x5_1), (0), (by first | rfl | (simp; done) | (simp [*]; done)), H', ⟨Nat.le_refl _⟩, ⟨by (with_reducible repeat (first | apply Kd.R_alloc | apply Kd.R_drewN | apply Kd.R_drew)); exact HO_5.out⟩, ⟨by (with_reducible repeat (first | apply Kd.R_alloc | apply Kd.R_drewN | apply Kd.R_drew)); exact HO199.out⟩, ⟨by repeat (first | (with_reducible first | exact HB.out | apply below_alloc | apply pw_below_drewN | apply below_drew1) | exact HB.out)⟩⟩
          case round =>
            clear H'
            try clear c1
            try clear p1
            try clear q1
            try clear hx1
            try clear p2
            try clear c3
            try clear c3b0
            try clear c3b1
            try clear c3b2
            try clear c4
            try clear c4b0
            try clear c5
            try clear c6
            try clear p6
            try clear c7
            try clear c7b0
            try clear c8
            try clear c8b0
            try clear c9
            try clear hx193_0
            try clear hx193_1
            try clear p193
            try clear p2
            try clear q193
            obtain ⟨x5_2, x38_2, rfl, HA, HK2, HO_5, HO_7, HB⟩ := hrel
            cases gk with
            | zero => exact absurd HA.out (by simp [aumbryref10_Writes.l1])
            | succ k2 =>
              have H := HA.out
              clear HA
              simp only [aumbryref10_Writes.l1] at H
              by_cases c15 : x38_2 < (t197.length : Int)
              · rw [if_pos c15] at H
                have c15b0 : decide (x38_2 < (t197.length : Int)) = true := decide_eq_true c15
                clear c15
                by_cases c16 : 0 ≤ x38_2
                · rw [if_pos c16] at H
                  have c16b0 : decide (0 ≤ x38_2) = true := decide_eq_true c16
                  clear c16
                  by_cases c17 : x38_2 < (t197.length : Int)
                  · rw [if_pos c17] at H
                    have c17b0 : decide (x38_2 < (t197.length : Int)) = true := decide_eq_true c17
                    clear c17
                    by_cases c18 : x5_2.length < 5864062014805
                    · rw [if_pos c18] at H
                      have LMc18 := Aside0.mk c18
                      clear c18
                      obtain ⟨y201, hy201⟩ : ∃ y_ : List (S62), y_ = (x5_2 ++ [(⟨wrap64 (2 + x38_2), rdOf ByteArray.empty t197 x38_2⟩ : S62)]) := ⟨_, rfl⟩
                      replace H : (aumbryref10_Writes.l1 k2 l1 y201 t197 (t197.length : Int) (wrap64 (x38_2 + 1))) = some r := by first | (rw [hy201]; with_reducible exact H) | (have H2_ := (Option.bind_some _ _).symm.trans H; rw [hy201]; with_reducible exact H2_) | (have H2_ := (Option.bind_some _ _).symm.trans H; with_reducible exact H2_) | with_reducible exact H | (rw [hy201]; exact H) | exact H
                      have Ny201 := Aside0.mk hy201
                      clear hy201
                      have H' := Aside0.mk H
                      clear H
                      have p200 : 0 ≤ (x38_2 : Int) := of_decide_eq_true (by first | (with_reducible assumption) | assumption)
                      have q200 : x38_2 < (t197.length : Int) := of_decide_eq_true (by first | (with_reducible assumption) | assumption)
                      obtain ⟨ad200, e200, hx200_0⟩ := Kd.at_string (Kd.R_reads' HO_7.out).2.2 x38_2 p200 q200
                      cases e200
                      replace p200 := eq_true p200
                      replace q200 := eq_true q200
                      go_wp2_with (first | ((with_reducible refine gate_builtin (b := .append) (xs := #[.tmp 41, .tmp 49]) rfl ?_); at_builtin; refine Kd.R_append k62 (w0 := w) w.heap.size rfl (.tmp 41) (.tmp 49) 35 62 (.agg #[(.int .i64 0), (.string ⟨#[]⟩)]) 24 rfl Try.underlying35 info62 rfl (by decide) (by omega) u5 x5_2 (⟨wrap64 (2 + x38_2), rdOf ByteArray.empty t197 x38_2⟩ : S62) [.int .i64 (wrap64 (2 + x38_2)), .string (rdOf ByteArray.empty t197 x38_2)] (fun _ => True) (fun _ => False) rfl rfl ?aP (fun _ hk => hk.elim) ?aF ?aO ?aB ?aS ?aL ?_; (case aP => exact k62_mkM _ _ _ (⟨wrap64 (2 + x38_2), rdOf ByteArray.empty t197 x38_2⟩ : S62)); (case aB => exact (by repeat (first | (with_reducible first | exact HB.out | apply below_alloc | apply pw_below_drewN | apply below_drew1) | exact HB.out))); (case aF => exact (fun _ _ => trivial)); (case aO => exact (by (with_reducible repeat (first | apply Kd.R_alloc | apply Kd.R_drewN | apply Kd.R_drew)); exact HO_5.out)); (case aS => exact (below_size (by repeat (first | (with_reducible first | exact HB.out | apply below_alloc | apply pw_below_drewN | apply below_drew1) | exact HB.out)))); (case aL => have := LMc18.out; omega); intro v202 w19 ho hb hg hat; rw [← Ny201.out] at ho; have n0_ := Aside0.mk (Kd.R_over' (by (with_reducible repeat (first | apply Kd.R_alloc | apply Kd.R_drewN | apply Kd.R_drew)); exact HO_7.out) (Kd.R_typed (by (with_reducible repeat (first | apply Kd.R_alloc | apply Kd.R_drewN | apply Kd.R_drew)); exact HO_5.out)) (by decide) hg); have n1_ := Aside0.mk (hb); have n2_ := Aside0.mk (ho); clear HO_7; clear HB; clear HO_5; have HO_7 := n0_; have HB := n1_; have HO203 := n2_; clear n0_ n1_ n2_; clear ho hb hg hat))
                      go_roundg k2
                      case measure => have := HK1.out; have := HK2.out; omega
                      case rel => exact ⟨(y201), (wrap64 (x38_2 + 1)), (by first | rfl | (simp; done) | (simp [*]; done)), H', ⟨by have := HK1.out; have := HK2.out; omega⟩, ⟨by (with_reducible repeat (first | apply Kd.R_alloc | apply Kd.R_drewN | apply Kd.R_drew)); exact HO203.out⟩, ⟨by (with_reducible repeat (first | apply Kd.R_alloc | apply Kd.R_drewN | apply Kd.R_drew)); exact HO_7.out⟩, ⟨by repeat (first | (with_reducible first | exact HB.out | apply below_alloc | apply pw_below_drewN | apply below_drew1) | exact HB.out)⟩⟩
                    · rw [if_neg c18] at H
                      exact absurd H (by simp)
                  · rw [if_neg c17] at H
                    exact absurd H (by simp)
                · rw [if_neg c16] at H
                  exact absurd H (by simp)
              · rw [if_neg c15] at H
                have c15b0 : decide (x38_2 < (t197.length : Int)) = false := decide_eq_false c15
                clear c15
                replace H := Option.bind_eq_some_iff.mp H
                obtain ⟨t204, A200, H⟩ := H
                replace H : (if x5_2.length < 5864062014805 then ((some (x5_2 ++ [(⟨1, t204⟩ : S62)] : List (S62))).bind fun y205 => (if y205.length + l1.length < 5864062014805 then ((some (y205 ++ l1 : List (S62))).bind fun y208 => ((aumbryref10_block.f (⟨#[]⟩ : ByteArray)).bind fun t211 => (if y208.length < 5864062014805 then (some (y208 ++ [(⟨1, t211⟩ : S62)])) else (none)))) else (none))) else (none)) = some r := H
                have A20 := Aside0.mk A200
                clear A200
                by_cases c21 : x5_2.length < 5864062014805
                · rw [if_pos c21] at H
                  have LMc21 := Aside0.mk c21
                  clear c21
                  obtain ⟨y205, hy205⟩ : ∃ y_ : List (S62), y_ = (x5_2 ++ [(⟨1, t204⟩ : S62)]) := ⟨_, rfl⟩
                  replace H : (if y205.length + l1.length < 5864062014805 then ((some (y205 ++ l1 : List (S62))).bind fun y208 => ((aumbryref10_block.f (⟨#[]⟩ : ByteArray)).bind fun t211 => (if y208.length < 5864062014805 then (some (y208 ++ [(⟨1, t211⟩ : S62)])) else (none)))) else (none)) = some r := by first | (rw [hy205]; with_reducible exact H) | (have H2_ := (Option.bind_some _ _).symm.trans H; rw [hy205]; with_reducible exact H2_) | (have H2_ := (Option.bind_some _ _).symm.trans H; with_reducible exact H2_) | with_reducible exact H | (rw [hy205]; exact H) | exact H
                  have Ny205 := Aside0.mk hy205
                  clear hy205
                  by_cases c22 : y205.length + l1.length < 5864062014805
                  · rw [if_pos c22] at H
                    have LMc22 := Aside0.mk c22
                    clear c22
                    obtain ⟨y208, hy208⟩ : ∃ y_ : List (S62), y_ = (y205 ++ l1) := ⟨_, rfl⟩
                    replace H : ((aumbryref10_block.f (⟨#[]⟩ : ByteArray)).bind fun t211 => (if y208.length < 5864062014805 then (some (y208 ++ [(⟨1, t211⟩ : S62)])) else (none))) = some r := by first | (rw [hy208]; with_reducible exact H) | (have H2_ := (Option.bind_some _ _).symm.trans H; rw [hy208]; with_reducible exact H2_) | (have H2_ := (Option.bind_some _ _).symm.trans H; with_reducible exact H2_) | with_reducible exact H | (rw [hy208]; exact H) | exact H
                    have Ny208 := Aside0.mk hy208
                    clear hy208
                    replace H := Option.bind_eq_some_iff.mp H
                    obtain ⟨t211, A230, H⟩ := H
                    replace H : (if y208.length < 5864062014805 then (some (y208 ++ [(⟨1, t211⟩ : S62)])) else (none)) = some r := H
                    have A23 := Aside0.mk A230
                    clear A230
                    by_cases c24 : y208.length < 5864062014805
                    · rw [if_pos c24] at H
                      have LMc24 := Aside0.mk c24
                      clear c24
                      obtain ⟨y212, hy212⟩ : ∃ y_ : List (S62), y_ = (y208 ++ [(⟨1, t211⟩ : S62)]) := ⟨_, rfl⟩
                      replace H : (some y212) = some r := by first | (rw [hy212]; with_reducible exact H) | (have H2_ := (Option.bind_some _ _).symm.trans H; rw [hy212]; with_reducible exact H2_) | (have H2_ := (Option.bind_some _ _).symm.trans H; with_reducible exact H2_) | with_reducible exact H | (rw [hy212]; exact H) | exact H
                      have Ny212 := Aside0.mk hy212
                      clear hy212
                      obtain rfl := Option.some.inj H
                      go_wp2_with (first | ((with_reducible refine gate_callee (f := 77) rfl ?_); refine goesL_ (some 54) rfl rfl Try.func77 (by kernel_rfl) rfl #[.slice A1 l1.length c1] rfl (by (try simp only [List.map_toArray, List.map_cons, List.map_nil]); first | done | rfl | (simp only [List.length_drop, List.length_take]; rfl)) ?_; (with_reducible refine (aumbryref10_Head.calls k2 _ _ l1 t204 _ ?side1 ?side2 A20.out).mono ?_); (case side1 => repeat (first | exact (Kd.C_below HR1.out HB.out) | (with_reducible refine Kd.C_alloc ?_ _) | (with_reducible refine Kd.C_drewN ?_ _) | (with_reducible refine Kd.C_drew ?_))); (case side2 => exact HC1.out); rintro e w25 ⟨rfl, hb⟩; refine ⟨_, rfl, ?_⟩; have n0_ := Aside0.mk (Kd.R_below (by (with_reducible repeat (first | apply Kd.R_alloc | apply Kd.R_drewN | apply Kd.R_drew)); exact HO_5.out) hb); have n1_ := Aside0.mk (Kd.R_below (by (with_reducible repeat (first | apply Kd.R_alloc | apply Kd.R_drewN | apply Kd.R_drew)); exact HO_7.out) hb); have n2_ := Aside0.mk (below_step (by repeat (first | (with_reducible first | exact HB.out | apply below_alloc | apply pw_below_drewN | apply below_drew1) | exact HB.out)) hb); clear HO_5; clear HO_7; clear HB; have HO_5 := n0_; have HO_7 := n1_; have HB := n2_; clear n0_ n1_ n2_; (try clear hb); (try clear hb2); (try clear hk); (try clear hi)) | ((with_reducible refine gate_builtin (b := .append) (xs := #[.tmp 52, .tmp 56]) rfl ?_); at_builtin; refine Kd.R_append k62 (w0 := w) w.heap.size rfl (.tmp 52) (.tmp 56) 35 62 (.agg #[(.int .i64 0), (.string ⟨#[]⟩)]) 24 rfl Try.underlying35 info62 rfl (by decide) (by omega) u5 x5_2 (⟨1, t204⟩ : S62) [.int .i64 1, .string t204] (fun _ => True) (fun _ => False) rfl rfl ?aP (fun _ hk => hk.elim) ?aF ?aO ?aB ?aS ?aL ?_; (case aP => exact k62_mkM _ _ _ (⟨1, t204⟩ : S62)); (case aB => exact (by repeat (first | (with_reducible first | exact HB.out | apply below_alloc | apply pw_below_drewN | apply below_drew1) | exact HB.out))); (case aF => exact (fun _ _ => trivial)); (case aO => exact (by (with_reducible repeat (first | apply Kd.R_alloc | apply Kd.R_drewN | apply Kd.R_drew)); exact HO_5.out)); (case aS => exact (below_size (by repeat (first | (with_reducible first | exact HB.out | apply below_alloc | apply pw_below_drewN | apply below_drew1) | exact HB.out)))); (case aL => have := LMc21.out; omega); intro v206 w26 ho hb hg hat; rw [← Ny205.out] at ho; have n0_ := Aside0.mk (Kd.R_over' (by (with_reducible repeat (first | apply Kd.R_alloc | apply Kd.R_drewN | apply Kd.R_drew)); exact HO_7.out) (Kd.R_typed (by (with_reducible repeat (first | apply Kd.R_alloc | apply Kd.R_drewN | apply Kd.R_drew)); exact HO_5.out)) (by decide) hg); have n1_ := Aside0.mk (hb); have n2_ := Aside0.mk (ho); clear HO_7; clear HB; clear HO_5; have HO_7 := n0_; have HB := n1_; have HO207 := n2_; clear n0_ n1_ n2_; clear ho hb hg hat) | ((with_reducible refine gate_builtin (b := .append) (xs := #[.tmp 58, .tmp 59]) rfl ?_); at_builtin; refine Kd.R_append_rows k62 (w0 := w) w.heap.size rfl (.tmp 58) (.tmp 59) 35 62 (.agg #[(.int .i64 0), (.string ⟨#[]⟩)]) 24 rfl Try.underlying35 info62 rfl (by decide) (by omega) v206 y205 l1 _ _ _ (fun _ => True) (fun _ => False) rfl rfl ?aO ?aR (fun _ _ h => h) (fun _ h => h.elim) ?aF ?aB ?aS ?aL ?_; (case aR => repeat (first | exact (Kd.C_below HR1.out HB.out) | (with_reducible refine Kd.C_alloc ?_ _) | (with_reducible refine Kd.C_drewN ?_ _) | (with_reducible refine Kd.C_drew ?_))); (case aB => exact (by repeat (first | (with_reducible first | exact HB.out | apply below_alloc | apply pw_below_drewN | apply below_drew1) | exact HB.out))); (case aF => exact (fun _ _ => trivial)); (case aO => exact (by (with_reducible repeat (first | apply Kd.R_alloc | apply Kd.R_drewN | apply Kd.R_drew)); exact HO207.out)); (case aS => exact (below_size (by repeat (first | (with_reducible first | exact HB.out | apply below_alloc | apply pw_below_drewN | apply below_drew1) | exact HB.out)))); (case aL => have := LMc22.out; omega); intro v209 w27 ho hb hg hat; rw [← Ny208.out] at ho; have n0_ := Aside0.mk (Kd.R_over' (by (with_reducible repeat (first | apply Kd.R_alloc | apply Kd.R_drewN | apply Kd.R_drew)); exact HO_7.out) (Kd.R_typed (by (with_reducible repeat (first | apply Kd.R_alloc | apply Kd.R_drewN | apply Kd.R_drew)); exact HO207.out)) (by decide) hg); have n1_ := Aside0.mk (hb); have n2_ := Aside0.mk (ho); clear HO_7; clear HB; clear HO207; have HO_7 := n0_; have HB := n1_; have HO210 := n2_; clear n0_ n1_ n2_; clear ho hb hg hat) | ((with_reducible refine gate_callee (f := 72) rfl ?_); refine goesL_ (some 62) rfl rfl Try.func72 (by kernel_rfl) rfl #[.string (⟨#[]⟩ : ByteArray)] rfl (by (try simp only [List.map_toArray, List.map_cons, List.map_nil]); first | done | rfl | (simp only [List.length_drop, List.length_take]; rfl)) ?_; (with_reducible refine (aumbryref10_block.calls (⟨#[]⟩ : ByteArray) t211 _ A23.out).mono ?_); rintro e w28 ⟨rfl, hb⟩; refine ⟨_, rfl, ?_⟩; have n0_ := Aside0.mk (Kd.R_below (by (with_reducible repeat (first | apply Kd.R_alloc | apply Kd.R_drewN | apply Kd.R_drew)); exact HO_7.out) hb); have n1_ := Aside0.mk (Kd.R_below (by (with_reducible repeat (first | apply Kd.R_alloc | apply Kd.R_drewN | apply Kd.R_drew)); exact HO210.out) hb); have n2_ := Aside0.mk (below_step (by repeat (first | (with_reducible first | exact HB.out | apply below_alloc | apply pw_below_drewN | apply below_drew1) | exact HB.out)) hb); clear HO_7; clear HO210; clear HB; have HO_7 := n0_; have HO210 := n1_; have HB := n2_; clear n0_ n1_ n2_; (try clear hb); (try clear hb2); (try clear hk); (try clear hi)) | ((with_reducible refine gate_builtin (b := .append) (xs := #[.tmp 61, .tmp 64]) rfl ?_); at_builtin; refine Kd.R_append k62 (w0 := w) w.heap.size rfl (.tmp 61) (.tmp 64) 35 62 (.agg #[(.int .i64 0), (.string ⟨#[]⟩)]) 24 rfl Try.underlying35 info62 rfl (by decide) (by omega) v209 y208 (⟨1, t211⟩ : S62) [.int .i64 1, .string t211] (fun _ => True) (fun _ => False) rfl rfl ?aP (fun _ hk => hk.elim) ?aF ?aO ?aB ?aS ?aL ?_; (case aP => exact k62_mkM _ _ _ (⟨1, t211⟩ : S62)); (case aB => exact (by repeat (first | (with_reducible first | exact HB.out | apply below_alloc | apply pw_below_drewN | apply below_drew1) | exact HB.out))); (case aF => exact (fun _ _ => trivial)); (case aO => exact (by (with_reducible repeat (first | apply Kd.R_alloc | apply Kd.R_drewN | apply Kd.R_drew)); exact HO210.out)); (case aS => exact (below_size (by repeat (first | (with_reducible first | exact HB.out | apply below_alloc | apply pw_below_drewN | apply below_drew1) | exact HB.out)))); (case aL => have := LMc24.out; omega); intro v213 w29 ho hb hg hat; rw [← Ny212.out] at ho; have n0_ := Aside0.mk (Kd.R_over' (by (with_reducible repeat (first | apply Kd.R_alloc | apply Kd.R_drewN | apply Kd.R_drew)); exact HO_7.out) (Kd.R_typed (by (with_reducible repeat (first | apply Kd.R_alloc | apply Kd.R_drewN | apply Kd.R_drew)); exact HO210.out)) (by decide) hg); have n1_ := Aside0.mk (hb); have n2_ := Aside0.mk (ho); clear HO_7; clear HB; clear HO210; have HO_7 := n0_; have HB := n1_; have HO214 := n2_; clear n0_ n1_ n2_; clear ho hb hg hat))
                      go_ret
                      exact ⟨_, by first | rfl | (simp [errW_none, errW_some] <;> rfl) | (simp [*, errW_none, errW_some] <;> rfl), by (with_reducible repeat (first | apply Kd.R_alloc | apply Kd.R_drewN | apply Kd.R_drew)); exact HO214.out, by repeat (first | (with_reducible first | exact HB.out | apply below_alloc | apply pw_below_drewN | apply below_drew1) | exact HB.out)⟩
                    · rw [if_neg c24] at H
                      exact absurd H (by simp)
                  · rw [if_neg c22] at H
                    exact absurd H (by simp)
                · rw [if_neg c21] at H
                  exact absurd H (by simp)

-- NOT PRINTED: function 22 (aumbryref10_Commit)

end Go.Proofs.Ytgageigcjeaenaa.QJour
