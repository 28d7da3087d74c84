/- Written by a program of this session out of the translation: Lean functions with the same answers as the Go functions, and the walks that show it. -/
import Derived.Test.YtdieanikopjbjaaQSlotUnx0
import Derived.Test.YtdieanikopjbjaaQSlotUnx8
import Derived.Test.YtdieanikopjbjaaQSlotUnx9
import Derived.Test.YtdieanikopjbjaaQSlotUnx10
namespace Go.Proofs.Ytdieanikopjbjaa.QSlotUn
open Go.RowKit Go.Proofs.YtdieanikopjbjaaW.PrintWords Go.Proofs.YtdieanikopjbjaaW.PrintLast Go.Proofs.YtdieanikopjbjaaW.PrintMore
attribute [local go_sem] max2_int min2_int max_two min_two max_three min_three max_four min_four
attribute [local go_sem high] StepStr.leq_str StepStr.gtr_str
set_option linter.unusedVariables false
set_option linter.unusedSimpArgs false

/-! ### aumbryref15_Pack: function 38 -/
mutual
def aumbryref15_Pack.j0 : Nat → Bool → Int → Int → List (S76) → Option (ByteArray × Int)
  | 0, _, _, _, _ => none
  | k + 1, x25, x216000, x216001, x216002 => if x25 = true then (some ((⟨#[]⟩ : ByteArray), 1)) else (if (x216002.length : Int) > 5 then (some ((⟨#[]⟩ : ByteArray), 10)) else ((aumbryref15_put.f k 3 1).bind fun t216 => ((aumbryref15_put.f k (IntKind.u64.wrap (x216000)) 1).bind fun t217 => (if t216.size + t217.size ≤ 9223372036854775807 then ((aumbryref15_put.f k (IntKind.u64.wrap (x216001)) 2).bind fun t218 => (if (t216 ++ t217).size + t218.size ≤ 9223372036854775807 then ((aumbryref01_Zeros.f 12).bind fun t219 => (if ((t216 ++ t217) ++ t218).size + t219.size ≤ 9223372036854775807 then (aumbryref15_Pack.l0 k (((t216 ++ t217) ++ t218) ++ t219) (x216002.length : Int) 0 x216000 x216001 x216002) else (none))) else (none))) else (none)))))
def aumbryref15_Pack.l0 : Nat → ByteArray → Int → Int → Int → Int → List (S76) → Option (ByteArray × Int)
  | 0, _, _, _, _, _, _ => none
  | k + 1, x4, x45, x46, x216000, x216001, x216002 => if x46 < x45 then (if 0 ≤ x46 then (if x46 < (x216002.length : Int) then ((aumbryref15_May.f k ((rd_T76 x216002 x46).f0) ((rd_T76 x216002 x46).f1) ((rd_T76 x216002 x46).f2) ((rd_T76 x216002 x46).f3) ((rd_T76 x216002 x46).f4) ((rd_T76 x216002 x46).f5)).bind fun t222 => (if t222 = 0 then (aumbryref15_Pack.l1 k x4 x46 0 x45 x46 x216000 x216001 x216002) else (some ((⟨#[]⟩ : ByteArray), t222)))) else (none)) else (none)) else ((aumbryref01_Zeros.f (wrap64 (256 - (x4.size : Int)))).bind fun t220 => (if x4.size + t220.size ≤ 9223372036854775807 then (some (x4 ++ t220, 0)) else (none)))
def aumbryref15_Pack.l1 : Nat → ByteArray → Int → Int → Int → Int → Int → Int → List (S76) → Option (ByteArray × Int)
  | 0, _, _, _, _, _, _, _, _ => none
  | k + 1, x4, x5, x7, x45, x46, x216000, x216001, x216002 => if x7 < x5 then (if 0 ≤ x7 then (if x7 < (x216002.length : Int) then (if 0 ≤ x5 then (if x5 < (x216002.length : Int) then (if ((rd_T76 x216002 x7).f0) = ((rd_T76 x216002 x5).f0) then (some ((⟨#[]⟩ : ByteArray), 9)) else (aumbryref15_Pack.l1 k x4 x5 (wrap64 (x7 + 1)) x45 x46 x216000 x216001 x216002)) else (none)) else (none)) else (none)) else (none)) else (if 0 ≤ x5 then (if x5 < (x216002.length : Int) then ((aumbryref15_slot.f k ((rd_T76 x216002 x5).f0) ((rd_T76 x216002 x5).f1) ((rd_T76 x216002 x5).f2) ((rd_T76 x216002 x5).f3) ((rd_T76 x216002 x5).f4) ((rd_T76 x216002 x5).f5)).bind fun t226 => (if x4.size + t226.size ≤ 9223372036854775807 then (aumbryref15_Pack.l0 k (x4 ++ t226) x45 (wrap64 (x46 + 1)) x216000 x216001 x216002) else (none))) else (none)) else (none))
end
def aumbryref15_Pack.f (k : Nat) (a0_0 : Int) (a0_1 : Int) (l0_2 : List (S76)) : Option (ByteArray × Int) := if a0_0 < 0 then (aumbryref15_Pack.j0 k true a0_0 a0_1 l0_2) else (if a0_0 > 5 then (aumbryref15_Pack.j0 k true a0_0 a0_1 l0_2) else (if a0_1 < 0 then (aumbryref15_Pack.j0 k true a0_0 a0_1 l0_2) else (aumbryref15_Pack.j0 k (decide (a0_1 > 2047)) a0_0 a0_1 l0_2)))
theorem aumbryref15_Pack.mono_l : ∀ k, (∀ y0 y1 y2 y3, LeO (aumbryref15_Pack.j0 k y0 y1 y2 y3) (aumbryref15_Pack.j0 (k + 1) y0 y1 y2 y3)) ∧ (∀ y0 y1 y2 y3 y4 y5, LeO (aumbryref15_Pack.l0 k y0 y1 y2 y3 y4 y5) (aumbryref15_Pack.l0 (k + 1) y0 y1 y2 y3 y4 y5)) ∧ (∀ y0 y1 y2 y3 y4 y5 y6 y7, LeO (aumbryref15_Pack.l1 k y0 y1 y2 y3 y4 y5 y6 y7) (aumbryref15_Pack.l1 (k + 1) y0 y1 y2 y3 y4 y5 y6 y7))
  | 0 => ⟨fun _ _ _ _ r h => by simp [aumbryref15_Pack.j0] at h, fun _ _ _ _ _ _ r h => by simp [aumbryref15_Pack.l0] at h, fun _ _ _ _ _ _ _ _ r h => by simp [aumbryref15_Pack.l1] at h⟩
  | k + 1 => by
    obtain ⟨ih0, ih1, ih2⟩ := aumbryref15_Pack.mono_l k
    refine ⟨?_, ?_, ?_⟩
    · intro y0 y1 y2 y3
      unfold aumbryref15_Pack.j0
      repeat' first
      | (with_reducible exact ih0 _ _ _ _)
      | (with_reducible exact ih1 _ _ _ _ _ _)
      | (with_reducible exact ih2 _ _ _ _ _ _ _ _)
      | (with_reducible exact aumbryref15_May.mono _ _ _ _ _ _ _)
      | (with_reducible exact aumbryref15_put.mono _ _ _)
      | (with_reducible exact aumbryref15_slot.mono _ _ _ _ _ _ _)
      | (with_reducible exact LeO.refl _)
      | (with_reducible exact LeO.none _)
      | (with_reducible refine LeO.ite ?_ ?_)
      | (with_reducible refine LeO.bind ?_ (fun _ => ?_))
      | exact ih0 _ _ _ _
      | exact ih1 _ _ _ _ _ _
      | exact ih2 _ _ _ _ _ _ _ _
      | exact aumbryref15_May.mono _ _ _ _ _ _ _
      | exact aumbryref15_put.mono _ _ _
      | exact aumbryref15_slot.mono _ _ _ _ _ _ _
      | exact LeO.none _
      | refine LeO.ite ?_ ?_
      | refine LeO.bind ?_ (fun _ => ?_)
    · intro y0 y1 y2 y3 y4 y5
      unfold aumbryref15_Pack.l0
      repeat' first
      | (with_reducible exact ih0 _ _ _ _)
      | (with_reducible exact ih1 _ _ _ _ _ _)
      | (with_reducible exact ih2 _ _ _ _ _ _ _ _)
      | (with_reducible exact aumbryref15_May.mono _ _ _ _ _ _ _)
      | (with_reducible exact aumbryref15_put.mono _ _ _)
      | (with_reducible exact aumbryref15_slot.mono _ _ _ _ _ _ _)
      | (with_reducible exact LeO.refl _)
      | (with_reducible exact LeO.none _)
      | (with_reducible refine LeO.ite ?_ ?_)
      | (with_reducible refine LeO.bind ?_ (fun _ => ?_))
      | exact ih0 _ _ _ _
      | exact ih1 _ _ _ _ _ _
      | exact ih2 _ _ _ _ _ _ _ _
      | exact aumbryref15_May.mono _ _ _ _ _ _ _
      | exact aumbryref15_put.mono _ _ _
      | exact aumbryref15_slot.mono _ _ _ _ _ _ _
      | exact LeO.none _
      | refine LeO.ite ?_ ?_
      | refine LeO.bind ?_ (fun _ => ?_)
    · intro y0 y1 y2 y3 y4 y5 y6 y7
      unfold aumbryref15_Pack.l1
      repeat' first
      | (with_reducible exact ih0 _ _ _ _)
      | (with_reducible exact ih1 _ _ _ _ _ _)
      | (with_reducible exact ih2 _ _ _ _ _ _ _ _)
      | (with_reducible exact aumbryref15_May.mono _ _ _ _ _ _ _)
      | (with_reducible exact aumbryref15_put.mono _ _ _)
      | (with_reducible exact aumbryref15_slot.mono _ _ _ _ _ _ _)
      | (with_reducible exact LeO.refl _)
      | (with_reducible exact LeO.none _)
      | (with_reducible refine LeO.ite ?_ ?_)
      | (with_reducible refine LeO.bind ?_ (fun _ => ?_))
      | exact ih0 _ _ _ _
      | exact ih1 _ _ _ _ _ _
      | exact ih2 _ _ _ _ _ _ _ _
      | exact aumbryref15_May.mono _ _ _ _ _ _ _
      | exact aumbryref15_put.mono _ _ _
      | exact aumbryref15_slot.mono _ _ _ _ _ _ _
      | exact LeO.none _
      | refine LeO.ite ?_ ?_
      | refine LeO.bind ?_ (fun _ => ?_)
theorem aumbryref15_Pack.mono : ∀ a0 a1 a2 k, LeO (aumbryref15_Pack.f k a0 a1 a2) (aumbryref15_Pack.f (k + 1) a0 a1 a2) := by
  intro a0 a1 a2 k
  obtain ⟨ih0, ih1, ih2⟩ := aumbryref15_Pack.mono_l k
  unfold aumbryref15_Pack.f
  repeat' first
      | (with_reducible exact ih0 _ _ _ _)
      | (with_reducible exact ih1 _ _ _ _ _ _)
      | (with_reducible exact ih2 _ _ _ _ _ _ _ _)
      | (with_reducible exact aumbryref15_May.mono _ _ _ _ _ _ _)
      | (with_reducible exact aumbryref15_put.mono _ _ _)
      | (with_reducible exact aumbryref15_slot.mono _ _ _ _ _ _ _)
      | (with_reducible exact LeO.refl _)
      | (with_reducible exact LeO.none _)
      | (with_reducible refine LeO.ite ?_ ?_)
      | (with_reducible refine LeO.bind ?_ (fun _ => ?_))
      | exact ih0 _ _ _ _
      | exact ih1 _ _ _ _ _ _
      | exact ih2 _ _ _ _ _ _ _ _
      | exact aumbryref15_May.mono _ _ _ _ _ _ _
      | exact aumbryref15_put.mono _ _ _
      | exact aumbryref15_slot.mono _ _ _ _ _ _ _
      | exact LeO.none _
      | refine LeO.ite ?_ ?_
      | refine LeO.bind ?_ (fun _ => ?_)
def aumbryref15_Pack.T5 : Bool × List (List Nat × List Nat) := (true, [([], []), ([], []), ([1], [1]), ([2], [2]), ([3, 0], [3]), ([0, 4], [0, 4]), ([], []), ([6], [6]), ([7], [7]), ([8, 4], [8]), ([5, 9], [5, 9]), ([9], []), ([10, 11], [10, 11]), ([12, 11, 0, 1, 2, 3, 4, 5, 6, 7, 8, 9, 10, 11, 12], [12])])
def aumbryref15_Pack.B5 : List Nat := [0, 0, 2, 6, 15, 31, 0, 64, 192, 479, 1023, 991, 4095, 8191]
theorem aumbryref15_Pack.tab5 : rtab .any (opsOf Try.f38 5) = aumbryref15_Pack.T5 := by kernel_rfl
theorem aumbryref15_Pack.bits5 : waitsOk aumbryref15_Pack.T5.2 aumbryref15_Pack.B5 = true := by kernel_rfl
def aumbryref15_Pack.T15 : Bool × List (List Nat × List Nat) := (true, [([], []), ([0], [0]), ([], []), ([1, 2], [1, 2]), ([3], [3]), ([4], [4]), ([], []), ([6], [6]), ([], []), ([7, 8], [7, 8]), ([9], [9]), ([10], [10]), ([5, 11], [5, 11])])
def aumbryref15_Pack.B15 : List Nat := [0, 1, 0, 7, 15, 31, 0, 64, 0, 448, 960, 1984, 4095]
theorem aumbryref15_Pack.tab15 : rtab .any (opsOf Try.f38 15) = aumbryref15_Pack.T15 := by kernel_rfl
theorem aumbryref15_Pack.bits15 : waitsOk aumbryref15_Pack.T15.2 aumbryref15_Pack.B15 = true := by kernel_rfl
set_option maxHeartbeats 8000000 in
set_option maxRecDepth 100000 in
theorem aumbryref15_Pack.calls (k : Nat) (a0_0 : Int) (a0_1 : Int) (A0_2 : Option Addr) (c0_2 : Nat) (l0_2 : List (S76)) (r1 : ByteArray) (r2 : Int) (w : World) (hr0_2 : Kd.C k76 w A0_2 l0_2.length l0_2) (hc0_2 : l0_2.length ≤ c0_2) (h : aumbryref15_Pack.f k a0_0 a0_1 l0_2 = some (r1, r2)) :
    Calls Try.prog 38 #[.agg #[.int .i64 a0_0, .int .i64 a0_1, .slice A0_2 l0_2.length c0_2]] w fun e w' => e = .returned (.tuple #[.string r1, .int .i64 r2]) ∧ Below w.heap.size w w' := by
  have hu64 := Try.underlying64
  have hu76 := Try.underlying76
  have HR0_2 := Aside0.mk hr0_2
  have HC0_2 := Aside0.mk hc0_2
  clear hr0_2 hc0_2
  have HB := Aside0.mk (Below.refl w.heap.size w)
  have H : (if a0_0 < 0 then (aumbryref15_Pack.j0 k true a0_0 a0_1 l0_2) else (if a0_0 > 5 then (aumbryref15_Pack.j0 k true a0_0 a0_1 l0_2) else (if a0_1 < 0 then (aumbryref15_Pack.j0 k true a0_0 a0_1 l0_2) else (aumbryref15_Pack.j0 k (decide (a0_1 > 2047)) a0_0 a0_1 l0_2)))) = some (r1, r2) := h
  clear h
  have HC2 := Aside0.mk H
  clear H
  go_enter Try.func38, Try.ntmps38
  go_upto_region 1 with (first | ((with_reducible refine gate_dst (N := 1) rfl ?_); refine box_event ?hg (N := 1) ?hd (cs := #[.int .i64 a0_0, .int .i64 a0_1, .slice A0_2 l0_2.length c0_2]) (t := 64) ?hr ?_; (case hd => rfl); (case hg => rfl); (case hr => first | (go_simp; done) | (go_simp; rfl)); intro gb215 hg w3 hbox hb; have n0_ := Aside0.mk (below_step (by repeat (first | (with_reducible first | exact HB.out | apply below_alloc | apply pw_below_drewN | apply below_drew1) | exact HB.out)) hb); have n1_ := Aside0.mk (hbox); have n2_ := Aside0.mk ((by rw [hg]; exact (below_size (by repeat (first | (with_reducible first | exact HB.out | apply below_alloc | apply pw_below_drewN | apply below_drew1) | exact HB.out))) : w.heap.size ≤ gb215)); have n3_ := Aside0.mk ((by rw [hg]; exact (below_size (by repeat (first | (with_reducible first | exact HB.out | apply below_alloc | apply pw_below_drewN | apply below_drew1) | exact HB.out))) : w.heap.size ≤ gb215)); clear HB; have HB := n0_; have BK215 := n1_; have GW215 := n2_; have GE215 := n3_; clear n0_ n1_ n2_ n3_; clear hb hbox hg))
  (try simp only [Act.put, List.setIfInBounds_toArray, List.set_cons_zero, List.set_cons_succ])
  go_cut [25] (fun v25 wc => ∃ (kq : Nat) (x25_1 : Bool), v25 = .bool x25_1 ∧ Aside0 (aumbryref15_Pack.j0 kq x25_1 a0_0 a0_1 l0_2 = some (r1, r2)) ∧ Aside0 (kq ≤ k) ∧ Aside0 (wc.heap[gb215]? = some (.cells #[.int .i64 a0_0, .int .i64 a0_1, (.slice A0_2 l0_2.length c0_2)] 64 (0, 0))) ∧ Aside0 (Below w.heap.size w wc))
  case first =>
    have H := HC2.out
    clear HC2
    by_cases c4 : a0_0 < 0
    · rw [if_pos c4] at H
      have c4b0 : decide (a0_0 < 0) = true := decide_eq_true c4
      clear c4
      (first | rw [c4b0] | (simp only [i64_w, i32_w]; rw [c4b0]) | skip)
      have H' := Aside0.mk H
      clear H
      have hcz5_0 : w3.cell? ⟨gb215, 0, none⟩ = some (.int .i64 a0_0) := (blk_cell BK215.out 0).trans rfl
      have hcz5_1 : w3.cell? ⟨gb215, 1, none⟩ = some (.int .i64 a0_1) := (blk_cell BK215.out 1).trans rfl
      have hcz5_2 : w3.cell? ⟨gb215, 2, none⟩ = some (.slice A0_2 l0_2.length c0_2) := (blk_cell BK215.out 2).trans rfl
      have hfz5_0 := blk_frozen BK215.out 0
      have hfz5_1 := blk_frozen BK215.out 1
      have hfz5_2 := blk_frozen BK215.out 2
      go_wp2
      go_meet
      case rel => exact ⟨_, (true), (by first | rfl | (simp; done) | (simp [*]; done)), H', ⟨by first | omega | exact Nat.le_refl _⟩, ⟨by (with_reducible repeat (first | refine blk_drewN ?_ _ | refine blk_drew ?_ | refine blk_alloc ?_ _)); exact BK215.out⟩, ⟨by repeat (first | (with_reducible first | exact HB.out | apply below_alloc | apply pw_below_drewN | apply below_drew1 | refine below_set ?_ GE215.out) | exact HB.out)⟩⟩
    · rw [if_neg c4] at H
      have c4b0 : decide (a0_0 < 0) = false := decide_eq_false c4
      clear c4
      (first | rw [c4b0] | (simp only [i64_w, i32_w]; rw [c4b0]) | skip)
      by_cases c6 : a0_0 > 5
      · rw [if_pos c6] at H
        have c6b0 : decide (5 < a0_0) = true := decide_eq_true c6
        clear c6
        have H' := Aside0.mk H
        clear H
        have hcz7_0 : w3.cell? ⟨gb215, 0, none⟩ = some (.int .i64 a0_0) := (blk_cell BK215.out 0).trans rfl
        have hcz7_1 : w3.cell? ⟨gb215, 1, none⟩ = some (.int .i64 a0_1) := (blk_cell BK215.out 1).trans rfl
        have hcz7_2 : w3.cell? ⟨gb215, 2, none⟩ = some (.slice A0_2 l0_2.length c0_2) := (blk_cell BK215.out 2).trans rfl
        have hfz7_0 := blk_frozen BK215.out 0
        have hfz7_1 := blk_frozen BK215.out 1
        have hfz7_2 := blk_frozen BK215.out 2
        go_wp2
        go_meet
        case rel => exact ⟨_, (true), (by first | rfl | (simp; done) | (simp [*]; done)), H', ⟨by first | omega | exact Nat.le_refl _⟩, ⟨by (with_reducible repeat (first | refine blk_drewN ?_ _ | refine blk_drew ?_ | refine blk_alloc ?_ _)); exact BK215.out⟩, ⟨by repeat (first | (with_reducible first | exact HB.out | apply below_alloc | apply pw_below_drewN | apply below_drew1 | refine below_set ?_ GE215.out) | exact HB.out)⟩⟩
      · rw [if_neg c6] at H
        have c6b0 : decide (5 < a0_0) = false := decide_eq_false c6
        clear c6
        by_cases c8 : a0_1 < 0
        · rw [if_pos c8] at H
          have c8b0 : decide (a0_1 < 0) = true := decide_eq_true c8
          clear c8
          have H' := Aside0.mk H
          clear H
          have hcz9_0 : w3.cell? ⟨gb215, 0, none⟩ = some (.int .i64 a0_0) := (blk_cell BK215.out 0).trans rfl
          have hcz9_1 : w3.cell? ⟨gb215, 1, none⟩ = some (.int .i64 a0_1) := (blk_cell BK215.out 1).trans rfl
          have hcz9_2 : w3.cell? ⟨gb215, 2, none⟩ = some (.slice A0_2 l0_2.length c0_2) := (blk_cell BK215.out 2).trans rfl
          have hfz9_0 := blk_frozen BK215.out 0
          have hfz9_1 := blk_frozen BK215.out 1
          have hfz9_2 := blk_frozen BK215.out 2
          go_wp2
          go_meet
          case rel => exact ⟨_, (true), (by first | rfl | (simp; done) | (simp [*]; done)), H', ⟨by first | omega | exact Nat.le_refl _⟩, ⟨by (with_reducible repeat (first | refine blk_drewN ?_ _ | refine blk_drew ?_ | refine blk_alloc ?_ _)); exact BK215.out⟩, ⟨by repeat (first | (with_reducible first | exact HB.out | apply below_alloc | apply pw_below_drewN | apply below_drew1 | refine below_set ?_ GE215.out) | exact HB.out)⟩⟩
        · rw [if_neg c8] at H
          have c8b0 : decide (a0_1 < 0) = false := decide_eq_false c8
          clear c8
          have H' := Aside0.mk H
          clear H
          have hcz10_0 : w3.cell? ⟨gb215, 0, none⟩ = some (.int .i64 a0_0) := (blk_cell BK215.out 0).trans rfl
          have hcz10_1 : w3.cell? ⟨gb215, 1, none⟩ = some (.int .i64 a0_1) := (blk_cell BK215.out 1).trans rfl
          have hcz10_2 : w3.cell? ⟨gb215, 2, none⟩ = some (.slice A0_2 l0_2.length c0_2) := (blk_cell BK215.out 2).trans rfl
          have hfz10_0 := blk_frozen BK215.out 0
          have hfz10_1 := blk_frozen BK215.out 1
          have hfz10_2 := blk_frozen BK215.out 2
          go_wp2
          go_meet
          case rel => exact ⟨_, (decide (a0_1 > 2047)), (by first | rfl | (simp; done) | (simp [*]; done)), H', ⟨by first | omega | exact Nat.le_refl _⟩, ⟨by (with_reducible repeat (first | refine blk_drewN ?_ _ | refine blk_drew ?_ | refine blk_alloc ?_ _)); exact BK215.out⟩, ⟨by repeat (first | (with_reducible first | exact HB.out | apply below_alloc | apply pw_below_drewN | apply below_drew1 | refine below_set ?_ GE215.out) | exact HB.out)⟩⟩
  case rest =>
    clear HC2
    try clear p2
    try clear c3
    try clear c4
    try clear c4b0
    try clear c6
    try clear c6b0
    try clear c8
    try clear c8b0
    try clear hcz10_0
    try clear hcz10_1
    try clear hcz10_2
    try clear hcz5_0
    try clear hcz5_1
    try clear hcz5_2
    try clear hcz7_0
    try clear hcz7_1
    try clear hcz7_2
    try clear hcz9_0
    try clear hcz9_1
    try clear hcz9_2
    try clear hfz10_0
    try clear hfz10_1
    try clear hfz10_2
    try clear hfz5_0
    try clear hfz5_1
    try clear hfz5_2
    try clear hfz7_0
    try clear hfz7_1
    try clear hfz7_2
    try clear hfz9_0
    try clear hfz9_1
    try clear hfz9_2
    obtain ⟨kq, x25_1, rfl, HA, HJ1, BK215, HB⟩ := hcut
    cases kq with
    | zero => exact absurd HA.out (by simp [aumbryref15_Pack.j0])
    | succ kj1 =>
      have H := HA.out
      clear HA
      simp only [aumbryref15_Pack.j0] at H
      by_cases c11 : x25_1 = true
      · subst c11
        have H1 : (some ((⟨#[]⟩ : ByteArray), 1)) = some (r1, r2) := by rw [if_pos rfl] at H; exact H
        clear H
        have H := H1
        clear H1
        simp only [Option.some.injEq, Prod.mk.injEq] at H
        obtain ⟨rfl, rfl⟩ := H
        go_wp2
        go_ret2
        exact ⟨by first | rfl | (simp [errW_none, errW_some] <;> rfl) | (simp [*, errW_none, errW_some] <;> rfl), by repeat (first | (with_reducible first | exact HB.out | apply below_alloc | apply pw_below_drewN | apply below_drew1 | refine below_set ?_ GE215.out) | exact HB.out)⟩
      · replace c11 := Bool.eq_false_iff.mpr c11
        subst c11
        have H1 : (if (l0_2.length : Int) > 5 then (some ((⟨#[]⟩ : ByteArray), 10)) else ((aumbryref15_put.f kj1 3 1).bind fun t216 => ((aumbryref15_put.f kj1 (IntKind.u64.wrap (a0_0)) 1).bind fun t217 => (if t216.size + t217.size ≤ 9223372036854775807 then ((aumbryref15_put.f kj1 (IntKind.u64.wrap (a0_1)) 2).bind fun t218 => (if (t216 ++ t217).size + t218.size ≤ 9223372036854775807 then ((aumbryref01_Zeros.f 12).bind fun t219 => (if ((t216 ++ t217) ++ t218).size + t219.size ≤ 9223372036854775807 then (aumbryref15_Pack.l0 kj1 (((t216 ++ t217) ++ t218) ++ t219) (l0_2.length : Int) 0 a0_0 a0_1 l0_2) else (none))) else (none))) else (none))))) = some (r1, r2) := by rw [if_neg (show ¬ (false = true) by decide)] at H; exact H
        clear H
        have H := H1
        clear H1
        by_cases c12 : (l0_2.length : Int) > 5
        · rw [if_pos c12] at H
          have c12b0 : decide (5 < (l0_2.length : Int)) = true := decide_eq_true c12
          have c12b1 : decide (5 < l0_2.length) = true := decide_eq_true (by omega)
          clear c12
          simp only [Option.some.injEq, Prod.mk.injEq] at H
          obtain ⟨rfl, rfl⟩ := H
          have hcz13_0 : wc.cell? ⟨gb215, 0, none⟩ = some (.int .i64 a0_0) := (blk_cell BK215.out 0).trans rfl
          have hcz13_1 : wc.cell? ⟨gb215, 1, none⟩ = some (.int .i64 a0_1) := (blk_cell BK215.out 1).trans rfl
          have hcz13_2 : wc.cell? ⟨gb215, 2, none⟩ = some (.slice A0_2 l0_2.length c0_2) := (blk_cell BK215.out 2).trans rfl
          have hfz13_0 := blk_frozen BK215.out 0
          have hfz13_1 := blk_frozen BK215.out 1
          have hfz13_2 := blk_frozen BK215.out 2
          go_wp2
          go_ret2
          exact ⟨by first | rfl | (simp [errW_none, errW_some] <;> rfl) | (simp [*, errW_none, errW_some] <;> rfl), by repeat (first | (with_reducible first | exact HB.out | apply below_alloc | apply pw_below_drewN | apply below_drew1 | refine below_set ?_ GE215.out) | exact HB.out)⟩
        · rw [if_neg c12] at H
          have c12b0 : decide (5 < (l0_2.length : Int)) = false := decide_eq_false c12
          have c12b1 : decide (5 < l0_2.length) = false := decide_eq_false (by omega)
          clear c12
          replace H := Option.bind_eq_some_iff.mp H
          obtain ⟨t216, A140, H⟩ := H
          replace H : ((aumbryref15_put.f kj1 (IntKind.u64.wrap (a0_0)) 1).bind fun t217 => (if t216.size + t217.size ≤ 9223372036854775807 then ((aumbryref15_put.f kj1 (IntKind.u64.wrap (a0_1)) 2).bind fun t218 => (if (t216 ++ t217).size + t218.size ≤ 9223372036854775807 then ((aumbryref01_Zeros.f 12).bind fun t219 => (if ((t216 ++ t217) ++ t218).size + t219.size ≤ 9223372036854775807 then (aumbryref15_Pack.l0 kj1 (((t216 ++ t217) ++ t218) ++ t219) (l0_2.length : Int) 0 a0_0 a0_1 l0_2) else (none))) else (none))) else (none))) = some (r1, r2) := H
          have A14 := Aside0.mk A140
          clear A140
          replace H := Option.bind_eq_some_iff.mp H
          obtain ⟨t217, A150, H⟩ := H
          replace H : (if t216.size + t217.size ≤ 9223372036854775807 then ((aumbryref15_put.f kj1 (IntKind.u64.wrap (a0_1)) 2).bind fun t218 => (if (t216 ++ t217).size + t218.size ≤ 9223372036854775807 then ((aumbryref01_Zeros.f 12).bind fun t219 => (if ((t216 ++ t217) ++ t218).size + t219.size ≤ 9223372036854775807 then (aumbryref15_Pack.l0 kj1 (((t216 ++ t217) ++ t218) ++ t219) (l0_2.length : Int) 0 a0_0 a0_1 l0_2) else (none))) else (none))) else (none)) = some (r1, r2) := H
          have A15 := Aside0.mk A150
          clear A150
          by_cases c16 : t216.size + t217.size ≤ 9223372036854775807
          · rw [if_pos c16] at H
            have c16b0 := eq_true c16
            have c16b1 : decide (t216.size + t217.size ≤ 9223372036854775807) = true := decide_eq_true c16
            try have c16b2 : (9223372036854775807 < t216.size + t217.size) = False := eq_false (Nat.not_lt.2 c16)
            try (have c16b3 : (9223372036854775807 < t216.size + t217.size) = False := eq_false (Nat.not_lt.2 c16); simp only [ByteArray.size_append] at c16b3)
            clear c16
            replace H := Option.bind_eq_some_iff.mp H
            obtain ⟨t218, A170, H⟩ := H
            replace H : (if (t216 ++ t217).size + t218.size ≤ 9223372036854775807 then ((aumbryref01_Zeros.f 12).bind fun t219 => (if ((t216 ++ t217) ++ t218).size + t219.size ≤ 9223372036854775807 then (aumbryref15_Pack.l0 kj1 (((t216 ++ t217) ++ t218) ++ t219) (l0_2.length : Int) 0 a0_0 a0_1 l0_2) else (none))) else (none)) = some (r1, r2) := H
            have A17 := Aside0.mk A170
            clear A170
            by_cases c18 : (t216 ++ t217).size + t218.size ≤ 9223372036854775807
            · rw [if_pos c18] at H
              have c18b0 := eq_true c18
              have c18b1 : decide ((t216 ++ t217).size + t218.size ≤ 9223372036854775807) = true := decide_eq_true c18
              try have c18b2 : (9223372036854775807 < (t216 ++ t217).size + t218.size) = False := eq_false (Nat.not_lt.2 c18)
              try (have c18b3 : (9223372036854775807 < (t216 ++ t217).size + t218.size) = False := eq_false (Nat.not_lt.2 c18); simp only [ByteArray.size_append] at c18b3)
              clear c18
              replace H := Option.bind_eq_some_iff.mp H
              obtain ⟨t219, A190, H⟩ := H
              replace H : (if ((t216 ++ t217) ++ t218).size + t219.size ≤ 9223372036854775807 then (aumbryref15_Pack.l0 kj1 (((t216 ++ t217) ++ t218) ++ t219) (l0_2.length : Int) 0 a0_0 a0_1 l0_2) else (none)) = some (r1, r2) := H
              have A19 := Aside0.mk A190
              clear A190
              by_cases c20 : ((t216 ++ t217) ++ t218).size + t219.size ≤ 9223372036854775807
              · rw [if_pos c20] at H
                have c20b0 := eq_true c20
                have c20b1 : decide (((t216 ++ t217) ++ t218).size + t219.size ≤ 9223372036854775807) = true := decide_eq_true c20
                try have c20b2 : (9223372036854775807 < ((t216 ++ t217) ++ t218).size + t219.size) = False := eq_false (Nat.not_lt.2 c20)
                try (have c20b3 : (9223372036854775807 < ((t216 ++ t217) ++ t218).size + t219.size) = False := eq_false (Nat.not_lt.2 c20); simp only [ByteArray.size_append] at c20b3)
                clear c20
                have H' := Aside0.mk H
                clear H
                have hcz21_0 : wc.cell? ⟨gb215, 0, none⟩ = some (.int .i64 a0_0) := (blk_cell BK215.out 0).trans rfl
                have hcz21_1 : wc.cell? ⟨gb215, 1, none⟩ = some (.int .i64 a0_1) := (blk_cell BK215.out 1).trans rfl
                have hcz21_2 : wc.cell? ⟨gb215, 2, none⟩ = some (.slice A0_2 l0_2.length c0_2) := (blk_cell BK215.out 2).trans rfl
                have hfz21_0 := blk_frozen BK215.out 0
                have hfz21_1 := blk_frozen BK215.out 1
                have hfz21_2 := blk_frozen BK215.out 2
                try go_wp2
                have n0_ := Aside0.mk (blk_drew BK215.out)
                have n1_ := Aside0.mk (below_drew1 HB.out)
                clear BK215
                clear HB
                have BK215 := n0_
                have HB := n1_
                clear n0_ n1_
                refine start_ (n := 14) (S := fun w' => w'.cell? ⟨gb215, 0, none⟩ = some (.int .i64 a0_0) ∧ w'.cell? ⟨gb215, 1, none⟩ = some (.int .i64 a0_1) ∧ w'.cell? ⟨gb215, 2, none⟩ = some (.slice A0_2 l0_2.length c0_2)) (ds := []) #[false, false, false, false, false, false, false, false, false, false, false, false, false, false] (by kernel_rfl) rfl rfl ⟨(blk_cell BK215.out 0).trans rfl, (blk_cell BK215.out 1).trans rfl, (blk_cell BK215.out 2).trans rfl⟩ (fun hHeld => ?_); refine with_tabW aumbryref15_Pack.tab5 aumbryref15_Pack.bits5 (fun HT_ HW_ => ?_)
                generalize wc.drew = w22 at BK215 HB hHeld ⊢
                refine pure_ (i := 1) (N := some 31) (v := ?_) (a' := ?_) #[false, true, false, false, false, false, false, false, false, false, false, false, false, false] rfl rfl (any_of HT_.out (by kernel_rfl)) (fun _ _ _ h => h) (Or.inl ⟨by rfl, ?_⟩) ?_ ?_
                rotate_left
                · intro w'
                  go_simp
                  with_reducible rfl
                rotate_left
                · simp only [Act.put, List.setIfInBounds_toArray, List.set_cons_zero, List.set_cons_succ, i64_w, i32_w]
                  rfl
                refine pure_ (i := 6) (N := some 36) (v := ?_) (a' := ?_) #[false, true, false, false, false, false, true, false, false, false, false, false, false, false] rfl rfl (any_of HT_.out (by kernel_rfl)) (fun _ _ _ h => h) (Or.inl ⟨by rfl, ?_⟩) ?_ ?_
                rotate_left
                · intro w'
                  go_simp
                  with_reducible rfl
                rotate_left
                · simp only [Act.put, List.setIfInBounds_toArray, List.set_cons_zero, List.set_cons_succ, i64_w, i32_w]
                  rfl
                refine take_ (i := 2) (N := some 32) (v := ?_) (a' := ?_) #[false, true, true, false, false, false, true, false, false, false, false, false, false, false] rfl rfl (take_ofW HT_.out HW_.out (by kernel_rfl)) (fun _ _ _ h => h) (Or.inl ⟨by rfl, ?_⟩) hHeld ?_ ?_
                rotate_left
                · rintro w' ⟨s0, s1, s2⟩
                  go_simp
                  with_reducible rfl
                rotate_left
                · simp only [Act.put, List.setIfInBounds_toArray, List.set_cons_zero, List.set_cons_succ, i64_w, i32_w]
                  rfl
                refine pure_ (i := 3) (N := some 33) (v := ?_) (a' := ?_) #[false, true, true, true, false, false, true, false, false, false, false, false, false, false] rfl rfl (any_of HT_.out (by kernel_rfl)) (fun _ _ _ h => h) (Or.inl ⟨by rfl, ?_⟩) ?_ ?_
                rotate_left
                · intro w'
                  go_simp
                  with_reducible rfl
                rotate_left
                · simp only [Act.put, List.setIfInBounds_toArray, List.set_cons_zero, List.set_cons_succ, i64_w, i32_w]
                  rfl
                refine take_ (i := 7) (N := some 37) (v := ?_) (a' := ?_) #[false, true, true, true, false, false, true, true, false, false, false, false, false, false] rfl rfl (take_ofW HT_.out HW_.out (by kernel_rfl)) (fun _ _ _ h => h) (Or.inl ⟨by rfl, ?_⟩) hHeld ?_ ?_
                rotate_left
                · rintro w' ⟨s0, s1, s2⟩
                  go_simp
                  with_reducible rfl
                rotate_left
                · simp only [Act.put, List.setIfInBounds_toArray, List.set_cons_zero, List.set_cons_succ, i64_w, i32_w]
                  rfl
                refine pure_ (i := 8) (N := some 38) (v := ?_) (a' := ?_) #[false, true, true, true, false, false, true, true, true, false, false, false, false, false] rfl rfl (any_of HT_.out (by kernel_rfl)) (fun _ _ _ h => h) (Or.inl ⟨by rfl, ?_⟩) ?_ ?_
                rotate_left
                · intro w'
                  go_simp
                  with_reducible rfl
                rotate_left
                · simp only [Act.put, List.setIfInBounds_toArray, List.set_cons_zero, List.set_cons_succ, i64_w, i32_w]
                  rfl
                refine one_ (i := 0) (N := some 30) #[true, true, true, true, false, false, true, true, true, false, false, false, false, false] rfl rfl (one_of HT_.out (by kernel_rfl)) (by decide) (fun K hK => ?_)
                refine goes_ Try.func54 (by kernel_rfl) rfl #[.int .u64 3, .int .i64 1] (by rfl) rfl rfl (by (try simp only [List.map_toArray, List.map_cons, List.map_nil]); first | done | rfl | (simp only [List.length_drop, List.length_take]; rfl)) ?_
                with_reducible refine (aumbryref15_put.calls kj1 3 1 t216 _ A14.out).mono ?_
                rintro e w23 ⟨rfl, hb⟩
                refine ⟨_, rfl, ?_⟩
                have n0_ := Aside0.mk (blk_below (g := gb215) (o := .cells #[.int .i64 a0_0, .int .i64 a0_1, .slice A0_2 l0_2.length c0_2] 64 (0, 0)) (by (with_reducible repeat (first | refine blk_drewN ?_ _ | refine blk_drew ?_ | refine blk_alloc ?_ _)); exact BK215.out) hb)
                have n1_ := Aside0.mk (below_step (by repeat (first | (with_reducible first | exact HB.out | apply below_alloc | apply pw_below_drewN | apply below_drew1 | refine below_set ?_ GE215.out) | exact HB.out)) hb)
                clear BK215
                clear HB
                have BK215 := n0_
                have HB := n1_
                clear n0_ n1_
                (try clear hb)
                (try clear hb2)
                (try clear hk)
                (try clear hi)
                refine hK.out _ _ ⟨(blk_cell BK215.out 0).trans rfl, (blk_cell BK215.out 1).trans rfl, (blk_cell BK215.out 2).trans rfl⟩ (fun hHeld => ?_)
                clear hK K
                refine norm_ (a' := ?_) ?_ ?_
                rotate_left
                · show Act.put _ (some 30) _ = _
                  simp only [Act.put, List.setIfInBounds_toArray, List.set_cons_zero, List.set_cons_succ, i64_w, i32_w]
                  rfl
                refine one_ (i := 4) (N := some 34) #[true, true, true, true, true, false, true, true, true, false, false, false, false, false] rfl rfl (one_of HT_.out (by kernel_rfl)) (by decide) (fun K hK => ?_)
                refine goes_ Try.func54 (by kernel_rfl) rfl #[.int .u64 (IntKind.u64.wrap (a0_0)), .int .i64 1] (by rfl) rfl rfl (by (try simp only [List.map_toArray, List.map_cons, List.map_nil]); first | done | rfl | (simp only [List.length_drop, List.length_take]; rfl)) ?_
                with_reducible refine (aumbryref15_put.calls kj1 (IntKind.u64.wrap (a0_0)) 1 t217 _ A15.out).mono ?_
                rintro e w24 ⟨rfl, hb⟩
                refine ⟨_, rfl, ?_⟩
                have n0_ := Aside0.mk (blk_below (g := gb215) (o := .cells #[.int .i64 a0_0, .int .i64 a0_1, .slice A0_2 l0_2.length c0_2] 64 (0, 0)) (by (with_reducible repeat (first | refine blk_drewN ?_ _ | refine blk_drew ?_ | refine blk_alloc ?_ _)); exact BK215.out) hb)
                have n1_ := Aside0.mk (below_step (by repeat (first | (with_reducible first | exact HB.out | apply below_alloc | apply pw_below_drewN | apply below_drew1 | refine below_set ?_ GE215.out) | exact HB.out)) hb)
                clear BK215
                clear HB
                have BK215 := n0_
                have HB := n1_
                clear n0_ n1_
                (try clear hb)
                (try clear hb2)
                (try clear hk)
                (try clear hi)
                refine hK.out _ _ ⟨(blk_cell BK215.out 0).trans rfl, (blk_cell BK215.out 1).trans rfl, (blk_cell BK215.out 2).trans rfl⟩ (fun hHeld => ?_)
                clear hK K
                refine norm_ (a' := ?_) ?_ ?_
                rotate_left
                · show Act.put _ (some 34) _ = _
                  simp only [Act.put, List.setIfInBounds_toArray, List.set_cons_zero, List.set_cons_succ, i64_w, i32_w]
                  rfl
                refine pure_ (i := 5) (N := some 35) (v := ?_) (a' := ?_) #[true, true, true, true, true, true, true, true, true, false, false, false, false, false] rfl rfl (any_of HT_.out (by kernel_rfl)) (fun _ _ _ h => h) (Or.inl ⟨by rfl, ?_⟩) ?_ ?_
                rotate_left
                · intro w'
                  go_simp
                  with_reducible rfl
                rotate_left
                · simp only [Act.put, List.setIfInBounds_toArray, List.set_cons_zero, List.set_cons_succ, i64_w, i32_w]
                  rfl
                refine one_ (i := 9) (N := some 39) #[true, true, true, true, true, true, true, true, true, true, false, false, false, false] rfl rfl (one_of HT_.out (by kernel_rfl)) (by decide) (fun K hK => ?_)
                refine goes_ Try.func54 (by kernel_rfl) rfl #[.int .u64 (IntKind.u64.wrap (a0_1)), .int .i64 2] (by rfl) rfl rfl (by (try simp only [List.map_toArray, List.map_cons, List.map_nil]); first | done | rfl | (simp only [List.length_drop, List.length_take]; rfl)) ?_
                with_reducible refine (aumbryref15_put.calls kj1 (IntKind.u64.wrap (a0_1)) 2 t218 _ A17.out).mono ?_
                rintro e w25 ⟨rfl, hb⟩
                refine ⟨_, rfl, ?_⟩
                have n0_ := Aside0.mk (blk_below (g := gb215) (o := .cells #[.int .i64 a0_0, .int .i64 a0_1, .slice A0_2 l0_2.length c0_2] 64 (0, 0)) (by (with_reducible repeat (first | refine blk_drewN ?_ _ | refine blk_drew ?_ | refine blk_alloc ?_ _)); exact BK215.out) hb)
                have n1_ := Aside0.mk (below_step (by repeat (first | (with_reducible first | exact HB.out | apply below_alloc | apply pw_below_drewN | apply below_drew1 | refine below_set ?_ GE215.out) | exact HB.out)) hb)
                clear BK215
                clear HB
                have BK215 := n0_
                have HB := n1_
                clear n0_ n1_
                (try clear hb)
                (try clear hb2)
                (try clear hk)
                (try clear hi)
                refine hK.out _ _ ⟨(blk_cell BK215.out 0).trans rfl, (blk_cell BK215.out 1).trans rfl, (blk_cell BK215.out 2).trans rfl⟩ (fun hHeld => ?_)
                clear hK K
                refine norm_ (a' := ?_) ?_ ?_
                rotate_left
                · show Act.put _ (some 39) _ = _
                  simp only [Act.put, List.setIfInBounds_toArray, List.set_cons_zero, List.set_cons_succ, i64_w, i32_w]
                  rfl
                refine pure_ (i := 10) (N := some 40) (v := ?_) (a' := ?_) #[true, true, true, true, true, true, true, true, true, true, true, false, false, false] rfl rfl (any_of HT_.out (by kernel_rfl)) (fun _ _ _ h => h) (Or.inl ⟨by rfl, ?_⟩) ?_ ?_
                rotate_left
                · intro w'
                  go_simp
                  with_reducible rfl
                rotate_left
                · simp only [Act.put, List.setIfInBounds_toArray, List.set_cons_zero, List.set_cons_succ, i64_w, i32_w]
                  rfl
                refine one_ (i := 11) (N := some 41) #[true, true, true, true, true, true, true, true, true, true, true, true, false, false] rfl rfl (one_of HT_.out (by kernel_rfl)) (by decide) (fun K hK => ?_)
                refine goes_ Try.func43 (by kernel_rfl) rfl #[.int .i64 12] (by rfl) rfl rfl (by (try simp only [List.map_toArray, List.map_cons, List.map_nil]); first | done | rfl | (simp only [List.length_drop, List.length_take]; rfl)) ?_
                with_reducible refine (aumbryref01_Zeros.calls 12 t219 _ A19.out).mono ?_
                rintro e w26 ⟨rfl, hb⟩
                refine ⟨_, rfl, ?_⟩
                have n0_ := Aside0.mk (blk_below (g := gb215) (o := .cells #[.int .i64 a0_0, .int .i64 a0_1, .slice A0_2 l0_2.length c0_2] 64 (0, 0)) (by (with_reducible repeat (first | refine blk_drewN ?_ _ | refine blk_drew ?_ | refine blk_alloc ?_ _)); exact BK215.out) hb)
                have n1_ := Aside0.mk (below_step (by repeat (first | (with_reducible first | exact HB.out | apply below_alloc | apply pw_below_drewN | apply below_drew1 | refine below_set ?_ GE215.out) | exact HB.out)) hb)
                clear BK215
                clear HB
                have BK215 := n0_
                have HB := n1_
                clear n0_ n1_
                (try clear hb)
                (try clear hb2)
                (try clear hk)
                (try clear hi)
                refine hK.out _ _ ⟨(blk_cell BK215.out 0).trans rfl, (blk_cell BK215.out 1).trans rfl, (blk_cell BK215.out 2).trans rfl⟩ (fun hHeld => ?_)
                clear hK K
                refine norm_ (a' := ?_) ?_ ?_
                rotate_left
                · show Act.put _ (some 41) _ = _
                  simp only [Act.put, List.setIfInBounds_toArray, List.set_cons_zero, List.set_cons_succ, i64_w, i32_w]
                  rfl
                refine pure_ (i := 12) (N := some 42) (v := ?_) (a' := ?_) #[true, true, true, true, true, true, true, true, true, true, true, true, true, false] rfl rfl (any_of HT_.out (by kernel_rfl)) (fun _ _ _ h => h) (Or.inl ⟨by rfl, ?_⟩) ?_ ?_
                rotate_left
                · intro w'
                  go_simp
                  with_reducible rfl
                rotate_left
                · simp only [Act.put, List.setIfInBounds_toArray, List.set_cons_zero, List.set_cons_succ, i64_w, i32_w]
                  rfl
                refine pure_ (i := 13) (N := some 4) (v := ?_) (a' := ?_) #[true, true, true, true, true, true, true, true, true, true, true, true, true, true] rfl rfl (any_of HT_.out (by kernel_rfl)) (fun _ _ _ h => h) (Or.inl ⟨by rfl, ?_⟩) ?_ ?_
                rotate_left
                · intro w'
                  go_simp
                  with_reducible rfl
                rotate_left
                · simp only [Act.put, List.setIfInBounds_toArray, List.set_cons_zero, List.set_cons_succ, i64_w, i32_w]
                  rfl
                refine done_ (done_of HT_.out (by kernel_rfl)) ?_
                have hcz27_0 : w26.cell? ⟨gb215, 0, none⟩ = some (.int .i64 a0_0) := (blk_cell BK215.out 0).trans rfl
                have hcz27_1 : w26.cell? ⟨gb215, 1, none⟩ = some (.int .i64 a0_1) := (blk_cell BK215.out 1).trans rfl
                have hcz27_2 : w26.cell? ⟨gb215, 2, none⟩ = some (.slice A0_2 l0_2.length c0_2) := (blk_cell BK215.out 2).trans rfl
                have hfz27_0 := blk_frozen BK215.out 0
                have hfz27_1 := blk_frozen BK215.out 1
                have hfz27_2 := blk_frozen BK215.out 2
                try go_wp2
                go_loopg [4, 46] kj1 (fun kq v4 v46 w' => ∃ (x4_2 : ByteArray) (x46_2 : Int), v4 = .string x4_2 ∧ v46 = .int .i64 x46_2 ∧ Aside0 (aumbryref15_Pack.l0 kq x4_2 (l0_2.length : Int) x46_2 a0_0 a0_1 l0_2 = some (r1, r2)) ∧ Aside0 (kq ≤ kj1) ∧ Aside0 (w'.heap[gb215]? = some (.cells #[.int .i64 a0_0, .int .i64 a0_1, (.slice A0_2 l0_2.length c0_2)] 64 (0, 0))) ∧ Aside0 (Below w.heap.size w w'))
                case atStart => exact ⟨(((t216 ++ t217) ++ t218) ++ t219), (0), (by first | rfl | (simp; done) | (simp [*]; done)), (by first | rfl | (simp; done) | (simp [*]; done)), H', ⟨Nat.le_refl _⟩, ⟨by (with_reducible repeat (first | refine blk_drewN ?_ _ | refine blk_drew ?_ | refine blk_alloc ?_ _)); exact BK215.out⟩, ⟨by repeat (first | (with_reducible first | exact HB.out | apply below_alloc | apply pw_below_drewN | apply below_drew1 | refine below_set ?_ GE215.out) | exact HB.out)⟩⟩
                case round =>
                  clear H'
                  try clear c1
                  try clear c2
                  try clear p2
                  try clear c3
                  try clear c4
                  try clear c4b0
                  try clear c5
                  try clear c6
                  try clear c6b0
                  try clear c8
                  try clear c8b0
                  try clear c11
                  try clear c12
                  try clear c12b0
                  try clear c12b1
                  try clear c16
                  try clear c16b0
                  try clear c16b1
                  try clear c16b2
                  try clear c18
                  try clear c18b0
                  try clear c18b1
                  try clear c18b2
                  try clear c20
                  try clear c20b0
                  try clear c20b1
                  try clear c20b2
                  try clear hcz10_0
                  try clear hcz10_1
                  try clear hcz10_2
                  try clear hcz13_0
                  try clear hcz13_1
                  try clear hcz13_2
                  try clear hcz21_0
                  try clear hcz21_1
                  try clear hcz21_2
                  try clear hcz27_0
                  try clear hcz27_1
                  try clear hcz27_2
                  try clear hcz5_0
                  try clear hcz5_1
                  try clear hcz5_2
                  try clear hcz7_0
                  try clear hcz7_1
                  try clear hcz7_2
                  try clear hcz9_0
                  try clear hcz9_1
                  try clear hcz9_2
                  try clear hfz10_0
                  try clear hfz10_1
                  try clear hfz10_2
                  try clear hfz13_0
                  try clear hfz13_1
                  try clear hfz13_2
                  try clear hfz21_0
                  try clear hfz21_1
                  try clear hfz21_2
                  try clear hfz27_0
                  try clear hfz27_1
                  try clear hfz27_2
                  try clear hfz5_0
                  try clear hfz5_1
                  try clear hfz5_2
                  try clear hfz7_0
                  try clear hfz7_1
                  try clear hfz7_2
                  try clear hfz9_0
                  try clear hfz9_1
                  try clear hfz9_2
                  try clear p2
                  obtain ⟨x4_2, x46_2, rfl, rfl, HA, HK2, BK215, HB⟩ := hrel
                  cases gk with
                  | zero => exact absurd HA.out (by simp [aumbryref15_Pack.l0])
                  | succ k2 =>
                    have H := HA.out
                    clear HA
                    simp only [aumbryref15_Pack.l0] at H
                    by_cases c28 : x46_2 < (l0_2.length : Int)
                    · rw [if_pos c28] at H
                      have c28b0 : decide (x46_2 < (l0_2.length : Int)) = true := decide_eq_true c28
                      clear c28
                      by_cases c29 : 0 ≤ x46_2
                      · rw [if_pos c29] at H
                        have c29b0 : decide (0 ≤ x46_2) = true := decide_eq_true c29
                        clear c29
                        by_cases c30 : x46_2 < (l0_2.length : Int)
                        · rw [if_pos c30] at H
                          have c30b0 : decide (x46_2 < (l0_2.length : Int)) = true := decide_eq_true c30
                          clear c30
                          replace H := Option.bind_eq_some_iff.mp H
                          obtain ⟨t222, A310, H⟩ := H
                          replace H : (if t222 = 0 then (aumbryref15_Pack.l1 k2 x4_2 x46_2 0 (l0_2.length : Int) x46_2 a0_0 a0_1 l0_2) else (some ((⟨#[]⟩ : ByteArray), t222))) = some (r1, r2) := H
                          have A31 := Aside0.mk A310
                          clear A310
                          by_cases c32 : t222 = 0
                          · rw [if_pos c32] at H
                            have c32b0 : (t222 == 0) = true := beq_iff_eq.mpr c32
                            have c32b1 : (t222 != 0) = false := bne_eq_false_iff_eq.mpr c32
                            clear c32
                            have H' := Aside0.mk H
                            clear H
                            have hcz33_0 : wr.cell? ⟨gb215, 0, none⟩ = some (.int .i64 a0_0) := (blk_cell BK215.out 0).trans rfl
                            have hcz33_1 : wr.cell? ⟨gb215, 1, none⟩ = some (.int .i64 a0_1) := (blk_cell BK215.out 1).trans rfl
                            have hcz33_2 : wr.cell? ⟨gb215, 2, none⟩ = some (.slice A0_2 l0_2.length c0_2) := (blk_cell BK215.out 2).trans rfl
                            have hfz33_0 := blk_frozen BK215.out 0
                            have hfz33_1 := blk_frozen BK215.out 1
                            have hfz33_2 := blk_frozen BK215.out 2
                            have p221 : 0 ≤ (x46_2 : Int) := of_decide_eq_true (by first | (with_reducible assumption) | assumption)
                            have q221 : x46_2 < (l0_2.length : Int) := of_decide_eq_true (by first | (with_reducible assumption) | assumption)
                            obtain ⟨ad221, A221_2, c221_2, e221, hx221_0, hx221_1, hx221_2, hx221_3, hx221_4, hx221_5, hl221_2, hi221_2⟩ := at_T76 HR0_2.out x46_2 p221 q221
                            cases e221
                            replace hx221_0 := (HB.out.cell (World.block_lt_of_cell? w _ hx221_0)).trans hx221_0
                            replace hx221_1 := (HB.out.cell (World.block_lt_of_cell? w _ hx221_1)).trans hx221_1
                            replace hx221_2 := (HB.out.cell (World.block_lt_of_cell? w _ hx221_2)).trans hx221_2
                            replace hx221_3 := (HB.out.cell (World.block_lt_of_cell? w _ hx221_3)).trans hx221_3
                            replace hx221_4 := (HB.out.cell (World.block_lt_of_cell? w _ hx221_4)).trans hx221_4
                            replace hx221_5 := (HB.out.cell (World.block_lt_of_cell? w _ hx221_5)).trans hx221_5
                            have HR221_2 := Aside0.mk hi221_2
                            have HC221_2 := Aside0.mk hl221_2
                            clear hi221_2 hl221_2
                            replace p221 := eq_true p221
                            replace q221 := eq_true q221
                            go_wp2_with (first | ((with_reducible refine gate_callee (f := 61) rfl ?_); refine goesL_ (some 54) rfl rfl Try.func61 (by kernel_rfl) rfl #[.agg #[.int .u64 ((rd_T76 l0_2 x46_2).f0), .string ((rd_T76 l0_2 x46_2).f1), .slice A221_2 ((rd_T76 l0_2 x46_2).f2).length c221_2, .int .i64 ((rd_T76 l0_2 x46_2).f3), .bool ((rd_T76 l0_2 x46_2).f4), .int .u64 ((rd_T76 l0_2 x46_2).f5)]] rfl (by (try simp only [List.map_toArray, List.map_cons, List.map_nil]); first | done | rfl | (simp only [List.length_drop, List.length_take]; rfl)) ?_; (with_reducible refine (aumbryref15_May.calls k2 ((rd_T76 l0_2 x46_2).f0) ((rd_T76 l0_2 x46_2).f1) _ _ ((rd_T76 l0_2 x46_2).f2) ((rd_T76 l0_2 x46_2).f3) ((rd_T76 l0_2 x46_2).f4) ((rd_T76 l0_2 x46_2).f5) t222 _ ?side1 ?side2 A31.out).mono ?_); (case side1 => repeat (first | exact (Kd.C_below HR221_2.out HB.out) | (with_reducible refine Kd.C_alloc ?_ _) | (with_reducible refine Kd.C_drewN ?_ _) | (with_reducible refine Kd.C_drew ?_))); (case side2 => exact HC221_2.out); rintro e w34 ⟨rfl, hb⟩; refine ⟨_, rfl, ?_⟩; have n0_ := Aside0.mk (blk_below (g := gb215) (o := .cells #[.int .i64 a0_0, .int .i64 a0_1, .slice (some ad221) l0_2.length c0_2] 64 (0, 0)) (by (with_reducible repeat (first | refine blk_drewN ?_ _ | refine blk_drew ?_ | refine blk_alloc ?_ _)); exact BK215.out) hb); have n1_ := Aside0.mk (below_step (by repeat (first | (with_reducible first | exact HB.out | apply below_alloc | apply pw_below_drewN | apply below_drew1 | refine below_set ?_ GE215.out) | exact HB.out)) hb); clear BK215; clear HB; have BK215 := n0_; have HB := n1_; clear n0_ n1_; (try clear hb); (try clear hb2); (try clear hk); (try clear hi)))
                            go_loopg [7] k2 (fun kq v7 w' => ∃ (x7_3 : Int), v7 = .int .i64 x7_3 ∧ Aside0 (aumbryref15_Pack.l1 kq x4_2 x46_2 x7_3 (l0_2.length : Int) x46_2 a0_0 a0_1 l0_2 = some (r1, r2)) ∧ Aside0 (kq ≤ k2) ∧ Aside0 (w'.heap[gb215]? = some (.cells #[.int .i64 a0_0, .int .i64 a0_1, (.slice (some ad221) l0_2.length c0_2)] 64 (0, 0))) ∧ Aside0 (Below w.heap.size w w'))
                            case atStart => exact ⟨(0), (by first | rfl | (simp; done) | (simp [*]; done)), H', ⟨Nat.le_refl _⟩, ⟨by (with_reducible repeat (first | refine blk_drewN ?_ _ | refine blk_drew ?_ | refine blk_alloc ?_ _)); exact BK215.out⟩, ⟨by repeat (first | (with_reducible first | exact HB.out | apply below_alloc | apply pw_below_drewN | apply below_drew1 | refine below_set ?_ GE215.out) | exact HB.out)⟩⟩
                            case round =>
                              clear H'
                              try clear c1
                              try clear c2
                              try clear p2
                              try clear q2
                              try clear hx2
                              try clear c3
                              try clear c4
                              try clear c4b0
                              try clear c5
                              try clear c6
                              try clear c6b0
                              try clear c8
                              try clear c8b0
                              try clear c11
                              try clear c12
                              try clear c12b0
                              try clear c12b1
                              try clear c16
                              try clear c16b0
                              try clear c16b1
                              try clear c16b2
                              try clear c18
                              try clear c18b0
                              try clear c18b1
                              try clear c18b2
                              try clear c20
                              try clear c20b0
                              try clear c20b1
                              try clear c20b2
                              try clear c22
                              try clear p22
                              try clear q22
                              try clear hx22
                              try clear c28
                              try clear c28b0
                              try clear c29
                              try clear c29b0
                              try clear c30
                              try clear c30b0
                              try clear c32
                              try clear c32b0
                              try clear c32b1
                              try clear hcz10_0
                              try clear hcz10_1
                              try clear hcz10_2
                              try clear hcz13_0
                              try clear hcz13_1
                              try clear hcz13_2
                              try clear hcz21_0
                              try clear hcz21_1
                              try clear hcz21_2
                              try clear hcz27_0
                              try clear hcz27_1
                              try clear hcz27_2
                              try clear hcz33_0
                              try clear hcz33_1
                              try clear hcz33_2
                              try clear hcz5_0
                              try clear hcz5_1
                              try clear hcz5_2
                              try clear hcz7_0
                              try clear hcz7_1
                              try clear hcz7_2
                              try clear hcz9_0
                              try clear hcz9_1
                              try clear hcz9_2
                              try clear hfz10_0
                              try clear hfz10_1
                              try clear hfz10_2
                              try clear hfz13_0
                              try clear hfz13_1
                              try clear hfz13_2
                              try clear hfz21_0
                              try clear hfz21_1
                              try clear hfz21_2
                              try clear hfz27_0
                              try clear hfz27_1
                              try clear hfz27_2
                              try clear hfz33_0
                              try clear hfz33_1
                              try clear hfz33_2
                              try clear hfz5_0
                              try clear hfz5_1
                              try clear hfz5_2
                              try clear hfz7_0
                              try clear hfz7_1
                              try clear hfz7_2
                              try clear hfz9_0
                              try clear hfz9_1
                              try clear hfz9_2
                              try clear hx221_0
                              try clear hx221_1
                              try clear hx221_2
                              try clear hx221_3
                              try clear hx221_4
                              try clear hx221_5
                              try clear p2
                              try clear p221
                              try clear q221
                              obtain ⟨x7_3, rfl, HA, HK3, BK215, HB⟩ := hrel
                              cases gk with
                              | zero => exact absurd HA.out (by simp [aumbryref15_Pack.l1])
                              | succ k3 =>
                                have H := HA.out
                                clear HA
                                simp only [aumbryref15_Pack.l1] at H
                                by_cases c35 : x7_3 < x46_2
                                · rw [if_pos c35] at H
                                  have c35b0 : decide (x7_3 < x46_2) = true := decide_eq_true c35
                                  clear c35
                                  by_cases c36 : 0 ≤ x7_3
                                  · rw [if_pos c36] at H
                                    have c36b0 : decide (0 ≤ x7_3) = true := decide_eq_true c36
                                    clear c36
                                    by_cases c37 : x7_3 < (l0_2.length : Int)
                                    · rw [if_pos c37] at H
                                      have c37b0 : decide (x7_3 < (l0_2.length : Int)) = true := decide_eq_true c37
                                      clear c37
                                      by_cases c38 : 0 ≤ x46_2
                                      · rw [if_pos c38] at H
                                        have c38b0 : decide (0 ≤ x46_2) = true := decide_eq_true c38
                                        clear c38
                                        by_cases c39 : x46_2 < (l0_2.length : Int)
                                        · rw [if_pos c39] at H
                                          have c39b0 : decide (x46_2 < (l0_2.length : Int)) = true := decide_eq_true c39
                                          clear c39
                                          by_cases c40 : ((rd_T76 l0_2 x7_3).f0) = ((rd_T76 l0_2 x46_2).f0)
                                          · rw [if_pos c40] at H
                                            have c40b0 : (((rd_T76 l0_2 x7_3).f0) == ((rd_T76 l0_2 x46_2).f0)) = true := beq_iff_eq.mpr c40
                                            have c40b1 : (((rd_T76 l0_2 x7_3).f0) != ((rd_T76 l0_2 x46_2).f0)) = false := bne_eq_false_iff_eq.mpr c40
                                            clear c40
                                            simp only [Option.some.injEq, Prod.mk.injEq] at H
                                            obtain ⟨rfl, rfl⟩ := H
                                            try go_wp2
                                            have n0_ := Aside0.mk (blk_drew BK215.out)
                                            have n1_ := Aside0.mk (below_drew1 HB.out)
                                            clear BK215
                                            clear HB
                                            have BK215 := n0_
                                            have HB := n1_
                                            clear n0_ n1_
                                            have p223 : 0 ≤ (x7_3 : Int) := of_decide_eq_true (by first | (with_reducible assumption) | assumption)
                                            have q223 : x7_3 < (l0_2.length : Int) := of_decide_eq_true (by first | (with_reducible assumption) | assumption)
                                            obtain ⟨ad223, A223_2, c223_2, e223, hx223_0, hx223_1, hx223_2, hx223_3, hx223_4, hx223_5, hl223_2, hi223_2⟩ := at_T76 HR0_2.out x7_3 p223 q223
                                            have hw223_5 := hx223_5
                                            have hw223_4 := hx223_4
                                            have hw223_3 := hx223_3
                                            have hw223_2 := hx223_2
                                            have hw223_1 := hx223_1
                                            have hw223_0 := hx223_0
                                            obtain rfl : ad221 = ad223 := (by injection e223)
                                            replace hx223_0 := (HB.out.cell (World.block_lt_of_cell? w _ hx223_0)).trans hx223_0
                                            replace hx223_1 := (HB.out.cell (World.block_lt_of_cell? w _ hx223_1)).trans hx223_1
                                            replace hx223_2 := (HB.out.cell (World.block_lt_of_cell? w _ hx223_2)).trans hx223_2
                                            replace hx223_3 := (HB.out.cell (World.block_lt_of_cell? w _ hx223_3)).trans hx223_3
                                            replace hx223_4 := (HB.out.cell (World.block_lt_of_cell? w _ hx223_4)).trans hx223_4
                                            replace hx223_5 := (HB.out.cell (World.block_lt_of_cell? w _ hx223_5)).trans hx223_5
                                            have HR223_2 := Aside0.mk hi223_2
                                            have HC223_2 := Aside0.mk hl223_2
                                            clear hi223_2 hl223_2
                                            replace p223 := eq_true p223
                                            replace q223 := eq_true q223
                                            have p224 : 0 ≤ (x46_2 : Int) := of_decide_eq_true (by first | (with_reducible assumption) | assumption)
                                            have q224 : x46_2 < (l0_2.length : Int) := of_decide_eq_true (by first | (with_reducible assumption) | assumption)
                                            obtain ⟨ad224, A224_2, c224_2, e224, hx224_0, hx224_1, hx224_2, hx224_3, hx224_4, hx224_5, hl224_2, hi224_2⟩ := at_T76 HR0_2.out x46_2 p224 q224
                                            have hw224_5 := hx224_5
                                            have hw224_4 := hx224_4
                                            have hw224_3 := hx224_3
                                            have hw224_2 := hx224_2
                                            have hw224_1 := hx224_1
                                            have hw224_0 := hx224_0
                                            obtain rfl : ad221 = ad224 := (by injection e224)
                                            replace hx224_0 := (HB.out.cell (World.block_lt_of_cell? w _ hx224_0)).trans hx224_0
                                            replace hx224_1 := (HB.out.cell (World.block_lt_of_cell? w _ hx224_1)).trans hx224_1
                                            replace hx224_2 := (HB.out.cell (World.block_lt_of_cell? w _ hx224_2)).trans hx224_2
                                            replace hx224_3 := (HB.out.cell (World.block_lt_of_cell? w _ hx224_3)).trans hx224_3
                                            replace hx224_4 := (HB.out.cell (World.block_lt_of_cell? w _ hx224_4)).trans hx224_4
                                            replace hx224_5 := (HB.out.cell (World.block_lt_of_cell? w _ hx224_5)).trans hx224_5
                                            have HR224_2 := Aside0.mk hi224_2
                                            have HC224_2 := Aside0.mk hl224_2
                                            clear hi224_2 hl224_2
                                            replace p224 := eq_true p224
                                            replace q224 := eq_true q224
                                            refine start_ (n := 13) (S := fun w' => w'.cell? ⟨gb215, 0, none⟩ = some (.int .i64 a0_0) ∧ w'.cell? ⟨gb215, 1, none⟩ = some (.int .i64 a0_1) ∧ w'.cell? ⟨gb215, 2, none⟩ = some (.slice (some ad221) l0_2.length c0_2) ∧ w'.cell? (ad221.add ((x7_3).toNat * 6)) = some (.int .u64 ((rd_T76 l0_2 x7_3).f0)) ∧ w'.cell? ⟨(ad221.add ((x7_3).toNat * 6)).block, (ad221.add ((x7_3).toNat * 6)).off + 1, none⟩ = some (.string ((rd_T76 l0_2 x7_3).f1)) ∧ w'.cell? ⟨(ad221.add ((x7_3).toNat * 6)).block, (ad221.add ((x7_3).toNat * 6)).off + 2, none⟩ = some (.slice A223_2 ((rd_T76 l0_2 x7_3).f2).length c223_2) ∧ w'.cell? ⟨(ad221.add ((x7_3).toNat * 6)).block, (ad221.add ((x7_3).toNat * 6)).off + 3, none⟩ = some (.int .i64 ((rd_T76 l0_2 x7_3).f3)) ∧ w'.cell? ⟨(ad221.add ((x7_3).toNat * 6)).block, (ad221.add ((x7_3).toNat * 6)).off + 4, none⟩ = some (.bool ((rd_T76 l0_2 x7_3).f4)) ∧ w'.cell? ⟨(ad221.add ((x7_3).toNat * 6)).block, (ad221.add ((x7_3).toNat * 6)).off + 5, none⟩ = some (.int .u64 ((rd_T76 l0_2 x7_3).f5)) ∧ w'.cell? (ad221.add ((x46_2).toNat * 6)) = some (.int .u64 ((rd_T76 l0_2 x46_2).f0)) ∧ w'.cell? ⟨(ad221.add ((x46_2).toNat * 6)).block, (ad221.add ((x46_2).toNat * 6)).off + 1, none⟩ = some (.string ((rd_T76 l0_2 x46_2).f1)) ∧ w'.cell? ⟨(ad221.add ((x46_2).toNat * 6)).block, (ad221.add ((x46_2).toNat * 6)).off + 2, none⟩ = some (.slice A224_2 ((rd_T76 l0_2 x46_2).f2).length c224_2) ∧ w'.cell? ⟨(ad221.add ((x46_2).toNat * 6)).block, (ad221.add ((x46_2).toNat * 6)).off + 3, none⟩ = some (.int .i64 ((rd_T76 l0_2 x46_2).f3)) ∧ w'.cell? ⟨(ad221.add ((x46_2).toNat * 6)).block, (ad221.add ((x46_2).toNat * 6)).off + 4, none⟩ = some (.bool ((rd_T76 l0_2 x46_2).f4)) ∧ w'.cell? ⟨(ad221.add ((x46_2).toNat * 6)).block, (ad221.add ((x46_2).toNat * 6)).off + 5, none⟩ = some (.int .u64 ((rd_T76 l0_2 x46_2).f5))) (ds := []) #[false, false, false, false, false, false, false, false, false, false, false, false, false] (by kernel_rfl) rfl rfl ⟨(blk_cell BK215.out 0).trans rfl, (blk_cell BK215.out 1).trans rfl, (blk_cell BK215.out 2).trans rfl, ((HB.out.cell (World.block_lt_of_cell? w _ hw223_0)).trans hw223_0), ((HB.out.cell (World.block_lt_of_cell? w _ hw223_1)).trans hw223_1), ((HB.out.cell (World.block_lt_of_cell? w _ hw223_2)).trans hw223_2), ((HB.out.cell (World.block_lt_of_cell? w _ hw223_3)).trans hw223_3), ((HB.out.cell (World.block_lt_of_cell? w _ hw223_4)).trans hw223_4), ((HB.out.cell (World.block_lt_of_cell? w _ hw223_5)).trans hw223_5), ((HB.out.cell (World.block_lt_of_cell? w _ hw224_0)).trans hw224_0), ((HB.out.cell (World.block_lt_of_cell? w _ hw224_1)).trans hw224_1), ((HB.out.cell (World.block_lt_of_cell? w _ hw224_2)).trans hw224_2), ((HB.out.cell (World.block_lt_of_cell? w _ hw224_3)).trans hw224_3), ((HB.out.cell (World.block_lt_of_cell? w _ hw224_4)).trans hw224_4), ((HB.out.cell (World.block_lt_of_cell? w _ hw224_5)).trans hw224_5)⟩ (fun hHeld => ?_); refine with_tabW aumbryref15_Pack.tab15 aumbryref15_Pack.bits15 (fun HT_ HW_ => ?_)
                                            generalize wr.drew = w41 at BK215 HB HR223_2 HR224_2 hx223_0 hx223_1 hx223_2 hx223_3 hx223_4 hx223_5 hx224_0 hx224_1 hx224_2 hx224_3 hx224_4 hx224_5 hHeld ⊢
                                            refine pure_ (i := 0) (N := some 63) (v := ?_) (a' := ?_) #[true, false, false, false, false, false, false, false, false, false, false, false, false] rfl rfl (any_of HT_.out (by kernel_rfl)) (fun _ _ _ h => h) (Or.inl ⟨by rfl, ?_⟩) ?_ ?_
                                            rotate_left
                                            · intro w'
                                              go_simp
                                              with_reducible rfl
                                            rotate_left
                                            · simp only [Act.put, List.setIfInBounds_toArray, List.set_cons_zero, List.set_cons_succ, i64_w, i32_w]
                                              rfl
                                            refine pure_ (i := 2) (N := some 65) (v := ?_) (a' := ?_) #[true, false, true, false, false, false, false, false, false, false, false, false, false] rfl rfl (any_of HT_.out (by kernel_rfl)) (fun _ _ _ h => h) (Or.inl ⟨by rfl, ?_⟩) ?_ ?_
                                            rotate_left
                                            · intro w'
                                              go_simp
                                              with_reducible rfl
                                            rotate_left
                                            · simp only [Act.put, List.setIfInBounds_toArray, List.set_cons_zero, List.set_cons_succ, i64_w, i32_w]
                                              rfl
                                            refine pure_ (i := 6) (N := some 69) (v := ?_) (a' := ?_) #[true, false, true, false, false, false, true, false, false, false, false, false, false] rfl rfl (any_of HT_.out (by kernel_rfl)) (fun _ _ _ h => h) (Or.inl ⟨by rfl, ?_⟩) ?_ ?_
                                            rotate_left
                                            · intro w'
                                              go_simp
                                              with_reducible rfl
                                            rotate_left
                                            · simp only [Act.put, List.setIfInBounds_toArray, List.set_cons_zero, List.set_cons_succ, i64_w, i32_w]
                                              rfl
                                            refine pure_ (i := 8) (N := some 71) (v := ?_) (a' := ?_) #[true, false, true, false, false, false, true, false, true, false, false, false, false] rfl rfl (any_of HT_.out (by kernel_rfl)) (fun _ _ _ h => h) (Or.inl ⟨by rfl, ?_⟩) ?_ ?_
                                            rotate_left
                                            · intro w'
                                              go_simp
                                              with_reducible rfl
                                            rotate_left
                                            · simp only [Act.put, List.setIfInBounds_toArray, List.set_cons_zero, List.set_cons_succ, i64_w, i32_w]
                                              rfl
                                            refine take_ (i := 1) (N := some 64) (v := ?_) (a' := ?_) #[true, true, true, false, false, false, true, false, true, false, false, false, false] rfl rfl (take_ofW HT_.out HW_.out (by kernel_rfl)) (fun _ _ _ h => h) (Or.inl ⟨by rfl, ?_⟩) hHeld ?_ ?_
                                            rotate_left
                                            · rintro w' ⟨s0, s1, s2, s3, s4, s5, s6, s7, s8, s9, s10, s11, s12, s13, s14⟩
                                              go_simp
                                              with_reducible rfl
                                            rotate_left
                                            · simp only [Act.put, List.setIfInBounds_toArray, List.set_cons_zero, List.set_cons_succ, i64_w, i32_w]
                                              rfl
                                            refine pure_ (i := 3) (N := some 66) (v := ?_) (a' := ?_) #[true, true, true, true, false, false, true, false, true, false, false, false, false] rfl rfl (any_of HT_.out (by kernel_rfl)) (fun _ _ _ h => h) (Or.inl ⟨by rfl, ?_⟩) ?_ ?_
                                            rotate_left
                                            · intro w'
                                              go_simp
                                              with_reducible rfl
                                            rotate_left
                                            · simp only [Act.put, List.setIfInBounds_toArray, List.set_cons_zero, List.set_cons_succ, i64_w, i32_w]
                                              rfl
                                            refine pure_ (i := 4) (N := some 67) (v := ?_) (a' := ?_) #[true, true, true, true, true, false, true, false, true, false, false, false, false] rfl rfl (any_of HT_.out (by kernel_rfl)) (fun _ _ _ h => h) (Or.inl ⟨by rfl, ?_⟩) ?_ ?_
                                            rotate_left
                                            · intro w'
                                              go_simp
                                              with_reducible rfl
                                            rotate_left
                                            · simp only [Act.put, List.setIfInBounds_toArray, List.set_cons_zero, List.set_cons_succ, i64_w, i32_w]
                                              rfl
                                            refine take_ (i := 5) (N := some 68) (v := ?_) (a' := ?_) #[true, true, true, true, true, true, true, false, true, false, false, false, false] rfl rfl (take_ofW HT_.out HW_.out (by kernel_rfl)) (fun _ _ _ h => h) (Or.inl ⟨by rfl, ?_⟩) hHeld ?_ ?_
                                            rotate_left
                                            · rintro w' ⟨s0, s1, s2, s3, s4, s5, s6, s7, s8, s9, s10, s11, s12, s13, s14⟩
                                              go_simp
                                              with_reducible rfl
                                            rotate_left
                                            · simp only [Act.put, List.setIfInBounds_toArray, List.set_cons_zero, List.set_cons_succ, i64_w, i32_w]
                                              rfl
                                            refine take_ (i := 7) (N := some 70) (v := ?_) (a' := ?_) #[true, true, true, true, true, true, true, true, true, false, false, false, false] rfl rfl (take_ofW HT_.out HW_.out (by kernel_rfl)) (fun _ _ _ h => h) (Or.inl ⟨by rfl, ?_⟩) hHeld ?_ ?_
                                            rotate_left
                                            · rintro w' ⟨s0, s1, s2, s3, s4, s5, s6, s7, s8, s9, s10, s11, s12, s13, s14⟩
                                              go_simp
                                              with_reducible rfl
                                            rotate_left
                                            · simp only [Act.put, List.setIfInBounds_toArray, List.set_cons_zero, List.set_cons_succ, i64_w, i32_w]
                                              rfl
                                            refine pure_ (i := 9) (N := some 72) (v := ?_) (a' := ?_) #[true, true, true, true, true, true, true, true, true, true, false, false, false] rfl rfl (any_of HT_.out (by kernel_rfl)) (fun _ _ _ h => h) (Or.inl ⟨by rfl, ?_⟩) ?_ ?_
                                            rotate_left
                                            · intro w'
                                              go_simp
                                              with_reducible rfl
                                            rotate_left
                                            · simp only [Act.put, List.setIfInBounds_toArray, List.set_cons_zero, List.set_cons_succ, i64_w, i32_w]
                                              rfl
                                            refine pure_ (i := 10) (N := some 73) (v := ?_) (a' := ?_) #[true, true, true, true, true, true, true, true, true, true, true, false, false] rfl rfl (any_of HT_.out (by kernel_rfl)) (fun _ _ _ h => h) (Or.inl ⟨by rfl, ?_⟩) ?_ ?_
                                            rotate_left
                                            · intro w'
                                              go_simp
                                              with_reducible rfl
                                            rotate_left
                                            · simp only [Act.put, List.setIfInBounds_toArray, List.set_cons_zero, List.set_cons_succ, i64_w, i32_w]
                                              rfl
                                            refine take_ (i := 11) (N := some 74) (v := ?_) (a' := ?_) #[true, true, true, true, true, true, true, true, true, true, true, true, false] rfl rfl (take_ofW HT_.out HW_.out (by kernel_rfl)) (fun _ _ _ h => h) (Or.inl ⟨by rfl, ?_⟩) hHeld ?_ ?_
                                            rotate_left
                                            · rintro w' ⟨s0, s1, s2, s3, s4, s5, s6, s7, s8, s9, s10, s11, s12, s13, s14⟩
                                              go_simp
                                              with_reducible rfl
                                            rotate_left
                                            · simp only [Act.put, List.setIfInBounds_toArray, List.set_cons_zero, List.set_cons_succ, i64_w, i32_w]
                                              rfl
                                            refine pure_ (i := 12) (N := some 75) (v := ?_) (a' := ?_) #[true, true, true, true, true, true, true, true, true, true, true, true, true] rfl rfl (any_of HT_.out (by kernel_rfl)) (fun _ _ _ h => h) (Or.inl ⟨by rfl, ?_⟩) ?_ ?_
                                            rotate_left
                                            · intro w'
                                              go_simp
                                              with_reducible rfl
                                            rotate_left
                                            · simp only [Act.put, List.setIfInBounds_toArray, List.set_cons_zero, List.set_cons_succ, i64_w, i32_w]
                                              rfl
                                            refine done_ (done_of HT_.out (by kernel_rfl)) ?_
                                            try go_wp2
                                            go_ret2
                                            exact ⟨by first | rfl | (simp [errW_none, errW_some] <;> rfl) | (simp [*, errW_none, errW_some] <;> rfl), by repeat (first | (with_reducible first | exact HB.out | apply below_alloc | apply pw_below_drewN | apply below_drew1 | refine below_set ?_ GE215.out) | exact HB.out)⟩
                                          · rw [if_neg c40] at H
                                            have c40b0 : (((rd_T76 l0_2 x7_3).f0) == ((rd_T76 l0_2 x46_2).f0)) = false := beq_eq_false_iff_ne.mpr c40
                                            have c40b1 : (((rd_T76 l0_2 x7_3).f0) != ((rd_T76 l0_2 x46_2).f0)) = true := bne_iff_ne.mpr c40
                                            have H' := Aside0.mk H
                                            clear H
                                            try go_wp2
                                            have n0_ := Aside0.mk (blk_drew BK215.out)
                                            have n1_ := Aside0.mk (below_drew1 HB.out)
                                            clear BK215
                                            clear HB
                                            have BK215 := n0_
                                            have HB := n1_
                                            clear n0_ n1_
                                            have p223 : 0 ≤ (x7_3 : Int) := of_decide_eq_true (by first | (with_reducible assumption) | assumption)
                                            have q223 : x7_3 < (l0_2.length : Int) := of_decide_eq_true (by first | (with_reducible assumption) | assumption)
                                            obtain ⟨ad223, A223_2, c223_2, e223, hx223_0, hx223_1, hx223_2, hx223_3, hx223_4, hx223_5, hl223_2, hi223_2⟩ := at_T76 HR0_2.out x7_3 p223 q223
                                            have hw223_5 := hx223_5
                                            have hw223_4 := hx223_4
                                            have hw223_3 := hx223_3
                                            have hw223_2 := hx223_2
                                            have hw223_1 := hx223_1
                                            have hw223_0 := hx223_0
                                            obtain rfl : ad221 = ad223 := (by injection e223)
                                            replace hx223_0 := (HB.out.cell (World.block_lt_of_cell? w _ hx223_0)).trans hx223_0
                                            replace hx223_1 := (HB.out.cell (World.block_lt_of_cell? w _ hx223_1)).trans hx223_1
                                            replace hx223_2 := (HB.out.cell (World.block_lt_of_cell? w _ hx223_2)).trans hx223_2
                                            replace hx223_3 := (HB.out.cell (World.block_lt_of_cell? w _ hx223_3)).trans hx223_3
                                            replace hx223_4 := (HB.out.cell (World.block_lt_of_cell? w _ hx223_4)).trans hx223_4
                                            replace hx223_5 := (HB.out.cell (World.block_lt_of_cell? w _ hx223_5)).trans hx223_5
                                            have HR223_2 := Aside0.mk hi223_2
                                            have HC223_2 := Aside0.mk hl223_2
                                            clear hi223_2 hl223_2
                                            replace p223 := eq_true p223
                                            replace q223 := eq_true q223
                                            have p224 : 0 ≤ (x46_2 : Int) := of_decide_eq_true (by first | (with_reducible assumption) | assumption)
                                            have q224 : x46_2 < (l0_2.length : Int) := of_decide_eq_true (by first | (with_reducible assumption) | assumption)
                                            obtain ⟨ad224, A224_2, c224_2, e224, hx224_0, hx224_1, hx224_2, hx224_3, hx224_4, hx224_5, hl224_2, hi224_2⟩ := at_T76 HR0_2.out x46_2 p224 q224
                                            have hw224_5 := hx224_5
                                            have hw224_4 := hx224_4
                                            have hw224_3 := hx224_3
                                            have hw224_2 := hx224_2
                                            have hw224_1 := hx224_1
                                            have hw224_0 := hx224_0
                                            obtain rfl : ad221 = ad224 := (by injection e224)
                                            replace hx224_0 := (HB.out.cell (World.block_lt_of_cell? w _ hx224_0)).trans hx224_0
                                            replace hx224_1 := (HB.out.cell (World.block_lt_of_cell? w _ hx224_1)).trans hx224_1
                                            replace hx224_2 := (HB.out.cell (World.block_lt_of_cell? w _ hx224_2)).trans hx224_2
                                            replace hx224_3 := (HB.out.cell (World.block_lt_of_cell? w _ hx224_3)).trans hx224_3
                                            replace hx224_4 := (HB.out.cell (World.block_lt_of_cell? w _ hx224_4)).trans hx224_4
                                            replace hx224_5 := (HB.out.cell (World.block_lt_of_cell? w _ hx224_5)).trans hx224_5
                                            have HR224_2 := Aside0.mk hi224_2
                                            have HC224_2 := Aside0.mk hl224_2
                                            clear hi224_2 hl224_2
                                            replace p224 := eq_true p224
                                            replace q224 := eq_true q224
                                            refine start_ (n := 13) (S := fun w' => w'.cell? ⟨gb215, 0, none⟩ = some (.int .i64 a0_0) ∧ w'.cell? ⟨gb215, 1, none⟩ = some (.int .i64 a0_1) ∧ w'.cell? ⟨gb215, 2, none⟩ = some (.slice (some ad221) l0_2.length c0_2) ∧ w'.cell? (ad221.add ((x7_3).toNat * 6)) = some (.int .u64 ((rd_T76 l0_2 x7_3).f0)) ∧ w'.cell? ⟨(ad221.add ((x7_3).toNat * 6)).block, (ad221.add ((x7_3).toNat * 6)).off + 1, none⟩ = some (.string ((rd_T76 l0_2 x7_3).f1)) ∧ w'.cell? ⟨(ad221.add ((x7_3).toNat * 6)).block, (ad221.add ((x7_3).toNat * 6)).off + 2, none⟩ = some (.slice A223_2 ((rd_T76 l0_2 x7_3).f2).length c223_2) ∧ w'.cell? ⟨(ad221.add ((x7_3).toNat * 6)).block, (ad221.add ((x7_3).toNat * 6)).off + 3, none⟩ = some (.int .i64 ((rd_T76 l0_2 x7_3).f3)) ∧ w'.cell? ⟨(ad221.add ((x7_3).toNat * 6)).block, (ad221.add ((x7_3).toNat * 6)).off + 4, none⟩ = some (.bool ((rd_T76 l0_2 x7_3).f4)) ∧ w'.cell? ⟨(ad221.add ((x7_3).toNat * 6)).block, (ad221.add ((x7_3).toNat * 6)).off + 5, none⟩ = some (.int .u64 ((rd_T76 l0_2 x7_3).f5)) ∧ w'.cell? (ad221.add ((x46_2).toNat * 6)) = some (.int .u64 ((rd_T76 l0_2 x46_2).f0)) ∧ w'.cell? ⟨(ad221.add ((x46_2).toNat * 6)).block, (ad221.add ((x46_2).toNat * 6)).off + 1, none⟩ = some (.string ((rd_T76 l0_2 x46_2).f1)) ∧ w'.cell? ⟨(ad221.add ((x46_2).toNat * 6)).block, (ad221.add ((x46_2).toNat * 6)).off + 2, none⟩ = some (.slice A224_2 ((rd_T76 l0_2 x46_2).f2).length c224_2) ∧ w'.cell? ⟨(ad221.add ((x46_2).toNat * 6)).block, (ad221.add ((x46_2).toNat * 6)).off + 3, none⟩ = some (.int .i64 ((rd_T76 l0_2 x46_2).f3)) ∧ w'.cell? ⟨(ad221.add ((x46_2).toNat * 6)).block, (ad221.add ((x46_2).toNat * 6)).off + 4, none⟩ = some (.bool ((rd_T76 l0_2 x46_2).f4)) ∧ w'.cell? ⟨(ad221.add ((x46_2).toNat * 6)).block, (ad221.add ((x46_2).toNat * 6)).off + 5, none⟩ = some (.int .u64 ((rd_T76 l0_2 x46_2).f5))) (ds := []) #[false, false, false, false, false, false, false, false, false, false, false, false, false] (by kernel_rfl) rfl rfl ⟨(blk_cell BK215.out 0).trans rfl, (blk_cell BK215.out 1).trans rfl, (blk_cell BK215.out 2).trans rfl, ((HB.out.cell (World.block_lt_of_cell? w _ hw223_0)).trans hw223_0), ((HB.out.cell (World.block_lt_of_cell? w _ hw223_1)).trans hw223_1), ((HB.out.cell (World.block_lt_of_cell? w _ hw223_2)).trans hw223_2), ((HB.out.cell (World.block_lt_of_cell? w _ hw223_3)).trans hw223_3), ((HB.out.cell (World.block_lt_of_cell? w _ hw223_4)).trans hw223_4), ((HB.out.cell (World.block_lt_of_cell? w _ hw223_5)).trans hw223_5), ((HB.out.cell (World.block_lt_of_cell? w _ hw224_0)).trans hw224_0), ((HB.out.cell (World.block_lt_of_cell? w _ hw224_1)).trans hw224_1), ((HB.out.cell (World.block_lt_of_cell? w _ hw224_2)).trans hw224_2), ((HB.out.cell (World.block_lt_of_cell? w _ hw224_3)).trans hw224_3), ((HB.out.cell (World.block_lt_of_cell? w _ hw224_4)).trans hw224_4), ((HB.out.cell (World.block_lt_of_cell? w _ hw224_5)).trans hw224_5)⟩ (fun hHeld => ?_); refine with_tabW aumbryref15_Pack.tab15 aumbryref15_Pack.bits15 (fun HT_ HW_ => ?_)
                                            generalize wr.drew = w42 at BK215 HB HR223_2 HR224_2 hx223_0 hx223_1 hx223_2 hx223_3 hx223_4 hx223_5 hx224_0 hx224_1 hx224_2 hx224_3 hx224_4 hx224_5 hHeld ⊢
                                            refine pure_ (i := 0) (N := some 63) (v := ?_) (a' := ?_) #[true, false, false, false, false, false, false, false, false, false, false, false, false] rfl rfl (any_of HT_.out (by kernel_rfl)) (fun _ _ _ h => h) (Or.inl ⟨by rfl, ?_⟩) ?_ ?_
                                            rotate_left
                                            · intro w'
                                              go_simp
                                              with_reducible rfl
                                            rotate_left
                                            · simp only [Act.put, List.setIfInBounds_toArray, List.set_cons_zero, List.set_cons_succ, i64_w, i32_w]
                                              rfl
                                            refine pure_ (i := 2) (N := some 65) (v := ?_) (a' := ?_) #[true, false, true, false, false, false, false, false, false, false, false, false, false] rfl rfl (any_of HT_.out (by kernel_rfl)) (fun _ _ _ h => h) (Or.inl ⟨by rfl, ?_⟩) ?_ ?_
                                            rotate_left
                                            · intro w'
                                              go_simp
                                              with_reducible rfl
                                            rotate_left
                                            · simp only [Act.put, List.setIfInBounds_toArray, List.set_cons_zero, List.set_cons_succ, i64_w, i32_w]
                                              rfl
                                            refine pure_ (i := 6) (N := some 69) (v := ?_) (a' := ?_) #[true, false, true, false, false, false, true, false, false, false, false, false, false] rfl rfl (any_of HT_.out (by kernel_rfl)) (fun _ _ _ h => h) (Or.inl ⟨by rfl, ?_⟩) ?_ ?_
                                            rotate_left
                                            · intro w'
                                              go_simp
                                              with_reducible rfl
                                            rotate_left
                                            · simp only [Act.put, List.setIfInBounds_toArray, List.set_cons_zero, List.set_cons_succ, i64_w, i32_w]
                                              rfl
                                            refine pure_ (i := 8) (N := some 71) (v := ?_) (a' := ?_) #[true, false, true, false, false, false, true, false, true, false, false, false, false] rfl rfl (any_of HT_.out (by kernel_rfl)) (fun _ _ _ h => h) (Or.inl ⟨by rfl, ?_⟩) ?_ ?_
                                            rotate_left
                                            · intro w'
                                              go_simp
                                              with_reducible rfl
                                            rotate_left
                                            · simp only [Act.put, List.setIfInBounds_toArray, List.set_cons_zero, List.set_cons_succ, i64_w, i32_w]
                                              rfl
                                            refine take_ (i := 1) (N := some 64) (v := ?_) (a' := ?_) #[true, true, true, false, false, false, true, false, true, false, false, false, false] rfl rfl (take_ofW HT_.out HW_.out (by kernel_rfl)) (fun _ _ _ h => h) (Or.inl ⟨by rfl, ?_⟩) hHeld ?_ ?_
                                            rotate_left
                                            · rintro w' ⟨s0, s1, s2, s3, s4, s5, s6, s7, s8, s9, s10, s11, s12, s13, s14⟩
                                              go_simp
                                              with_reducible rfl
                                            rotate_left
                                            · simp only [Act.put, List.setIfInBounds_toArray, List.set_cons_zero, List.set_cons_succ, i64_w, i32_w]
                                              rfl
                                            refine pure_ (i := 3) (N := some 66) (v := ?_) (a' := ?_) #[true, true, true, true, false, false, true, false, true, false, false, false, false] rfl rfl (any_of HT_.out (by kernel_rfl)) (fun _ _ _ h => h) (Or.inl ⟨by rfl, ?_⟩) ?_ ?_
                                            rotate_left
                                            · intro w'
                                              go_simp
                                              with_reducible rfl
                                            rotate_left
                                            · simp only [Act.put, List.setIfInBounds_toArray, List.set_cons_zero, List.set_cons_succ, i64_w, i32_w]
                                              rfl
                                            refine pure_ (i := 4) (N := some 67) (v := ?_) (a' := ?_) #[true, true, true, true, true, false, true, false, true, false, false, false, false] rfl rfl (any_of HT_.out (by kernel_rfl)) (fun _ _ _ h => h) (Or.inl ⟨by rfl, ?_⟩) ?_ ?_
                                            rotate_left
                                            · intro w'
                                              go_simp
                                              with_reducible rfl
                                            rotate_left
                                            · simp only [Act.put, List.setIfInBounds_toArray, List.set_cons_zero, List.set_cons_succ, i64_w, i32_w]
                                              rfl
                                            refine take_ (i := 5) (N := some 68) (v := ?_) (a' := ?_) #[true, true, true, true, true, true, true, false, true, false, false, false, false] rfl rfl (take_ofW HT_.out HW_.out (by kernel_rfl)) (fun _ _ _ h => h) (Or.inl ⟨by rfl, ?_⟩) hHeld ?_ ?_
                                            rotate_left
                                            · rintro w' ⟨s0, s1, s2, s3, s4, s5, s6, s7, s8, s9, s10, s11, s12, s13, s14⟩
                                              go_simp
                                              with_reducible rfl
                                            rotate_left
                                            · simp only [Act.put, List.setIfInBounds_toArray, List.set_cons_zero, List.set_cons_succ, i64_w, i32_w]
                                              rfl
                                            refine take_ (i := 7) (N := some 70) (v := ?_) (a' := ?_) #[true, true, true, true, true, true, true, true, true, false, false, false, false] rfl rfl (take_ofW HT_.out HW_.out (by kernel_rfl)) (fun _ _ _ h => h) (Or.inl ⟨by rfl, ?_⟩) hHeld ?_ ?_
                                            rotate_left
                                            · rintro w' ⟨s0, s1, s2, s3, s4, s5, s6, s7, s8, s9, s10, s11, s12, s13, s14⟩
                                              go_simp
                                              with_reducible rfl
                                            rotate_left
                                            · simp only [Act.put, List.setIfInBounds_toArray, List.set_cons_zero, List.set_cons_succ, i64_w, i32_w]
                                              rfl
                                            refine pure_ (i := 9) (N := some 72) (v := ?_) (a' := ?_) #[true, true, true, true, true, true, true, true, true, true, false, false, false] rfl rfl (any_of HT_.out (by kernel_rfl)) (fun _ _ _ h => h) (Or.inl ⟨by rfl, ?_⟩) ?_ ?_
                                            rotate_left
                                            · intro w'
                                              go_simp
                                              with_reducible rfl
                                            rotate_left
                                            · simp only [Act.put, List.setIfInBounds_toArray, List.set_cons_zero, List.set_cons_succ, i64_w, i32_w]
                                              rfl
                                            refine pure_ (i := 10) (N := some 73) (v := ?_) (a' := ?_) #[true, true, true, true, true, true, true, true, true, true, true, false, false] rfl rfl (any_of HT_.out (by kernel_rfl)) (fun _ _ _ h => h) (Or.inl ⟨by rfl, ?_⟩) ?_ ?_
                                            rotate_left
                                            · intro w'
                                              go_simp
                                              with_reducible rfl
                                            rotate_left
                                            · simp only [Act.put, List.setIfInBounds_toArray, List.set_cons_zero, List.set_cons_succ, i64_w, i32_w]
                                              rfl
                                            refine take_ (i := 11) (N := some 74) (v := ?_) (a' := ?_) #[true, true, true, true, true, true, true, true, true, true, true, true, false] rfl rfl (take_ofW HT_.out HW_.out (by kernel_rfl)) (fun _ _ _ h => h) (Or.inl ⟨by rfl, ?_⟩) hHeld ?_ ?_
                                            rotate_left
                                            · rintro w' ⟨s0, s1, s2, s3, s4, s5, s6, s7, s8, s9, s10, s11, s12, s13, s14⟩
                                              go_simp
                                              with_reducible rfl
                                            rotate_left
                                            · simp only [Act.put, List.setIfInBounds_toArray, List.set_cons_zero, List.set_cons_succ, i64_w, i32_w]
                                              rfl
                                            refine pure_ (i := 12) (N := some 75) (v := ?_) (a' := ?_) #[true, true, true, true, true, true, true, true, true, true, true, true, true] rfl rfl (any_of HT_.out (by kernel_rfl)) (fun _ _ _ h => h) (Or.inl ⟨by rfl, ?_⟩) ?_ ?_
                                            rotate_left
                                            · intro w'
                                              go_simp
                                              with_reducible rfl
                                            rotate_left
                                            · simp only [Act.put, List.setIfInBounds_toArray, List.set_cons_zero, List.set_cons_succ, i64_w, i32_w]
                                              rfl
                                            refine done_ (done_of HT_.out (by kernel_rfl)) ?_
                                            try go_wp2
                                            go_roundg k3
                                            case measure => have := HJ1.out; have := HK2.out; have := HK3.out; omega
                                            case rel => exact ⟨(wrap64 (x7_3 + 1)), (by first | rfl | (simp; done) | (simp [*]; done)), H', ⟨by have := HJ1.out; have := HK2.out; have := HK3.out; omega⟩, ⟨by (with_reducible repeat (first | refine blk_drewN ?_ _ | refine blk_drew ?_ | refine blk_alloc ?_ _)); exact BK215.out⟩, ⟨by repeat (first | (with_reducible first | exact HB.out | apply below_alloc | apply pw_below_drewN | apply below_drew1 | refine below_set ?_ GE215.out) | exact HB.out)⟩⟩
                                        · rw [if_neg c39] at H
                                          exact absurd H (by simp)
                                      · rw [if_neg c38] at H
                                        exact absurd H (by simp)
                                    · rw [if_neg c37] at H
                                      exact absurd H (by simp)
                                  · rw [if_neg c36] at H
                                    exact absurd H (by simp)
                                · rw [if_neg c35] at H
                                  have c35b0 : decide (x7_3 < x46_2) = false := decide_eq_false c35
                                  clear c35
                                  by_cases c43 : 0 ≤ x46_2
                                  · rw [if_pos c43] at H
                                    have c43b0 : decide (0 ≤ x46_2) = true := decide_eq_true c43
                                    clear c43
                                    by_cases c44 : x46_2 < (l0_2.length : Int)
                                    · rw [if_pos c44] at H
                                      have c44b0 : decide (x46_2 < (l0_2.length : Int)) = true := decide_eq_true c44
                                      clear c44
                                      replace H := Option.bind_eq_some_iff.mp H
                                      obtain ⟨t226, A450, H⟩ := H
                                      replace H : (if x4_2.size + t226.size ≤ 9223372036854775807 then (aumbryref15_Pack.l0 k3 (x4_2 ++ t226) (l0_2.length : Int) (wrap64 (x46_2 + 1)) a0_0 a0_1 l0_2) else (none)) = some (r1, r2) := H
                                      have A45 := Aside0.mk A450
                                      clear A450
                                      by_cases c46 : x4_2.size + t226.size ≤ 9223372036854775807
                                      · rw [if_pos c46] at H
                                        have c46b0 := eq_true c46
                                        have c46b1 : decide (x4_2.size + t226.size ≤ 9223372036854775807) = true := decide_eq_true c46
                                        try have c46b2 : (9223372036854775807 < x4_2.size + t226.size) = False := eq_false (Nat.not_lt.2 c46)
                                        try (have c46b3 : (9223372036854775807 < x4_2.size + t226.size) = False := eq_false (Nat.not_lt.2 c46); simp only [ByteArray.size_append] at c46b3)
                                        clear c46
                                        have H' := Aside0.mk H
                                        clear H
                                        have hcz47_0 : wr.cell? ⟨gb215, 0, none⟩ = some (.int .i64 a0_0) := (blk_cell BK215.out 0).trans rfl
                                        have hcz47_1 : wr.cell? ⟨gb215, 1, none⟩ = some (.int .i64 a0_1) := (blk_cell BK215.out 1).trans rfl
                                        have hcz47_2 : wr.cell? ⟨gb215, 2, none⟩ = some (.slice (some ad221) l0_2.length c0_2) := (blk_cell BK215.out 2).trans rfl
                                        have hfz47_0 := blk_frozen BK215.out 0
                                        have hfz47_1 := blk_frozen BK215.out 1
                                        have hfz47_2 := blk_frozen BK215.out 2
                                        have p225 : 0 ≤ (x46_2 : Int) := of_decide_eq_true (by first | (with_reducible assumption) | assumption)
                                        have q225 : x46_2 < (l0_2.length : Int) := of_decide_eq_true (by first | (with_reducible assumption) | assumption)
                                        obtain ⟨ad225, A225_2, c225_2, e225, hx225_0, hx225_1, hx225_2, hx225_3, hx225_4, hx225_5, hl225_2, hi225_2⟩ := at_T76 HR0_2.out x46_2 p225 q225
                                        obtain rfl : ad221 = ad225 := (by injection e225)
                                        replace hx225_0 := (HB.out.cell (World.block_lt_of_cell? w _ hx225_0)).trans hx225_0
                                        replace hx225_1 := (HB.out.cell (World.block_lt_of_cell? w _ hx225_1)).trans hx225_1
                                        replace hx225_2 := (HB.out.cell (World.block_lt_of_cell? w _ hx225_2)).trans hx225_2
                                        replace hx225_3 := (HB.out.cell (World.block_lt_of_cell? w _ hx225_3)).trans hx225_3
                                        replace hx225_4 := (HB.out.cell (World.block_lt_of_cell? w _ hx225_4)).trans hx225_4
                                        replace hx225_5 := (HB.out.cell (World.block_lt_of_cell? w _ hx225_5)).trans hx225_5
                                        have HR225_2 := Aside0.mk hi225_2
                                        have HC225_2 := Aside0.mk hl225_2
                                        clear hi225_2 hl225_2
                                        replace p225 := eq_true p225
                                        replace q225 := eq_true q225
                                        go_wp2_with (first | ((with_reducible refine gate_callee (f := 62) rfl ?_); refine goesL_ (some 82) rfl rfl Try.func62 (by kernel_rfl) rfl #[.agg #[.int .u64 ((rd_T76 l0_2 x46_2).f0), .string ((rd_T76 l0_2 x46_2).f1), .slice A225_2 ((rd_T76 l0_2 x46_2).f2).length c225_2, .int .i64 ((rd_T76 l0_2 x46_2).f3), .bool ((rd_T76 l0_2 x46_2).f4), .int .u64 ((rd_T76 l0_2 x46_2).f5)]] rfl (by (try simp only [List.map_toArray, List.map_cons, List.map_nil]); first | done | rfl | (simp only [List.length_drop, List.length_take]; rfl)) ?_; (with_reducible refine (aumbryref15_slot.calls k3 ((rd_T76 l0_2 x46_2).f0) ((rd_T76 l0_2 x46_2).f1) _ _ ((rd_T76 l0_2 x46_2).f2) ((rd_T76 l0_2 x46_2).f3) ((rd_T76 l0_2 x46_2).f4) ((rd_T76 l0_2 x46_2).f5) t226 _ ?side1 ?side2 A45.out).mono ?_); (case side1 => repeat (first | exact (Kd.C_below HR225_2.out HB.out) | (with_reducible refine Kd.C_alloc ?_ _) | (with_reducible refine Kd.C_drewN ?_ _) | (with_reducible refine Kd.C_drew ?_))); (case side2 => exact HC225_2.out); rintro e w48 ⟨rfl, hb⟩; refine ⟨_, rfl, ?_⟩; have n0_ := Aside0.mk (blk_below (g := gb215) (o := .cells #[.int .i64 a0_0, .int .i64 a0_1, .slice (some ad221) l0_2.length c0_2] 64 (0, 0)) (by (with_reducible repeat (first | refine blk_drewN ?_ _ | refine blk_drew ?_ | refine blk_alloc ?_ _)); exact BK215.out) hb); have n1_ := Aside0.mk (below_step (by repeat (first | (with_reducible first | exact HB.out | apply below_alloc | apply pw_below_drewN | apply below_drew1 | refine below_set ?_ GE215.out) | exact HB.out)) hb); clear BK215; clear HB; have BK215 := n0_; have HB := n1_; clear n0_ n1_; (try clear hb); (try clear hb2); (try clear hk); (try clear hi)))
                                        go_roundg k3
                                        case measure => have := HJ1.out; have := HK2.out; have := HK3.out; omega
                                        case rel => exact ⟨(x4_2 ++ t226), (wrap64 (x46_2 + 1)), (by first | rfl | (simp; done) | (simp [*]; done)), (by first | rfl | (simp; done) | (simp [*]; done)), H', ⟨by have := HJ1.out; have := HK2.out; have := HK3.out; omega⟩, ⟨by (with_reducible repeat (first | refine blk_drewN ?_ _ | refine blk_drew ?_ | refine blk_alloc ?_ _)); exact BK215.out⟩, ⟨by repeat (first | (with_reducible first | exact HB.out | apply below_alloc | apply pw_below_drewN | apply below_drew1 | refine below_set ?_ GE215.out) | exact HB.out)⟩⟩
                                      · rw [if_neg c46] at H
                                        exact absurd H (by simp)
                                    · rw [if_neg c44] at H
                                      exact absurd H (by simp)
                                  · rw [if_neg c43] at H
                                    exact absurd H (by simp)
                          · rw [if_neg c32] at H
                            have c32b0 : (t222 == 0) = false := beq_eq_false_iff_ne.mpr c32
                            have c32b1 : (t222 != 0) = true := bne_iff_ne.mpr c32
                            simp only [Option.some.injEq, Prod.mk.injEq] at H
                            obtain ⟨rfl, rfl⟩ := H
                            have hcz49_0 : wr.cell? ⟨gb215, 0, none⟩ = some (.int .i64 a0_0) := (blk_cell BK215.out 0).trans rfl
                            have hcz49_1 : wr.cell? ⟨gb215, 1, none⟩ = some (.int .i64 a0_1) := (blk_cell BK215.out 1).trans rfl
                            have hcz49_2 : wr.cell? ⟨gb215, 2, none⟩ = some (.slice A0_2 l0_2.length c0_2) := (blk_cell BK215.out 2).trans rfl
                            have hfz49_0 := blk_frozen BK215.out 0
                            have hfz49_1 := blk_frozen BK215.out 1
                            have hfz49_2 := blk_frozen BK215.out 2
                            have p221 : 0 ≤ (x46_2 : Int) := of_decide_eq_true (by first | (with_reducible assumption) | assumption)
                            have q221 : x46_2 < (l0_2.length : Int) := of_decide_eq_true (by first | (with_reducible assumption) | assumption)
                            obtain ⟨ad221, A221_2, c221_2, e221, hx221_0, hx221_1, hx221_2, hx221_3, hx221_4, hx221_5, hl221_2, hi221_2⟩ := at_T76 HR0_2.out x46_2 p221 q221
                            cases e221
                            replace hx221_0 := (HB.out.cell (World.block_lt_of_cell? w _ hx221_0)).trans hx221_0
                            replace hx221_1 := (HB.out.cell (World.block_lt_of_cell? w _ hx221_1)).trans hx221_1
                            replace hx221_2 := (HB.out.cell (World.block_lt_of_cell? w _ hx221_2)).trans hx221_2
                            replace hx221_3 := (HB.out.cell (World.block_lt_of_cell? w _ hx221_3)).trans hx221_3
                            replace hx221_4 := (HB.out.cell (World.block_lt_of_cell? w _ hx221_4)).trans hx221_4
                            replace hx221_5 := (HB.out.cell (World.block_lt_of_cell? w _ hx221_5)).trans hx221_5
                            have HR221_2 := Aside0.mk hi221_2
                            have HC221_2 := Aside0.mk hl221_2
                            clear hi221_2 hl221_2
                            replace p221 := eq_true p221
                            replace q221 := eq_true q221
                            go_wp2_with (first | ((with_reducible refine gate_callee (f := 61) rfl ?_); refine goesL_ (some 54) rfl rfl Try.func61 (by kernel_rfl) rfl #[.agg #[.int .u64 ((rd_T76 l0_2 x46_2).f0), .string ((rd_T76 l0_2 x46_2).f1), .slice A221_2 ((rd_T76 l0_2 x46_2).f2).length c221_2, .int .i64 ((rd_T76 l0_2 x46_2).f3), .bool ((rd_T76 l0_2 x46_2).f4), .int .u64 ((rd_T76 l0_2 x46_2).f5)]] rfl (by (try simp only [List.map_toArray, List.map_cons, List.map_nil]); first | done | rfl | (simp only [List.length_drop, List.length_take]; rfl)) ?_; (with_reducible refine (aumbryref15_May.calls k2 ((rd_T76 l0_2 x46_2).f0) ((rd_T76 l0_2 x46_2).f1) _ _ ((rd_T76 l0_2 x46_2).f2) ((rd_T76 l0_2 x46_2).f3) ((rd_T76 l0_2 x46_2).f4) ((rd_T76 l0_2 x46_2).f5) t222 _ ?side1 ?side2 A31.out).mono ?_); (case side1 => repeat (first | exact (Kd.C_below HR221_2.out HB.out) | (with_reducible refine Kd.C_alloc ?_ _) | (with_reducible refine Kd.C_drewN ?_ _) | (with_reducible refine Kd.C_drew ?_))); (case side2 => exact HC221_2.out); rintro e w50 ⟨rfl, hb⟩; refine ⟨_, rfl, ?_⟩; have n0_ := Aside0.mk (blk_below (g := gb215) (o := .cells #[.int .i64 a0_0, .int .i64 a0_1, .slice (some ad221) l0_2.length c0_2] 64 (0, 0)) (by (with_reducible repeat (first | refine blk_drewN ?_ _ | refine blk_drew ?_ | refine blk_alloc ?_ _)); exact BK215.out) hb); have n1_ := Aside0.mk (below_step (by repeat (first | (with_reducible first | exact HB.out | apply below_alloc | apply pw_below_drewN | apply below_drew1 | refine below_set ?_ GE215.out) | exact HB.out)) hb); clear BK215; clear HB; have BK215 := n0_; have HB := n1_; clear n0_ n1_; (try clear hb); (try clear hb2); (try clear hk); (try clear hi)))
                            go_ret2
                            exact ⟨by first | rfl | (simp [errW_none, errW_some] <;> rfl) | (simp [*, errW_none, errW_some] <;> rfl), by repeat (first | (with_reducible first | exact HB.out | apply below_alloc | apply pw_below_drewN | apply below_drew1 | refine below_set ?_ GE215.out) | exact HB.out)⟩
                        · rw [if_neg c30] at H
                          exact absurd H (by simp)
                      · rw [if_neg c29] at H
                        exact absurd H (by simp)
                    · rw [if_neg c28] at H
                      have c28b0 : decide (x46_2 < (l0_2.length : Int)) = false := decide_eq_false c28
                      clear c28
                      replace H := Option.bind_eq_some_iff.mp H
                      obtain ⟨t220, A510, H⟩ := H
                      replace H : (if x4_2.size + t220.size ≤ 9223372036854775807 then (some (x4_2 ++ t220, 0)) else (none)) = some (r1, r2) := H
                      have A51 := Aside0.mk A510
                      clear A510
                      by_cases c52 : x4_2.size + t220.size ≤ 9223372036854775807
                      · rw [if_pos c52] at H
                        have c52b0 := eq_true c52
                        have c52b1 : decide (x4_2.size + t220.size ≤ 9223372036854775807) = true := decide_eq_true c52
                        try have c52b2 : (9223372036854775807 < x4_2.size + t220.size) = False := eq_false (Nat.not_lt.2 c52)
                        try (have c52b3 : (9223372036854775807 < x4_2.size + t220.size) = False := eq_false (Nat.not_lt.2 c52); simp only [ByteArray.size_append] at c52b3)
                        clear c52
                        simp only [Option.some.injEq, Prod.mk.injEq] at H
                        obtain ⟨rfl, rfl⟩ := H
                        go_wp2_with (first | ((with_reducible refine gate_callee (f := 43) rfl ?_); refine goesL_ (some 89) rfl rfl Try.func43 (by kernel_rfl) rfl #[.int .i64 (wrap64 (256 - (x4_2.size : Int)))] rfl (by (try simp only [List.map_toArray, List.map_cons, List.map_nil]); first | done | rfl | (simp only [List.length_drop, List.length_take]; rfl)) ?_; (with_reducible refine (aumbryref01_Zeros.calls (wrap64 (256 - (x4_2.size : Int))) t220 _ A51.out).mono ?_); rintro e w53 ⟨rfl, hb⟩; refine ⟨_, rfl, ?_⟩; have n0_ := Aside0.mk (blk_below (g := gb215) (o := .cells #[.int .i64 a0_0, .int .i64 a0_1, .slice A0_2 l0_2.length c0_2] 64 (0, 0)) (by (with_reducible repeat (first | refine blk_drewN ?_ _ | refine blk_drew ?_ | refine blk_alloc ?_ _)); exact BK215.out) hb); have n1_ := Aside0.mk (below_step (by repeat (first | (with_reducible first | exact HB.out | apply below_alloc | apply pw_below_drewN | apply below_drew1 | refine below_set ?_ GE215.out) | exact HB.out)) hb); clear BK215; clear HB; have BK215 := n0_; have HB := n1_; clear n0_ n1_; (try clear hb); (try clear hb2); (try clear hk); (try clear hi)))
                        go_ret2
                        exact ⟨by first | rfl | (simp [errW_none, errW_some] <;> rfl) | (simp [*, errW_none, errW_some] <;> rfl), by repeat (first | (with_reducible first | exact HB.out | apply below_alloc | apply pw_below_drewN | apply below_drew1 | refine below_set ?_ GE215.out) | exact HB.out)⟩
                      · rw [if_neg c52] at H
                        exact absurd H (by simp)
              · rw [if_neg c20] at H
                exact absurd H (by simp)
            · rw [if_neg c18] at H
              exact absurd H (by simp)
          · rw [if_neg c16] at H
            exact absurd H (by simp)

end Go.Proofs.Ytdieanikopjbjaa.QSlotUn
