/- Written by a program of this session out of the translation: Lean functions with the same answers as the Go functions, and the walks that show it. -/
import Derived.Test.YtdieanikopjbjaaQSlotUnx0
import Derived.Test.YtdieanikopjbjaaQSlotUnx8
namespace Go.Proofs.Ytdieanikopjbjaa.QSlotUn
open Go.RowKit Go.Proofs.YtdieanikopjbjaaW.PrintWords Go.Proofs.YtdieanikopjbjaaW.PrintLast Go.Proofs.YtdieanikopjbjaaW.PrintMore
attribute [local go_sem] max2_int min2_int max_two min_two max_three min_three max_four min_four
attribute [local go_sem high] StepStr.leq_str StepStr.gtr_str
set_option linter.unusedVariables false
set_option linter.unusedSimpArgs false

/-! ### aumbryref15_slot: function 62 -/
mutual
def aumbryref15_slot.j0 : Nat → Int → Int → ByteArray → List Int → Int → Bool → Int → Option (ByteArray)
  | 0, _, _, _, _, _, _, _ => none
  | k + 1, x3, x204000, x204001, x204002, x204003, x204004, x204005 => (aumbryref15_put.f k 1 1).bind fun t204 => ((aumbryref15_put.f k x3 1).bind fun t205 => (if t204.size + t205.size ≤ 9223372036854775807 then ((aumbryref15_put.f k (Int.tmod x204000 65536) 2).bind fun t206 => (if (t204 ++ t205).size + t206.size ≤ 9223372036854775807 then ((aumbryref15_padded.f x204001).bind fun t207 => (if ((t204 ++ t205) ++ t206).size + t207.size ≤ 9223372036854775807 then ((aumbryref15_put.f k (IntKind.u64.wrap ((x204002.length : Int))) 1).bind fun t208 => (if (((t204 ++ t205) ++ t206) ++ t207).size + t208.size ≤ 9223372036854775807 then ((aumbryref15_put.f k (IntKind.u64.wrap (x204003)) 4).bind fun t209 => (if ((((t204 ++ t205) ++ t206) ++ t207) ++ t208).size + t209.size ≤ 9223372036854775807 then ((aumbryref15_put.f k x204005 6).bind fun t210 => (if (((((t204 ++ t205) ++ t206) ++ t207) ++ t208) ++ t209).size + t210.size ≤ 9223372036854775807 then (aumbryref15_slot.l0 k ((((((t204 ++ t205) ++ t206) ++ t207) ++ t208) ++ t209) ++ t210) 0 x204000 x204001 x204002 x204003 x204004 x204005) else (none))) else (none))) else (none))) else (none))) else (none))) else (none)))
def aumbryref15_slot.l0 : Nat → ByteArray → Int → Int → ByteArray → List Int → Int → Bool → Int → Option (ByteArray)
  | 0, _, _, _, _, _, _, _, _ => none
  | k + 1, x4, x5, x204000, x204001, x204002, x204003, x204004, x204005 => if x5 < 4 then (if x5 < (x204002.length : Int) then (if 0 ≤ x5 then ((aumbryref15_put.f k (rd x204002 x5) 6).bind fun t212 => (if x4.size + t212.size ≤ 9223372036854775807 then (aumbryref15_slot.l0 k (x4 ++ t212) (wrap64 (x5 + 1)) x204000 x204001 x204002 x204003 x204004 x204005) else (none))) else (none)) else ((aumbryref15_put.f k 0 6).bind fun t213 => (if x4.size + t213.size ≤ 9223372036854775807 then (aumbryref15_slot.l0 k (x4 ++ t213) (wrap64 (x5 + 1)) x204000 x204001 x204002 x204003 x204004 x204005) else (none)))) else ((aumbryref15_put.f k 0 1).bind fun t214 => (if x4.size + t214.size ≤ 9223372036854775807 then (some (x4 ++ t214)) else (none)))
end
def aumbryref15_slot.f (k : Nat) (a0_0 : Int) (a0_1 : ByteArray) (l0_2 : List Int) (a0_3 : Int) (a0_4 : Bool) (a0_5 : Int) : Option (ByteArray) := if a0_4 = true then (aumbryref15_slot.j0 k 1 a0_0 a0_1 l0_2 a0_3 a0_4 a0_5) else (aumbryref15_slot.j0 k 0 a0_0 a0_1 l0_2 a0_3 a0_4 a0_5)
theorem aumbryref15_slot.mono_l : ∀ k, (∀ y0 y1 y2 y3 y4 y5 y6, LeO (aumbryref15_slot.j0 k y0 y1 y2 y3 y4 y5 y6) (aumbryref15_slot.j0 (k + 1) y0 y1 y2 y3 y4 y5 y6)) ∧ (∀ y0 y1 y2 y3 y4 y5 y6 y7, LeO (aumbryref15_slot.l0 k y0 y1 y2 y3 y4 y5 y6 y7) (aumbryref15_slot.l0 (k + 1) y0 y1 y2 y3 y4 y5 y6 y7))
  | 0 => ⟨fun _ _ _ _ _ _ _ r h => by simp [aumbryref15_slot.j0] at h, fun _ _ _ _ _ _ _ _ r h => by simp [aumbryref15_slot.l0] at h⟩
  | k + 1 => by
    obtain ⟨ih0, ih1⟩ := aumbryref15_slot.mono_l k
    refine ⟨?_, ?_⟩
    · intro y0 y1 y2 y3 y4 y5 y6
      unfold aumbryref15_slot.j0
      repeat' first
      | (with_reducible exact ih0 _ _ _ _ _ _ _)
      | (with_reducible exact ih1 _ _ _ _ _ _ _ _)
      | (with_reducible exact aumbryref15_put.mono _ _ _)
      | (with_reducible exact LeO.refl _)
      | (with_reducible exact LeO.none _)
      | (with_reducible refine LeO.ite ?_ ?_)
      | (with_reducible refine LeO.bind ?_ (fun _ => ?_))
      | exact ih0 _ _ _ _ _ _ _
      | exact ih1 _ _ _ _ _ _ _ _
      | exact aumbryref15_put.mono _ _ _
      | exact LeO.none _
      | refine LeO.ite ?_ ?_
      | refine LeO.bind ?_ (fun _ => ?_)
    · intro y0 y1 y2 y3 y4 y5 y6 y7
      unfold aumbryref15_slot.l0
      repeat' first
      | (with_reducible exact ih0 _ _ _ _ _ _ _)
      | (with_reducible exact ih1 _ _ _ _ _ _ _ _)
      | (with_reducible exact aumbryref15_put.mono _ _ _)
      | (with_reducible exact LeO.refl _)
      | (with_reducible exact LeO.none _)
      | (with_reducible refine LeO.ite ?_ ?_)
      | (with_reducible refine LeO.bind ?_ (fun _ => ?_))
      | exact ih0 _ _ _ _ _ _ _
      | exact ih1 _ _ _ _ _ _ _ _
      | exact aumbryref15_put.mono _ _ _
      | exact LeO.none _
      | refine LeO.ite ?_ ?_
      | refine LeO.bind ?_ (fun _ => ?_)
theorem aumbryref15_slot.mono : ∀ a0 a1 a2 a3 a4 a5 k, LeO (aumbryref15_slot.f k a0 a1 a2 a3 a4 a5) (aumbryref15_slot.f (k + 1) a0 a1 a2 a3 a4 a5) := by
  intro a0 a1 a2 a3 a4 a5 k
  obtain ⟨ih0, ih1⟩ := aumbryref15_slot.mono_l k
  unfold aumbryref15_slot.f
  repeat' first
      | (with_reducible exact ih0 _ _ _ _ _ _ _)
      | (with_reducible exact ih1 _ _ _ _ _ _ _ _)
      | (with_reducible exact aumbryref15_put.mono _ _ _)
      | (with_reducible exact LeO.refl _)
      | (with_reducible exact LeO.none _)
      | (with_reducible refine LeO.ite ?_ ?_)
      | (with_reducible refine LeO.bind ?_ (fun _ => ?_))
      | exact ih0 _ _ _ _ _ _ _
      | exact ih1 _ _ _ _ _ _ _ _
      | exact aumbryref15_put.mono _ _ _
      | exact LeO.none _
      | refine LeO.ite ?_ ?_
      | refine LeO.bind ?_ (fun _ => ?_)
def aumbryref15_slot.T4 : Bool × List (List Nat × List Nat) := (true, [([], []), ([], []), ([1, 0], [1]), ([0, 2], [0, 2]), ([], []), ([4], [4]), ([5], [5]), ([6, 2], [6]), ([3, 7], [3, 7]), ([], []), ([9], [9]), ([10, 7], [10]), ([8, 11], [8, 11]), ([], []), ([13], [13]), ([14], [14]), ([15], [15]), ([16, 11], [16]), ([12, 17], [12, 17]), ([], []), ([19], [19]), ([20], [20]), ([21, 17], [21]), ([18, 22], [18, 22]), ([], []), ([24], [24]), ([25, 22], [25]), ([23, 26], [23, 26]), ([27, 26, 0, 1, 2, 3, 4, 5, 6, 7, 8, 9, 10, 11, 12, 13, 14, 15, 16, 17, 18, 19, 20, 21, 22, 23, 24, 25, 26, 27], [27])])
def aumbryref15_slot.B4 : List Nat := [0, 0, 3, 7, 0, 16, 48, 119, 255, 0, 512, 1783, 4095, 0, 8192, 24576, 57344, 126711, 262143, 0, 524288, 1572864, 3927799, 8388607, 0, 16777216, 58453751, 134217727, 268435455]
theorem aumbryref15_slot.tab4 : rtab .any (opsOf Try.f62 4) = aumbryref15_slot.T4 := by kernel_rfl
theorem aumbryref15_slot.bits4 : waitsOk aumbryref15_slot.T4.2 aumbryref15_slot.B4 = true := by kernel_rfl
set_option maxHeartbeats 8000000 in
set_option maxRecDepth 100000 in
theorem aumbryref15_slot.calls (k : Nat) (a0_0 : Int) (a0_1 : ByteArray) (A0_2 : Option Addr) (c0_2 : Nat) (l0_2 : List Int) (a0_3 : Int) (a0_4 : Bool) (a0_5 : Int) (r : ByteArray) (w : World) (hr0_2 : Kd.C (Kd.int .u64) w A0_2 l0_2.length l0_2) (hc0_2 : l0_2.length ≤ c0_2) (h : aumbryref15_slot.f k a0_0 a0_1 l0_2 a0_3 a0_4 a0_5 = some r) :
    Calls Try.prog 62 #[.agg #[.int .u64 a0_0, .string a0_1, .slice A0_2 l0_2.length c0_2, .int .i64 a0_3, .bool a0_4, .int .u64 a0_5]] w fun e w' => e = .returned (.string r) ∧ Below w.heap.size w w' := by
  have hu76 := Try.underlying76
  have HR0_2 := Aside0.mk hr0_2
  have HC0_2 := Aside0.mk hc0_2
  clear hr0_2 hc0_2
  have HB := Aside0.mk (Below.refl w.heap.size w)
  have H : (if a0_4 = true then (aumbryref15_slot.j0 k 1 a0_0 a0_1 l0_2 a0_3 a0_4 a0_5) else (aumbryref15_slot.j0 k 0 a0_0 a0_1 l0_2 a0_3 a0_4 a0_5)) = some r := h
  clear h
  have HC2 := Aside0.mk H
  clear H
  go_enter Try.func62, Try.ntmps62
  go_upto_if 8 with (first | ((with_reducible refine gate_dst (N := 1) rfl ?_); refine box_event ?hg (N := 1) ?hd (cs := #[.int .u64 a0_0, .string a0_1, .slice A0_2 l0_2.length c0_2, .int .i64 a0_3, .bool a0_4, .int .u64 a0_5]) (t := 76) ?hr ?_; (case hd => rfl); (case hg => rfl); (case hr => first | (go_simp; done) | (go_simp; rfl)); intro gb203 hg w3 hbox hb; have n0_ := Aside0.mk (below_step (by repeat (first | (with_reducible first | exact HB.out | apply below_alloc | apply pw_below_drewN | apply below_drew1) | exact HB.out)) hb); have n1_ := Aside0.mk (hbox); have n2_ := Aside0.mk ((by rw [hg]; exact (below_size (by repeat (first | (with_reducible first | exact HB.out | apply below_alloc | apply pw_below_drewN | apply below_drew1) | exact HB.out))) : w.heap.size ≤ gb203)); have n3_ := Aside0.mk ((by rw [hg]; exact (below_size (by repeat (first | (with_reducible first | exact HB.out | apply below_alloc | apply pw_below_drewN | apply below_drew1) | exact HB.out))) : w.heap.size ≤ gb203)); clear HB; have HB := n0_; have BK203 := n1_; have GW203 := n2_; have GE203 := n3_; clear n0_ n1_ n2_ n3_; clear hb hbox hg; have hcz4_0 : w3.cell? ⟨gb203, 0, none⟩ = some (.int .u64 a0_0) := (blk_cell BK203.out 0).trans rfl; have hcz4_1 : w3.cell? ⟨gb203, 1, none⟩ = some (.string a0_1) := (blk_cell BK203.out 1).trans rfl; have hcz4_2 : w3.cell? ⟨gb203, 2, none⟩ = some (.slice A0_2 l0_2.length c0_2) := (blk_cell BK203.out 2).trans rfl; have hcz4_3 : w3.cell? ⟨gb203, 3, none⟩ = some (.int .i64 a0_3) := (blk_cell BK203.out 3).trans rfl; have hcz4_4 : w3.cell? ⟨gb203, 4, none⟩ = some (.bool a0_4) := (blk_cell BK203.out 4).trans rfl; have hcz4_5 : w3.cell? ⟨gb203, 5, none⟩ = some (.int .u64 a0_5) := (blk_cell BK203.out 5).trans rfl; have hfz4_0 := blk_frozen BK203.out 0; have hfz4_1 := blk_frozen BK203.out 1; have hfz4_2 := blk_frozen BK203.out 2; have hfz4_3 := blk_frozen BK203.out 3; have hfz4_4 := blk_frozen BK203.out 4; have hfz4_5 := blk_frozen BK203.out 5))
  (try simp only [Act.put, List.setIfInBounds_toArray, List.set_cons_zero, List.set_cons_succ])
  go_cut [3] (fun v3 wc => ∃ (kq : Nat) (x3_1 : Int), v3 = .int .u64 x3_1 ∧ Aside0 (aumbryref15_slot.j0 kq x3_1 a0_0 a0_1 l0_2 a0_3 a0_4 a0_5 = some r) ∧ Aside0 (kq ≤ k) ∧ Aside0 (wc.heap[gb203]? = some (.cells #[.int .u64 a0_0, .string a0_1, (.slice A0_2 l0_2.length c0_2), .int .i64 a0_3, .bool a0_4, .int .u64 a0_5] 76 (0, 0))) ∧ Aside0 (Below w.heap.size w wc))
  case first =>
    have H := HC2.out
    clear HC2
    by_cases c5 : a0_4 = true
    · subst c5
      have H1 : (aumbryref15_slot.j0 k 1 a0_0 a0_1 l0_2 a0_3 true a0_5) = some r := by rw [if_pos rfl] at H; exact H
      clear H
      have H := H1
      clear H1
      have H' := Aside0.mk H
      clear H
      go_wp2
      go_meet
      case rel => exact ⟨_, (1), (by first | rfl | (simp; done) | (simp [*]; done)), H', ⟨by first | omega | exact Nat.le_refl _⟩, ⟨by (with_reducible repeat (first | refine blk_drewN ?_ _ | refine blk_drew ?_ | refine blk_alloc ?_ _)); exact BK203.out⟩, ⟨by repeat (first | (with_reducible first | exact HB.out | apply below_alloc | apply pw_below_drewN | apply below_drew1 | refine below_set ?_ GE203.out) | exact HB.out)⟩⟩
    · replace c5 := Bool.eq_false_iff.mpr c5
      subst c5
      have H1 : (aumbryref15_slot.j0 k 0 a0_0 a0_1 l0_2 a0_3 false a0_5) = some r := by rw [if_neg (show ¬ (false = true) by decide)] at H; exact H
      clear H
      have H := H1
      clear H1
      have H' := Aside0.mk H
      clear H
      go_wp2
      go_meet
      case rel => exact ⟨_, (0), (by first | rfl | (simp; done) | (simp [*]; done)), H', ⟨by first | omega | exact Nat.le_refl _⟩, ⟨by (with_reducible repeat (first | refine blk_drewN ?_ _ | refine blk_drew ?_ | refine blk_alloc ?_ _)); exact BK203.out⟩, ⟨by repeat (first | (with_reducible first | exact HB.out | apply below_alloc | apply pw_below_drewN | apply below_drew1 | refine below_set ?_ GE203.out) | exact HB.out)⟩⟩
  case rest =>
    clear HC2
    try clear p2
    try clear c5
    try clear hcz4_0
    try clear hcz4_1
    try clear hcz4_2
    try clear hcz4_3
    try clear hcz4_4
    try clear hcz4_5
    try clear hfz4_0
    try clear hfz4_1
    try clear hfz4_2
    try clear hfz4_3
    try clear hfz4_4
    try clear hfz4_5
    obtain ⟨kq, x3_1, rfl, HA, HJ1, BK203, HB⟩ := hcut
    cases kq with
    | zero => exact absurd HA.out (by simp [aumbryref15_slot.j0])
    | succ kj1 =>
      have H := HA.out
      clear HA
      simp only [aumbryref15_slot.j0] at H
      replace H := Option.bind_eq_some_iff.mp H
      obtain ⟨t204, A60, H⟩ := H
      replace H : ((aumbryref15_put.f kj1 x3_1 1).bind fun t205 => (if t204.size + t205.size ≤ 9223372036854775807 then ((aumbryref15_put.f kj1 (Int.tmod a0_0 65536) 2).bind fun t206 => (if (t204 ++ t205).size + t206.size ≤ 9223372036854775807 then ((aumbryref15_padded.f a0_1).bind fun t207 => (if ((t204 ++ t205) ++ t206).size + t207.size ≤ 9223372036854775807 then ((aumbryref15_put.f kj1 (IntKind.u64.wrap ((l0_2.length : Int))) 1).bind fun t208 => (if (((t204 ++ t205) ++ t206) ++ t207).size + t208.size ≤ 9223372036854775807 then ((aumbryref15_put.f kj1 (IntKind.u64.wrap (a0_3)) 4).bind fun t209 => (if ((((t204 ++ t205) ++ t206) ++ t207) ++ t208).size + t209.size ≤ 9223372036854775807 then ((aumbryref15_put.f kj1 a0_5 6).bind fun t210 => (if (((((t204 ++ t205) ++ t206) ++ t207) ++ t208) ++ t209).size + t210.size ≤ 9223372036854775807 then (aumbryref15_slot.l0 kj1 ((((((t204 ++ t205) ++ t206) ++ t207) ++ t208) ++ t209) ++ t210) 0 a0_0 a0_1 l0_2 a0_3 a0_4 a0_5) else (none))) else (none))) else (none))) else (none))) else (none))) else (none))) = some r := H
      have A6 := Aside0.mk A60
      clear A60
      replace H := Option.bind_eq_some_iff.mp H
      obtain ⟨t205, A70, H⟩ := H
      replace H : (if t204.size + t205.size ≤ 9223372036854775807 then ((aumbryref15_put.f kj1 (Int.tmod a0_0 65536) 2).bind fun t206 => (if (t204 ++ t205).size + t206.size ≤ 9223372036854775807 then ((aumbryref15_padded.f a0_1).bind fun t207 => (if ((t204 ++ t205) ++ t206).size + t207.size ≤ 9223372036854775807 then ((aumbryref15_put.f kj1 (IntKind.u64.wrap ((l0_2.length : Int))) 1).bind fun t208 => (if (((t204 ++ t205) ++ t206) ++ t207).size + t208.size ≤ 9223372036854775807 then ((aumbryref15_put.f kj1 (IntKind.u64.wrap (a0_3)) 4).bind fun t209 => (if ((((t204 ++ t205) ++ t206) ++ t207) ++ t208).size + t209.size ≤ 9223372036854775807 then ((aumbryref15_put.f kj1 a0_5 6).bind fun t210 => (if (((((t204 ++ t205) ++ t206) ++ t207) ++ t208) ++ t209).size + t210.size ≤ 9223372036854775807 then (aumbryref15_slot.l0 kj1 ((((((t204 ++ t205) ++ t206) ++ t207) ++ t208) ++ t209) ++ t210) 0 a0_0 a0_1 l0_2 a0_3 a0_4 a0_5) else (none))) else (none))) else (none))) else (none))) else (none))) else (none)) = some r := H
      have A7 := Aside0.mk A70
      clear A70
      by_cases c8 : t204.size + t205.size ≤ 9223372036854775807
      · rw [if_pos c8] at H
        have c8b0 := eq_true c8
        have c8b1 : decide (t204.size + t205.size ≤ 9223372036854775807) = true := decide_eq_true c8
        try have c8b2 : (9223372036854775807 < t204.size + t205.size) = False := eq_false (Nat.not_lt.2 c8)
        try (have c8b3 : (9223372036854775807 < t204.size + t205.size) = False := eq_false (Nat.not_lt.2 c8); simp only [ByteArray.size_append] at c8b3)
        clear c8
        replace H := Option.bind_eq_some_iff.mp H
        obtain ⟨t206, A90, H⟩ := H
        replace H : (if (t204 ++ t205).size + t206.size ≤ 9223372036854775807 then ((aumbryref15_padded.f a0_1).bind fun t207 => (if ((t204 ++ t205) ++ t206).size + t207.size ≤ 9223372036854775807 then ((aumbryref15_put.f kj1 (IntKind.u64.wrap ((l0_2.length : Int))) 1).bind fun t208 => (if (((t204 ++ t205) ++ t206) ++ t207).size + t208.size ≤ 9223372036854775807 then ((aumbryref15_put.f kj1 (IntKind.u64.wrap (a0_3)) 4).bind fun t209 => (if ((((t204 ++ t205) ++ t206) ++ t207) ++ t208).size + t209.size ≤ 9223372036854775807 then ((aumbryref15_put.f kj1 a0_5 6).bind fun t210 => (if (((((t204 ++ t205) ++ t206) ++ t207) ++ t208) ++ t209).size + t210.size ≤ 9223372036854775807 then (aumbryref15_slot.l0 kj1 ((((((t204 ++ t205) ++ t206) ++ t207) ++ t208) ++ t209) ++ t210) 0 a0_0 a0_1 l0_2 a0_3 a0_4 a0_5) else (none))) else (none))) else (none))) else (none))) else (none)) = some r := H
        have A9 := Aside0.mk A90
        clear A90
        by_cases c10 : (t204 ++ t205).size + t206.size ≤ 9223372036854775807
        · rw [if_pos c10] at H
          have c10b0 := eq_true c10
          have c10b1 : decide ((t204 ++ t205).size + t206.size ≤ 9223372036854775807) = true := decide_eq_true c10
          try have c10b2 : (9223372036854775807 < (t204 ++ t205).size + t206.size) = False := eq_false (Nat.not_lt.2 c10)
          try (have c10b3 : (9223372036854775807 < (t204 ++ t205).size + t206.size) = False := eq_false (Nat.not_lt.2 c10); simp only [ByteArray.size_append] at c10b3)
          clear c10
          replace H := Option.bind_eq_some_iff.mp H
          obtain ⟨t207, A110, H⟩ := H
          replace H : (if ((t204 ++ t205) ++ t206).size + t207.size ≤ 9223372036854775807 then ((aumbryref15_put.f kj1 (IntKind.u64.wrap ((l0_2.length : Int))) 1).bind fun t208 => (if (((t204 ++ t205) ++ t206) ++ t207).size + t208.size ≤ 9223372036854775807 then ((aumbryref15_put.f kj1 (IntKind.u64.wrap (a0_3)) 4).bind fun t209 => (if ((((t204 ++ t205) ++ t206) ++ t207) ++ t208).size + t209.size ≤ 9223372036854775807 then ((aumbryref15_put.f kj1 a0_5 6).bind fun t210 => (if (((((t204 ++ t205) ++ t206) ++ t207) ++ t208) ++ t209).size + t210.size ≤ 9223372036854775807 then (aumbryref15_slot.l0 kj1 ((((((t204 ++ t205) ++ t206) ++ t207) ++ t208) ++ t209) ++ t210) 0 a0_0 a0_1 l0_2 a0_3 a0_4 a0_5) else (none))) else (none))) else (none))) else (none)) = some r := H
          have A11 := Aside0.mk A110
          clear A110
          by_cases c12 : ((t204 ++ t205) ++ t206).size + t207.size ≤ 9223372036854775807
          · rw [if_pos c12] at H
            have c12b0 := eq_true c12
            have c12b1 : decide (((t204 ++ t205) ++ t206).size + t207.size ≤ 9223372036854775807) = true := decide_eq_true c12
            try have c12b2 : (9223372036854775807 < ((t204 ++ t205) ++ t206).size + t207.size) = False := eq_false (Nat.not_lt.2 c12)
            try (have c12b3 : (9223372036854775807 < ((t204 ++ t205) ++ t206).size + t207.size) = False := eq_false (Nat.not_lt.2 c12); simp only [ByteArray.size_append] at c12b3)
            clear c12
            replace H := Option.bind_eq_some_iff.mp H
            obtain ⟨t208, A130, H⟩ := H
            replace H : (if (((t204 ++ t205) ++ t206) ++ t207).size + t208.size ≤ 9223372036854775807 then ((aumbryref15_put.f kj1 (IntKind.u64.wrap (a0_3)) 4).bind fun t209 => (if ((((t204 ++ t205) ++ t206) ++ t207) ++ t208).size + t209.size ≤ 9223372036854775807 then ((aumbryref15_put.f kj1 a0_5 6).bind fun t210 => (if (((((t204 ++ t205) ++ t206) ++ t207) ++ t208) ++ t209).size + t210.size ≤ 9223372036854775807 then (aumbryref15_slot.l0 kj1 ((((((t204 ++ t205) ++ t206) ++ t207) ++ t208) ++ t209) ++ t210) 0 a0_0 a0_1 l0_2 a0_3 a0_4 a0_5) else (none))) else (none))) else (none)) = some r := H
            have A13 := Aside0.mk A130
            clear A130
            by_cases c14 : (((t204 ++ t205) ++ t206) ++ t207).size + t208.size ≤ 9223372036854775807
            · rw [if_pos c14] at H
              have c14b0 := eq_true c14
              have c14b1 : decide ((((t204 ++ t205) ++ t206) ++ t207).size + t208.size ≤ 9223372036854775807) = true := decide_eq_true c14
              try have c14b2 : (9223372036854775807 < (((t204 ++ t205) ++ t206) ++ t207).size + t208.size) = False := eq_false (Nat.not_lt.2 c14)
              try (have c14b3 : (9223372036854775807 < (((t204 ++ t205) ++ t206) ++ t207).size + t208.size) = False := eq_false (Nat.not_lt.2 c14); simp only [ByteArray.size_append] at c14b3)
              clear c14
              replace H := Option.bind_eq_some_iff.mp H
              obtain ⟨t209, A150, H⟩ := H
              replace H : (if ((((t204 ++ t205) ++ t206) ++ t207) ++ t208).size + t209.size ≤ 9223372036854775807 then ((aumbryref15_put.f kj1 a0_5 6).bind fun t210 => (if (((((t204 ++ t205) ++ t206) ++ t207) ++ t208) ++ t209).size + t210.size ≤ 9223372036854775807 then (aumbryref15_slot.l0 kj1 ((((((t204 ++ t205) ++ t206) ++ t207) ++ t208) ++ t209) ++ t210) 0 a0_0 a0_1 l0_2 a0_3 a0_4 a0_5) else (none))) else (none)) = some r := H
              have A15 := Aside0.mk A150
              clear A150
              by_cases c16 : ((((t204 ++ t205) ++ t206) ++ t207) ++ t208).size + t209.size ≤ 9223372036854775807
              · rw [if_pos c16] at H
                have c16b0 := eq_true c16
                have c16b1 : decide (((((t204 ++ t205) ++ t206) ++ t207) ++ t208).size + t209.size ≤ 9223372036854775807) = true := decide_eq_true c16
                try have c16b2 : (9223372036854775807 < ((((t204 ++ t205) ++ t206) ++ t207) ++ t208).size + t209.size) = False := eq_false (Nat.not_lt.2 c16)
                try (have c16b3 : (9223372036854775807 < ((((t204 ++ t205) ++ t206) ++ t207) ++ t208).size + t209.size) = False := eq_false (Nat.not_lt.2 c16); simp only [ByteArray.size_append] at c16b3)
                clear c16
                replace H := Option.bind_eq_some_iff.mp H
                obtain ⟨t210, A170, H⟩ := H
                replace H : (if (((((t204 ++ t205) ++ t206) ++ t207) ++ t208) ++ t209).size + t210.size ≤ 9223372036854775807 then (aumbryref15_slot.l0 kj1 ((((((t204 ++ t205) ++ t206) ++ t207) ++ t208) ++ t209) ++ t210) 0 a0_0 a0_1 l0_2 a0_3 a0_4 a0_5) else (none)) = some r := H
                have A17 := Aside0.mk A170
                clear A170
                by_cases c18 : (((((t204 ++ t205) ++ t206) ++ t207) ++ t208) ++ t209).size + t210.size ≤ 9223372036854775807
                · rw [if_pos c18] at H
                  have c18b0 := eq_true c18
                  have c18b1 : decide ((((((t204 ++ t205) ++ t206) ++ t207) ++ t208) ++ t209).size + t210.size ≤ 9223372036854775807) = true := decide_eq_true c18
                  try have c18b2 : (9223372036854775807 < (((((t204 ++ t205) ++ t206) ++ t207) ++ t208) ++ t209).size + t210.size) = False := eq_false (Nat.not_lt.2 c18)
                  try (have c18b3 : (9223372036854775807 < (((((t204 ++ t205) ++ t206) ++ t207) ++ t208) ++ t209).size + t210.size) = False := eq_false (Nat.not_lt.2 c18); simp only [ByteArray.size_append] at c18b3)
                  clear c18
                  have H' := Aside0.mk H
                  clear H
                  try go_wp2
                  have n0_ := Aside0.mk (blk_drew BK203.out)
                  have n1_ := Aside0.mk (below_drew1 HB.out)
                  clear BK203
                  clear HB
                  have BK203 := n0_
                  have HB := n1_
                  clear n0_ n1_
                  refine start_ (n := 29) (S := fun w' => w'.cell? ⟨gb203, 0, none⟩ = some (.int .u64 a0_0) ∧ w'.cell? ⟨gb203, 1, none⟩ = some (.string a0_1) ∧ w'.cell? ⟨gb203, 2, none⟩ = some (.slice A0_2 l0_2.length c0_2) ∧ w'.cell? ⟨gb203, 3, none⟩ = some (.int .i64 a0_3) ∧ w'.cell? ⟨gb203, 4, none⟩ = some (.bool a0_4) ∧ w'.cell? ⟨gb203, 5, none⟩ = some (.int .u64 a0_5)) (ds := []) #[false, false, false, false, false, false, false, false, false, false, false, false, false, false, false, false, false, false, false, false, false, false, false, false, false, false, false, false, false] (by kernel_rfl) rfl rfl ⟨(blk_cell BK203.out 0).trans rfl, (blk_cell BK203.out 1).trans rfl, (blk_cell BK203.out 2).trans rfl, (blk_cell BK203.out 3).trans rfl, (blk_cell BK203.out 4).trans rfl, (blk_cell BK203.out 5).trans rfl⟩ (fun hHeld => ?_); refine with_tabW aumbryref15_slot.tab4 aumbryref15_slot.bits4 (fun HT_ HW_ => ?_)
                  generalize wc.drew = w19 at BK203 HB hHeld ⊢
                  refine pure_ (i := 1) (N := some 10) (v := ?_) (a' := ?_) #[false, true, false, false, false, false, false, false, false, false, false, false, false, false, false, false, false, false, false, false, false, false, false, false, false, false, false, false, false] rfl rfl (any_of HT_.out (by kernel_rfl)) (fun _ _ _ h => h) (Or.inl ⟨by rfl, ?_⟩) ?_ ?_
                  rotate_left
                  · intro w'
                    go_simp
                    with_reducible rfl
                  rotate_left
                  · simp only [Act.put, List.setIfInBounds_toArray, List.set_cons_zero, List.set_cons_succ, i64_w, i32_w]
                    rfl
                  refine pure_ (i := 4) (N := some 13) (v := ?_) (a' := ?_) #[false, true, false, false, true, false, false, false, false, false, false, false, false, false, false, false, false, false, false, false, false, false, false, false, false, false, false, false, false] rfl rfl (any_of HT_.out (by kernel_rfl)) (fun _ _ _ h => h) (Or.inl ⟨by rfl, ?_⟩) ?_ ?_
                  rotate_left
                  · intro w'
                    go_simp
                    with_reducible rfl
                  rotate_left
                  · simp only [Act.put, List.setIfInBounds_toArray, List.set_cons_zero, List.set_cons_succ, i64_w, i32_w]
                    rfl
                  refine pure_ (i := 9) (N := some 18) (v := ?_) (a' := ?_) #[false, true, false, false, true, false, false, false, false, true, false, false, false, false, false, false, false, false, false, false, false, false, false, false, false, false, false, false, false] rfl rfl (any_of HT_.out (by kernel_rfl)) (fun _ _ _ h => h) (Or.inl ⟨by rfl, ?_⟩) ?_ ?_
                  rotate_left
                  · intro w'
                    go_simp
                    with_reducible rfl
                  rotate_left
                  · simp only [Act.put, List.setIfInBounds_toArray, List.set_cons_zero, List.set_cons_succ, i64_w, i32_w]
                    rfl
                  refine pure_ (i := 13) (N := some 22) (v := ?_) (a' := ?_) #[false, true, false, false, true, false, false, false, false, true, false, false, false, true, false, false, false, false, false, false, false, false, false, false, false, false, false, false, false] rfl rfl (any_of HT_.out (by kernel_rfl)) (fun _ _ _ h => h) (Or.inl ⟨by rfl, ?_⟩) ?_ ?_
                  rotate_left
                  · intro w'
                    go_simp
                    with_reducible rfl
                  rotate_left
                  · simp only [Act.put, List.setIfInBounds_toArray, List.set_cons_zero, List.set_cons_succ, i64_w, i32_w]
                    rfl
                  refine pure_ (i := 19) (N := some 28) (v := ?_) (a' := ?_) #[false, true, false, false, true, false, false, false, false, true, false, false, false, true, false, false, false, false, false, true, false, false, false, false, false, false, false, false, false] rfl rfl (any_of HT_.out (by kernel_rfl)) (fun _ _ _ h => h) (Or.inl ⟨by rfl, ?_⟩) ?_ ?_
                  rotate_left
                  · intro w'
                    go_simp
                    with_reducible rfl
                  rotate_left
                  · simp only [Act.put, List.setIfInBounds_toArray, List.set_cons_zero, List.set_cons_succ, i64_w, i32_w]
                    rfl
                  refine pure_ (i := 24) (N := some 33) (v := ?_) (a' := ?_) #[false, true, false, false, true, false, false, false, false, true, false, false, false, true, false, false, false, false, false, true, false, false, false, false, true, false, false, false, false] rfl rfl (any_of HT_.out (by kernel_rfl)) (fun _ _ _ h => h) (Or.inl ⟨by rfl, ?_⟩) ?_ ?_
                  rotate_left
                  · intro w'
                    go_simp
                    with_reducible rfl
                  rotate_left
                  · simp only [Act.put, List.setIfInBounds_toArray, List.set_cons_zero, List.set_cons_succ, i64_w, i32_w]
                    rfl
                  refine take_ (i := 5) (N := some 14) (v := ?_) (a' := ?_) #[false, true, false, false, true, true, false, false, false, true, false, false, false, true, false, false, false, false, false, true, false, false, false, false, true, false, false, false, false] rfl rfl (take_ofW HT_.out HW_.out (by kernel_rfl)) (fun _ _ _ h => h) (Or.inl ⟨by rfl, ?_⟩) hHeld ?_ ?_
                  rotate_left
                  · rintro w' ⟨s0, s1, s2, s3, s4, s5⟩
                    go_simp
                    with_reducible rfl
                  rotate_left
                  · simp only [Act.put, List.setIfInBounds_toArray, List.set_cons_zero, List.set_cons_succ, i64_w, i32_w]
                    rfl
                  refine pure_ (i := 6) (N := some 15) (v := ?_) (a' := ?_) #[false, true, false, false, true, true, true, false, false, true, false, false, false, true, false, false, false, false, false, true, false, false, false, false, true, false, false, false, false] rfl rfl (any_of HT_.out (by kernel_rfl)) (fun _ _ _ h => h) (Or.inl ⟨by rfl, ?_⟩) ?_ ?_
                  rotate_left
                  · intro w'
                    go_simp
                    with_reducible rfl
                  rotate_left
                  · simp only [Act.put, List.setIfInBounds_toArray, List.set_cons_zero, List.set_cons_succ, i64_w, i32_w]
                    rfl
                  refine take_ (i := 10) (N := some 19) (v := ?_) (a' := ?_) #[false, true, false, false, true, true, true, false, false, true, true, false, false, true, false, false, false, false, false, true, false, false, false, false, true, false, false, false, false] rfl rfl (take_ofW HT_.out HW_.out (by kernel_rfl)) (fun _ _ _ h => h) (Or.inl ⟨by rfl, ?_⟩) hHeld ?_ ?_
                  rotate_left
                  · rintro w' ⟨s0, s1, s2, s3, s4, s5⟩
                    go_simp
                    with_reducible rfl
                  rotate_left
                  · simp only [Act.put, List.setIfInBounds_toArray, List.set_cons_zero, List.set_cons_succ, i64_w, i32_w]
                    rfl
                  refine take_ (i := 14) (N := some 23) (v := ?_) (a' := ?_) #[false, true, false, false, true, true, true, false, false, true, true, false, false, true, true, false, false, false, false, true, false, false, false, false, true, false, false, false, false] rfl rfl (take_ofW HT_.out HW_.out (by kernel_rfl)) (fun _ _ _ h => h) (Or.inl ⟨by rfl, ?_⟩) hHeld ?_ ?_
                  rotate_left
                  · rintro w' ⟨s0, s1, s2, s3, s4, s5⟩
                    go_simp
                    with_reducible rfl
                  rotate_left
                  · simp only [Act.put, List.setIfInBounds_toArray, List.set_cons_zero, List.set_cons_succ, i64_w, i32_w]
                    rfl
                  refine pure_ (i := 15) (N := some 24) (v := ?_) (a' := ?_) #[false, true, false, false, true, true, true, false, false, true, true, false, false, true, true, true, false, false, false, true, false, false, false, false, true, false, false, false, false] rfl rfl (any_of HT_.out (by kernel_rfl)) (fun _ _ _ h => h) (Or.inl ⟨by rfl, ?_⟩) ?_ ?_
                  rotate_left
                  · intro w'
                    go_simp
                    with_reducible rfl
                  rotate_left
                  · simp only [Act.put, List.setIfInBounds_toArray, List.set_cons_zero, List.set_cons_succ, i64_w, i32_w]
                    rfl
                  refine pure_ (i := 16) (N := some 25) (v := ?_) (a' := ?_) #[false, true, false, false, true, true, true, false, false, true, true, false, false, true, true, true, true, false, false, true, false, false, false, false, true, false, false, false, false] rfl rfl (any_of HT_.out (by kernel_rfl)) (fun _ _ _ h => h) (Or.inl ⟨by rfl, ?_⟩) ?_ ?_
                  rotate_left
                  · intro w'
                    go_simp
                    with_reducible rfl
                  rotate_left
                  · simp only [Act.put, List.setIfInBounds_toArray, List.set_cons_zero, List.set_cons_succ, i64_w, i32_w]
                    rfl
                  refine take_ (i := 20) (N := some 29) (v := ?_) (a' := ?_) #[false, true, false, false, true, true, true, false, false, true, true, false, false, true, true, true, true, false, false, true, true, false, false, false, true, false, false, false, false] rfl rfl (take_ofW HT_.out HW_.out (by kernel_rfl)) (fun _ _ _ h => h) (Or.inl ⟨by rfl, ?_⟩) hHeld ?_ ?_
                  rotate_left
                  · rintro w' ⟨s0, s1, s2, s3, s4, s5⟩
                    go_simp
                    with_reducible rfl
                  rotate_left
                  · simp only [Act.put, List.setIfInBounds_toArray, List.set_cons_zero, List.set_cons_succ, i64_w, i32_w]
                    rfl
                  refine pure_ (i := 21) (N := some 30) (v := ?_) (a' := ?_) #[false, true, false, false, true, true, true, false, false, true, true, false, false, true, true, true, true, false, false, true, true, true, false, false, true, false, false, false, false] rfl rfl (any_of HT_.out (by kernel_rfl)) (fun _ _ _ h => h) (Or.inl ⟨by rfl, ?_⟩) ?_ ?_
                  rotate_left
                  · intro w'
                    go_simp
                    with_reducible rfl
                  rotate_left
                  · simp only [Act.put, List.setIfInBounds_toArray, List.set_cons_zero, List.set_cons_succ, i64_w, i32_w]
                    rfl
                  refine take_ (i := 25) (N := some 34) (v := ?_) (a' := ?_) #[false, true, false, false, true, true, true, false, false, true, true, false, false, true, true, true, true, false, false, true, true, true, false, false, true, true, false, false, false] rfl rfl (take_ofW HT_.out HW_.out (by kernel_rfl)) (fun _ _ _ h => h) (Or.inl ⟨by rfl, ?_⟩) hHeld ?_ ?_
                  rotate_left
                  · rintro w' ⟨s0, s1, s2, s3, s4, s5⟩
                    go_simp
                    with_reducible rfl
                  rotate_left
                  · simp only [Act.put, List.setIfInBounds_toArray, List.set_cons_zero, List.set_cons_succ, i64_w, i32_w]
                    rfl
                  refine one_ (i := 0) (N := some 9) #[true, true, false, false, true, true, true, false, false, true, true, false, false, true, true, true, true, false, false, true, true, true, false, false, true, true, false, false, false] rfl rfl (one_of HT_.out (by kernel_rfl)) (by decide) (fun K hK => ?_)
                  refine goes_ Try.func54 (by kernel_rfl) rfl #[.int .u64 1, .int .i64 1] (by rfl) rfl rfl (by (try simp only [List.map_toArray, List.map_cons, List.map_nil]); first | done | rfl | (simp only [List.length_drop, List.length_take]; rfl)) ?_
                  with_reducible refine (aumbryref15_put.calls kj1 1 1 t204 _ A6.out).mono ?_
                  rintro e w20 ⟨rfl, hb⟩
                  refine ⟨_, rfl, ?_⟩
                  have n0_ := Aside0.mk (blk_below (g := gb203) (o := .cells #[.int .u64 a0_0, .string a0_1, .slice A0_2 l0_2.length c0_2, .int .i64 a0_3, .bool a0_4, .int .u64 a0_5] 76 (0, 0)) (by (with_reducible repeat (first | refine blk_drewN ?_ _ | refine blk_drew ?_ | refine blk_alloc ?_ _)); exact BK203.out) hb)
                  have n1_ := Aside0.mk (below_step (by repeat (first | (with_reducible first | exact HB.out | apply below_alloc | apply pw_below_drewN | apply below_drew1 | refine below_set ?_ GE203.out) | exact HB.out)) hb)
                  clear BK203
                  clear HB
                  have BK203 := n0_
                  have HB := n1_
                  clear n0_ n1_
                  (try clear hb)
                  (try clear hb2)
                  (try clear hk)
                  (try clear hi)
                  refine hK.out _ _ ⟨(blk_cell BK203.out 0).trans rfl, (blk_cell BK203.out 1).trans rfl, (blk_cell BK203.out 2).trans rfl, (blk_cell BK203.out 3).trans rfl, (blk_cell BK203.out 4).trans rfl, (blk_cell BK203.out 5).trans rfl⟩ (fun hHeld => ?_)
                  clear hK K
                  refine norm_ (a' := ?_) ?_ ?_
                  rotate_left
                  · show Act.put _ (some 9) _ = _
                    simp only [Act.put, List.setIfInBounds_toArray, List.set_cons_zero, List.set_cons_succ, i64_w, i32_w]
                    rfl
                  refine one_ (i := 2) (N := some 11) #[true, true, true, false, true, true, true, false, false, true, true, false, false, true, true, true, true, false, false, true, true, true, false, false, true, true, false, false, false] rfl rfl (one_of HT_.out (by kernel_rfl)) (by decide) (fun K hK => ?_)
                  refine goes_ Try.func54 (by kernel_rfl) rfl #[.int .u64 x3_1, .int .i64 1] (by rfl) rfl rfl (by (try simp only [List.map_toArray, List.map_cons, List.map_nil]); first | done | rfl | (simp only [List.length_drop, List.length_take]; rfl)) ?_
                  with_reducible refine (aumbryref15_put.calls kj1 x3_1 1 t205 _ A7.out).mono ?_
                  rintro e w21 ⟨rfl, hb⟩
                  refine ⟨_, rfl, ?_⟩
                  have n0_ := Aside0.mk (blk_below (g := gb203) (o := .cells #[.int .u64 a0_0, .string a0_1, .slice A0_2 l0_2.length c0_2, .int .i64 a0_3, .bool a0_4, .int .u64 a0_5] 76 (0, 0)) (by (with_reducible repeat (first | refine blk_drewN ?_ _ | refine blk_drew ?_ | refine blk_alloc ?_ _)); exact BK203.out) hb)
                  have n1_ := Aside0.mk (below_step (by repeat (first | (with_reducible first | exact HB.out | apply below_alloc | apply pw_below_drewN | apply below_drew1 | refine below_set ?_ GE203.out) | exact HB.out)) hb)
                  clear BK203
                  clear HB
                  have BK203 := n0_
                  have HB := n1_
                  clear n0_ n1_
                  (try clear hb)
                  (try clear hb2)
                  (try clear hk)
                  (try clear hi)
                  refine hK.out _ _ ⟨(blk_cell BK203.out 0).trans rfl, (blk_cell BK203.out 1).trans rfl, (blk_cell BK203.out 2).trans rfl, (blk_cell BK203.out 3).trans rfl, (blk_cell BK203.out 4).trans rfl, (blk_cell BK203.out 5).trans rfl⟩ (fun hHeld => ?_)
                  clear hK K
                  refine norm_ (a' := ?_) ?_ ?_
                  rotate_left
                  · show Act.put _ (some 11) _ = _
                    simp only [Act.put, List.setIfInBounds_toArray, List.set_cons_zero, List.set_cons_succ, i64_w, i32_w]
                    rfl
                  refine pure_ (i := 3) (N := some 12) (v := ?_) (a' := ?_) #[true, true, true, true, true, true, true, false, false, true, true, false, false, true, true, true, true, false, false, true, true, true, false, false, true, true, false, false, false] rfl rfl (any_of HT_.out (by kernel_rfl)) (fun _ _ _ h => h) (Or.inl ⟨by rfl, ?_⟩) ?_ ?_
                  rotate_left
                  · intro w'
                    go_simp
                    with_reducible rfl
                  rotate_left
                  · simp only [Act.put, List.setIfInBounds_toArray, List.set_cons_zero, List.set_cons_succ, i64_w, i32_w]
                    rfl
                  refine one_ (i := 7) (N := some 16) #[true, true, true, true, true, true, true, true, false, true, true, false, false, true, true, true, true, false, false, true, true, true, false, false, true, true, false, false, false] rfl rfl (one_of HT_.out (by kernel_rfl)) (by decide) (fun K hK => ?_)
                  refine goes_ Try.func54 (by kernel_rfl) rfl #[.int .u64 (Int.tmod a0_0 65536), .int .i64 2] (by rfl) rfl rfl (by (try simp only [List.map_toArray, List.map_cons, List.map_nil]); first | done | rfl | (simp only [List.length_drop, List.length_take]; rfl)) ?_
                  with_reducible refine (aumbryref15_put.calls kj1 (Int.tmod a0_0 65536) 2 t206 _ A9.out).mono ?_
                  rintro e w22 ⟨rfl, hb⟩
                  refine ⟨_, rfl, ?_⟩
                  have n0_ := Aside0.mk (blk_below (g := gb203) (o := .cells #[.int .u64 a0_0, .string a0_1, .slice A0_2 l0_2.length c0_2, .int .i64 a0_3, .bool a0_4, .int .u64 a0_5] 76 (0, 0)) (by (with_reducible repeat (first | refine blk_drewN ?_ _ | refine blk_drew ?_ | refine blk_alloc ?_ _)); exact BK203.out) hb)
                  have n1_ := Aside0.mk (below_step (by repeat (first | (with_reducible first | exact HB.out | apply below_alloc | apply pw_below_drewN | apply below_drew1 | refine below_set ?_ GE203.out) | exact HB.out)) hb)
                  clear BK203
                  clear HB
                  have BK203 := n0_
                  have HB := n1_
                  clear n0_ n1_
                  (try clear hb)
                  (try clear hb2)
                  (try clear hk)
                  (try clear hi)
                  refine hK.out _ _ ⟨(blk_cell BK203.out 0).trans rfl, (blk_cell BK203.out 1).trans rfl, (blk_cell BK203.out 2).trans rfl, (blk_cell BK203.out 3).trans rfl, (blk_cell BK203.out 4).trans rfl, (blk_cell BK203.out 5).trans rfl⟩ (fun hHeld => ?_)
                  clear hK K
                  refine norm_ (a' := ?_) ?_ ?_
                  rotate_left
                  · show Act.put _ (some 16) _ = _
                    simp only [Act.put, List.setIfInBounds_toArray, List.set_cons_zero, List.set_cons_succ, i64_w, i32_w]
                    rfl
                  refine pure_ (i := 8) (N := some 17) (v := ?_) (a' := ?_) #[true, true, true, true, true, true, true, true, true, true, true, false, false, true, true, true, true, false, false, true, true, true, false, false, true, true, false, false, false] rfl rfl (any_of HT_.out (by kernel_rfl)) (fun _ _ _ h => h) (Or.inl ⟨by rfl, ?_⟩) ?_ ?_
                  rotate_left
                  · intro w'
                    go_simp
                    with_reducible rfl
                  rotate_left
                  · simp only [Act.put, List.setIfInBounds_toArray, List.set_cons_zero, List.set_cons_succ, i64_w, i32_w]
                    rfl
                  refine one_ (i := 11) (N := some 20) #[true, true, true, true, true, true, true, true, true, true, true, true, false, true, true, true, true, false, false, true, true, true, false, false, true, true, false, false, false] rfl rfl (one_of HT_.out (by kernel_rfl)) (by decide) (fun K hK => ?_)
                  refine goes_ Try.func53 (by kernel_rfl) rfl #[.string a0_1] (by rfl) rfl rfl (by (try simp only [List.map_toArray, List.map_cons, List.map_nil]); first | done | rfl | (simp only [List.length_drop, List.length_take]; rfl)) ?_
                  with_reducible refine (aumbryref15_padded.calls a0_1 t207 _ A11.out).mono ?_
                  rintro e w23 ⟨rfl, hb⟩
                  refine ⟨_, rfl, ?_⟩
                  have n0_ := Aside0.mk (blk_below (g := gb203) (o := .cells #[.int .u64 a0_0, .string a0_1, .slice A0_2 l0_2.length c0_2, .int .i64 a0_3, .bool a0_4, .int .u64 a0_5] 76 (0, 0)) (by (with_reducible repeat (first | refine blk_drewN ?_ _ | refine blk_drew ?_ | refine blk_alloc ?_ _)); exact BK203.out) hb)
                  have n1_ := Aside0.mk (below_step (by repeat (first | (with_reducible first | exact HB.out | apply below_alloc | apply pw_below_drewN | apply below_drew1 | refine below_set ?_ GE203.out) | exact HB.out)) hb)
                  clear BK203
                  clear HB
                  have BK203 := n0_
                  have HB := n1_
                  clear n0_ n1_
                  (try clear hb)
                  (try clear hb2)
                  (try clear hk)
                  (try clear hi)
                  refine hK.out _ _ ⟨(blk_cell BK203.out 0).trans rfl, (blk_cell BK203.out 1).trans rfl, (blk_cell BK203.out 2).trans rfl, (blk_cell BK203.out 3).trans rfl, (blk_cell BK203.out 4).trans rfl, (blk_cell BK203.out 5).trans rfl⟩ (fun hHeld => ?_)
                  clear hK K
                  refine norm_ (a' := ?_) ?_ ?_
                  rotate_left
                  · show Act.put _ (some 20) _ = _
                    simp only [Act.put, List.setIfInBounds_toArray, List.set_cons_zero, List.set_cons_succ, i64_w, i32_w]
                    rfl
                  refine pure_ (i := 12) (N := some 21) (v := ?_) (a' := ?_) #[true, true, true, true, true, true, true, true, true, true, true, true, true, true, true, true, true, false, false, true, true, true, false, false, true, true, false, false, false] rfl rfl (any_of HT_.out (by kernel_rfl)) (fun _ _ _ h => h) (Or.inl ⟨by rfl, ?_⟩) ?_ ?_
                  rotate_left
                  · intro w'
                    go_simp
                    with_reducible rfl
                  rotate_left
                  · simp only [Act.put, List.setIfInBounds_toArray, List.set_cons_zero, List.set_cons_succ, i64_w, i32_w]
                    rfl
                  refine one_ (i := 17) (N := some 26) #[true, true, true, true, true, true, true, true, true, true, true, true, true, true, true, true, true, true, false, true, true, true, false, false, true, true, false, false, false] rfl rfl (one_of HT_.out (by kernel_rfl)) (by decide) (fun K hK => ?_)
                  refine goes_ Try.func54 (by kernel_rfl) rfl #[.int .u64 (IntKind.u64.wrap ((l0_2.length : Int))), .int .i64 1] (by rfl) rfl rfl (by (try simp only [List.map_toArray, List.map_cons, List.map_nil]); first | done | rfl | (simp only [List.length_drop, List.length_take]; rfl)) ?_
                  with_reducible refine (aumbryref15_put.calls kj1 (IntKind.u64.wrap ((l0_2.length : Int))) 1 t208 _ A13.out).mono ?_
                  rintro e w24 ⟨rfl, hb⟩
                  refine ⟨_, rfl, ?_⟩
                  have n0_ := Aside0.mk (blk_below (g := gb203) (o := .cells #[.int .u64 a0_0, .string a0_1, .slice A0_2 l0_2.length c0_2, .int .i64 a0_3, .bool a0_4, .int .u64 a0_5] 76 (0, 0)) (by (with_reducible repeat (first | refine blk_drewN ?_ _ | refine blk_drew ?_ | refine blk_alloc ?_ _)); exact BK203.out) hb)
                  have n1_ := Aside0.mk (below_step (by repeat (first | (with_reducible first | exact HB.out | apply below_alloc | apply pw_below_drewN | apply below_drew1 | refine below_set ?_ GE203.out) | exact HB.out)) hb)
                  clear BK203
                  clear HB
                  have BK203 := n0_
                  have HB := n1_
                  clear n0_ n1_
                  (try clear hb)
                  (try clear hb2)
                  (try clear hk)
                  (try clear hi)
                  refine hK.out _ _ ⟨(blk_cell BK203.out 0).trans rfl, (blk_cell BK203.out 1).trans rfl, (blk_cell BK203.out 2).trans rfl, (blk_cell BK203.out 3).trans rfl, (blk_cell BK203.out 4).trans rfl, (blk_cell BK203.out 5).trans rfl⟩ (fun hHeld => ?_)
                  clear hK K
                  refine norm_ (a' := ?_) ?_ ?_
                  rotate_left
                  · show Act.put _ (some 26) _ = _
                    simp only [Act.put, List.setIfInBounds_toArray, List.set_cons_zero, List.set_cons_succ, i64_w, i32_w]
                    rfl
                  refine pure_ (i := 18) (N := some 27) (v := ?_) (a' := ?_) #[true, true, true, true, true, true, true, true, true, true, true, true, true, true, true, true, true, true, true, true, true, true, false, false, true, true, false, false, false] rfl rfl (any_of HT_.out (by kernel_rfl)) (fun _ _ _ h => h) (Or.inl ⟨by rfl, ?_⟩) ?_ ?_
                  rotate_left
                  · intro w'
                    go_simp
                    with_reducible rfl
                  rotate_left
                  · simp only [Act.put, List.setIfInBounds_toArray, List.set_cons_zero, List.set_cons_succ, i64_w, i32_w]
                    rfl
                  refine one_ (i := 22) (N := some 31) #[true, true, true, true, true, true, true, true, true, true, true, true, true, true, true, true, true, true, true, true, true, true, true, false, true, true, false, false, false] rfl rfl (one_of HT_.out (by kernel_rfl)) (by decide) (fun K hK => ?_)
                  refine goes_ Try.func54 (by kernel_rfl) rfl #[.int .u64 (IntKind.u64.wrap (a0_3)), .int .i64 4] (by rfl) rfl rfl (by (try simp only [List.map_toArray, List.map_cons, List.map_nil]); first | done | rfl | (simp only [List.length_drop, List.length_take]; rfl)) ?_
                  with_reducible refine (aumbryref15_put.calls kj1 (IntKind.u64.wrap (a0_3)) 4 t209 _ A15.out).mono ?_
                  rintro e w25 ⟨rfl, hb⟩
                  refine ⟨_, rfl, ?_⟩
                  have n0_ := Aside0.mk (blk_below (g := gb203) (o := .cells #[.int .u64 a0_0, .string a0_1, .slice A0_2 l0_2.length c0_2, .int .i64 a0_3, .bool a0_4, .int .u64 a0_5] 76 (0, 0)) (by (with_reducible repeat (first | refine blk_drewN ?_ _ | refine blk_drew ?_ | refine blk_alloc ?_ _)); exact BK203.out) hb)
                  have n1_ := Aside0.mk (below_step (by repeat (first | (with_reducible first | exact HB.out | apply below_alloc | apply pw_below_drewN | apply below_drew1 | refine below_set ?_ GE203.out) | exact HB.out)) hb)
                  clear BK203
                  clear HB
                  have BK203 := n0_
                  have HB := n1_
                  clear n0_ n1_
                  (try clear hb)
                  (try clear hb2)
                  (try clear hk)
                  (try clear hi)
                  refine hK.out _ _ ⟨(blk_cell BK203.out 0).trans rfl, (blk_cell BK203.out 1).trans rfl, (blk_cell BK203.out 2).trans rfl, (blk_cell BK203.out 3).trans rfl, (blk_cell BK203.out 4).trans rfl, (blk_cell BK203.out 5).trans rfl⟩ (fun hHeld => ?_)
                  clear hK K
                  refine norm_ (a' := ?_) ?_ ?_
                  rotate_left
                  · show Act.put _ (some 31) _ = _
                    simp only [Act.put, List.setIfInBounds_toArray, List.set_cons_zero, List.set_cons_succ, i64_w, i32_w]
                    rfl
                  refine pure_ (i := 23) (N := some 32) (v := ?_) (a' := ?_) #[true, true, true, true, true, true, true, true, true, true, true, true, true, true, true, true, true, true, true, true, true, true, true, true, true, true, false, false, false] rfl rfl (any_of HT_.out (by kernel_rfl)) (fun _ _ _ h => h) (Or.inl ⟨by rfl, ?_⟩) ?_ ?_
                  rotate_left
                  · intro w'
                    go_simp
                    with_reducible rfl
                  rotate_left
                  · simp only [Act.put, List.setIfInBounds_toArray, List.set_cons_zero, List.set_cons_succ, i64_w, i32_w]
                    rfl
                  refine one_ (i := 26) (N := some 35) #[true, true, true, true, true, true, true, true, true, true, true, true, true, true, true, true, true, true, true, true, true, true, true, true, true, true, true, false, false] rfl rfl (one_of HT_.out (by kernel_rfl)) (by decide) (fun K hK => ?_)
                  refine goes_ Try.func54 (by kernel_rfl) rfl #[.int .u64 a0_5, .int .i64 6] (by rfl) rfl rfl (by (try simp only [List.map_toArray, List.map_cons, List.map_nil]); first | done | rfl | (simp only [List.length_drop, List.length_take]; rfl)) ?_
                  with_reducible refine (aumbryref15_put.calls kj1 a0_5 6 t210 _ A17.out).mono ?_
                  rintro e w26 ⟨rfl, hb⟩
                  refine ⟨_, rfl, ?_⟩
                  have n0_ := Aside0.mk (blk_below (g := gb203) (o := .cells #[.int .u64 a0_0, .string a0_1, .slice A0_2 l0_2.length c0_2, .int .i64 a0_3, .bool a0_4, .int .u64 a0_5] 76 (0, 0)) (by (with_reducible repeat (first | refine blk_drewN ?_ _ | refine blk_drew ?_ | refine blk_alloc ?_ _)); exact BK203.out) hb)
                  have n1_ := Aside0.mk (below_step (by repeat (first | (with_reducible first | exact HB.out | apply below_alloc | apply pw_below_drewN | apply below_drew1 | refine below_set ?_ GE203.out) | exact HB.out)) hb)
                  clear BK203
                  clear HB
                  have BK203 := n0_
                  have HB := n1_
                  clear n0_ n1_
                  (try clear hb)
                  (try clear hb2)
                  (try clear hk)
                  (try clear hi)
                  refine hK.out _ _ ⟨(blk_cell BK203.out 0).trans rfl, (blk_cell BK203.out 1).trans rfl, (blk_cell BK203.out 2).trans rfl, (blk_cell BK203.out 3).trans rfl, (blk_cell BK203.out 4).trans rfl, (blk_cell BK203.out 5).trans rfl⟩ (fun hHeld => ?_)
                  clear hK K
                  refine norm_ (a' := ?_) ?_ ?_
                  rotate_left
                  · show Act.put _ (some 35) _ = _
                    simp only [Act.put, List.setIfInBounds_toArray, List.set_cons_zero, List.set_cons_succ, i64_w, i32_w]
                    rfl
                  refine pure_ (i := 27) (N := some 36) (v := ?_) (a' := ?_) #[true, true, true, true, true, true, true, true, true, true, true, true, true, true, true, true, true, true, true, true, true, true, true, true, true, true, true, true, false] rfl rfl (any_of HT_.out (by kernel_rfl)) (fun _ _ _ h => h) (Or.inl ⟨by rfl, ?_⟩) ?_ ?_
                  rotate_left
                  · intro w'
                    go_simp
                    with_reducible rfl
                  rotate_left
                  · simp only [Act.put, List.setIfInBounds_toArray, List.set_cons_zero, List.set_cons_succ, i64_w, i32_w]
                    rfl
                  refine pure_ (i := 28) (N := some 4) (v := ?_) (a' := ?_) #[true, true, true, true, true, true, true, true, true, true, true, true, true, true, true, true, true, true, true, true, true, true, true, true, true, true, true, true, true] rfl rfl (any_of HT_.out (by kernel_rfl)) (fun _ _ _ h => h) (Or.inl ⟨by rfl, ?_⟩) ?_ ?_
                  rotate_left
                  · intro w'
                    go_simp
                    with_reducible rfl
                  rotate_left
                  · simp only [Act.put, List.setIfInBounds_toArray, List.set_cons_zero, List.set_cons_succ, i64_w, i32_w]
                    rfl
                  refine done_ (done_of HT_.out (by kernel_rfl)) ?_
                  try go_wp2
                  go_loopg [4, 5] kj1 (fun kq v4 v5 w' => ∃ (x4_2 : ByteArray) (x5_2 : Int), v4 = .string x4_2 ∧ v5 = .int .i64 x5_2 ∧ Aside0 (aumbryref15_slot.l0 kq x4_2 x5_2 a0_0 a0_1 l0_2 a0_3 a0_4 a0_5 = some r) ∧ Aside0 (kq ≤ kj1) ∧ Aside0 (w'.heap[gb203]? = some (.cells #[.int .u64 a0_0, .string a0_1, (.slice A0_2 l0_2.length c0_2), .int .i64 a0_3, .bool a0_4, .int .u64 a0_5] 76 (0, 0))) ∧ Aside0 (Below w.heap.size w w'))
                  case atStart => exact ⟨((((((t204 ++ t205) ++ t206) ++ t207) ++ t208) ++ t209) ++ t210), (0), (by first | rfl | (simp; done) | (simp [*]; done)), (by first | rfl | (simp; done) | (simp [*]; done)), H', ⟨Nat.le_refl _⟩, ⟨by (with_reducible repeat (first | refine blk_drewN ?_ _ | refine blk_drew ?_ | refine blk_alloc ?_ _)); exact BK203.out⟩, ⟨by repeat (first | (with_reducible first | exact HB.out | apply below_alloc | apply pw_below_drewN | apply below_drew1 | refine below_set ?_ GE203.out) | exact HB.out)⟩⟩
                  case round =>
                    clear H'
                    try clear c1
                    try clear p2
                    try clear c5
                    try clear c6
                    try clear c8
                    try clear c8b0
                    try clear c8b1
                    try clear c8b2
                    try clear c10
                    try clear c10b0
                    try clear c10b1
                    try clear c10b2
                    try clear c12
                    try clear c12b0
                    try clear c12b1
                    try clear c12b2
                    try clear c14
                    try clear c14b0
                    try clear c14b1
                    try clear c14b2
                    try clear c16
                    try clear c16b0
                    try clear c16b1
                    try clear c16b2
                    try clear c18
                    try clear c18b0
                    try clear c18b1
                    try clear c18b2
                    try clear hcz4_0
                    try clear hcz4_1
                    try clear hcz4_2
                    try clear hcz4_3
                    try clear hcz4_4
                    try clear hcz4_5
                    try clear hfz4_0
                    try clear hfz4_1
                    try clear hfz4_2
                    try clear hfz4_3
                    try clear hfz4_4
                    try clear hfz4_5
                    try clear p2
                    obtain ⟨x4_2, x5_2, rfl, rfl, HA, HK2, BK203, HB⟩ := hrel
                    cases gk with
                    | zero => exact absurd HA.out (by simp [aumbryref15_slot.l0])
                    | succ k2 =>
                      have H := HA.out
                      clear HA
                      simp only [aumbryref15_slot.l0] at H
                      by_cases c27 : x5_2 < 4
                      · rw [if_pos c27] at H
                        have c27b0 : decide (x5_2 < 4) = true := decide_eq_true c27
                        clear c27
                        by_cases c28 : x5_2 < (l0_2.length : Int)
                        · rw [if_pos c28] at H
                          have c28b0 : decide (x5_2 < (l0_2.length : Int)) = true := decide_eq_true c28
                          clear c28
                          by_cases c29 : 0 ≤ x5_2
                          · rw [if_pos c29] at H
                            have c29b0 : decide (0 ≤ x5_2) = true := decide_eq_true c29
                            clear c29
                            replace H := Option.bind_eq_some_iff.mp H
                            obtain ⟨t212, A300, H⟩ := H
                            replace H : (if x4_2.size + t212.size ≤ 9223372036854775807 then (aumbryref15_slot.l0 k2 (x4_2 ++ t212) (wrap64 (x5_2 + 1)) a0_0 a0_1 l0_2 a0_3 a0_4 a0_5) else (none)) = some r := H
                            have A30 := Aside0.mk A300
                            clear A300
                            by_cases c31 : x4_2.size + t212.size ≤ 9223372036854775807
                            · rw [if_pos c31] at H
                              have c31b0 := eq_true c31
                              have c31b1 : decide (x4_2.size + t212.size ≤ 9223372036854775807) = true := decide_eq_true c31
                              try have c31b2 : (9223372036854775807 < x4_2.size + t212.size) = False := eq_false (Nat.not_lt.2 c31)
                              try (have c31b3 : (9223372036854775807 < x4_2.size + t212.size) = False := eq_false (Nat.not_lt.2 c31); simp only [ByteArray.size_append] at c31b3)
                              clear c31
                              have H' := Aside0.mk H
                              clear H
                              have hcz32_0 : wr.cell? ⟨gb203, 0, none⟩ = some (.int .u64 a0_0) := (blk_cell BK203.out 0).trans rfl
                              have hcz32_1 : wr.cell? ⟨gb203, 1, none⟩ = some (.string a0_1) := (blk_cell BK203.out 1).trans rfl
                              have hcz32_2 : wr.cell? ⟨gb203, 2, none⟩ = some (.slice A0_2 l0_2.length c0_2) := (blk_cell BK203.out 2).trans rfl
                              have hcz32_3 : wr.cell? ⟨gb203, 3, none⟩ = some (.int .i64 a0_3) := (blk_cell BK203.out 3).trans rfl
                              have hcz32_4 : wr.cell? ⟨gb203, 4, none⟩ = some (.bool a0_4) := (blk_cell BK203.out 4).trans rfl
                              have hcz32_5 : wr.cell? ⟨gb203, 5, none⟩ = some (.int .u64 a0_5) := (blk_cell BK203.out 5).trans rfl
                              have hfz32_0 := blk_frozen BK203.out 0
                              have hfz32_1 := blk_frozen BK203.out 1
                              have hfz32_2 := blk_frozen BK203.out 2
                              have hfz32_3 := blk_frozen BK203.out 3
                              have hfz32_4 := blk_frozen BK203.out 4
                              have hfz32_5 := blk_frozen BK203.out 5
                              have p211 : 0 ≤ (x5_2 : Int) := of_decide_eq_true (by first | (with_reducible assumption) | assumption)
                              have q211 : x5_2 < (l0_2.length : Int) := of_decide_eq_true (by first | (with_reducible assumption) | assumption)
                              obtain ⟨ad211, e211, hx211_0⟩ := Kd.at_int HR0_2.out x5_2 p211 q211
                              cases e211
                              replace hx211_0 := (HB.out.cell (World.block_lt_of_cell? w _ hx211_0)).trans hx211_0
                              replace p211 := eq_true p211
                              replace q211 := eq_true q211
                              go_wp2_with (first | ((with_reducible refine gate_callee (f := 54) rfl ?_); refine goesL_ (some 53) rfl rfl Try.func54 (by kernel_rfl) rfl #[.int .u64 (rd l0_2 x5_2), .int .i64 6] rfl (by (try simp only [List.map_toArray, List.map_cons, List.map_nil]); first | done | rfl | (simp only [List.length_drop, List.length_take]; rfl)) ?_; (with_reducible refine (aumbryref15_put.calls k2 (rd l0_2 x5_2) 6 t212 _ A30.out).mono ?_); rintro e w33 ⟨rfl, hb⟩; refine ⟨_, rfl, ?_⟩; have n0_ := Aside0.mk (blk_below (g := gb203) (o := .cells #[.int .u64 a0_0, .string a0_1, .slice (some ad211) l0_2.length c0_2, .int .i64 a0_3, .bool a0_4, .int .u64 a0_5] 76 (0, 0)) (by (with_reducible repeat (first | refine blk_drewN ?_ _ | refine blk_drew ?_ | refine blk_alloc ?_ _)); exact BK203.out) hb); have n1_ := Aside0.mk (below_step (by repeat (first | (with_reducible first | exact HB.out | apply below_alloc | apply pw_below_drewN | apply below_drew1 | refine below_set ?_ GE203.out) | exact HB.out)) hb); clear BK203; clear HB; have BK203 := n0_; have HB := n1_; clear n0_ n1_; (try clear hb); (try clear hb2); (try clear hk); (try clear hi)))
                              go_roundg k2
                              case measure => have := HJ1.out; have := HK2.out; omega
                              case rel => exact ⟨(x4_2 ++ t212), (wrap64 (x5_2 + 1)), (by first | rfl | (simp; done) | (simp [*]; done)), (by first | rfl | (simp; done) | (simp [*]; done)), H', ⟨by have := HJ1.out; have := HK2.out; omega⟩, ⟨by (with_reducible repeat (first | refine blk_drewN ?_ _ | refine blk_drew ?_ | refine blk_alloc ?_ _)); exact BK203.out⟩, ⟨by repeat (first | (with_reducible first | exact HB.out | apply below_alloc | apply pw_below_drewN | apply below_drew1 | refine below_set ?_ GE203.out) | exact HB.out)⟩⟩
                            · rw [if_neg c31] at H
                              exact absurd H (by simp)
                          · rw [if_neg c29] at H
                            exact absurd H (by simp)
                        · rw [if_neg c28] at H
                          have c28b0 : decide (x5_2 < (l0_2.length : Int)) = false := decide_eq_false c28
                          clear c28
                          replace H := Option.bind_eq_some_iff.mp H
                          obtain ⟨t213, A340, H⟩ := H
                          replace H : (if x4_2.size + t213.size ≤ 9223372036854775807 then (aumbryref15_slot.l0 k2 (x4_2 ++ t213) (wrap64 (x5_2 + 1)) a0_0 a0_1 l0_2 a0_3 a0_4 a0_5) else (none)) = some r := H
                          have A34 := Aside0.mk A340
                          clear A340
                          by_cases c35 : x4_2.size + t213.size ≤ 9223372036854775807
                          · rw [if_pos c35] at H
                            have c35b0 := eq_true c35
                            have c35b1 : decide (x4_2.size + t213.size ≤ 9223372036854775807) = true := decide_eq_true c35
                            try have c35b2 : (9223372036854775807 < x4_2.size + t213.size) = False := eq_false (Nat.not_lt.2 c35)
                            try (have c35b3 : (9223372036854775807 < x4_2.size + t213.size) = False := eq_false (Nat.not_lt.2 c35); simp only [ByteArray.size_append] at c35b3)
                            clear c35
                            have H' := Aside0.mk H
                            clear H
                            have hcz36_0 : wr.cell? ⟨gb203, 0, none⟩ = some (.int .u64 a0_0) := (blk_cell BK203.out 0).trans rfl
                            have hcz36_1 : wr.cell? ⟨gb203, 1, none⟩ = some (.string a0_1) := (blk_cell BK203.out 1).trans rfl
                            have hcz36_2 : wr.cell? ⟨gb203, 2, none⟩ = some (.slice A0_2 l0_2.length c0_2) := (blk_cell BK203.out 2).trans rfl
                            have hcz36_3 : wr.cell? ⟨gb203, 3, none⟩ = some (.int .i64 a0_3) := (blk_cell BK203.out 3).trans rfl
                            have hcz36_4 : wr.cell? ⟨gb203, 4, none⟩ = some (.bool a0_4) := (blk_cell BK203.out 4).trans rfl
                            have hcz36_5 : wr.cell? ⟨gb203, 5, none⟩ = some (.int .u64 a0_5) := (blk_cell BK203.out 5).trans rfl
                            have hfz36_0 := blk_frozen BK203.out 0
                            have hfz36_1 := blk_frozen BK203.out 1
                            have hfz36_2 := blk_frozen BK203.out 2
                            have hfz36_3 := blk_frozen BK203.out 3
                            have hfz36_4 := blk_frozen BK203.out 4
                            have hfz36_5 := blk_frozen BK203.out 5
                            go_wp2_with (first | ((with_reducible refine gate_callee (f := 54) rfl ?_); refine goesL_ (some 53) rfl rfl Try.func54 (by kernel_rfl) rfl #[.int .u64 0, .int .i64 6] rfl (by (try simp only [List.map_toArray, List.map_cons, List.map_nil]); first | done | rfl | (simp only [List.length_drop, List.length_take]; rfl)) ?_; (with_reducible refine (aumbryref15_put.calls k2 0 6 t213 _ A34.out).mono ?_); rintro e w37 ⟨rfl, hb⟩; refine ⟨_, rfl, ?_⟩; have n0_ := Aside0.mk (blk_below (g := gb203) (o := .cells #[.int .u64 a0_0, .string a0_1, .slice A0_2 l0_2.length c0_2, .int .i64 a0_3, .bool a0_4, .int .u64 a0_5] 76 (0, 0)) (by (with_reducible repeat (first | refine blk_drewN ?_ _ | refine blk_drew ?_ | refine blk_alloc ?_ _)); exact BK203.out) hb); have n1_ := Aside0.mk (below_step (by repeat (first | (with_reducible first | exact HB.out | apply below_alloc | apply pw_below_drewN | apply below_drew1 | refine below_set ?_ GE203.out) | exact HB.out)) hb); clear BK203; clear HB; have BK203 := n0_; have HB := n1_; clear n0_ n1_; (try clear hb); (try clear hb2); (try clear hk); (try clear hi)))
                            go_roundg k2
                            case measure => have := HJ1.out; have := HK2.out; omega
                            case rel => exact ⟨(x4_2 ++ t213), (wrap64 (x5_2 + 1)), (by first | rfl | (simp; done) | (simp [*]; done)), (by first | rfl | (simp; done) | (simp [*]; done)), H', ⟨by have := HJ1.out; have := HK2.out; omega⟩, ⟨by (with_reducible repeat (first | refine blk_drewN ?_ _ | refine blk_drew ?_ | refine blk_alloc ?_ _)); exact BK203.out⟩, ⟨by repeat (first | (with_reducible first | exact HB.out | apply below_alloc | apply pw_below_drewN | apply below_drew1 | refine below_set ?_ GE203.out) | exact HB.out)⟩⟩
                          · rw [if_neg c35] at H
                            exact absurd H (by simp)
                      · rw [if_neg c27] at H
                        have c27b0 : decide (x5_2 < 4) = false := decide_eq_false c27
                        clear c27
                        replace H := Option.bind_eq_some_iff.mp H
                        obtain ⟨t214, A380, H⟩ := H
                        replace H : (if x4_2.size + t214.size ≤ 9223372036854775807 then (some (x4_2 ++ t214)) else (none)) = some r := H
                        have A38 := Aside0.mk A380
                        clear A380
                        by_cases c39 : x4_2.size + t214.size ≤ 9223372036854775807
                        · rw [if_pos c39] at H
                          have c39b0 := eq_true c39
                          have c39b1 : decide (x4_2.size + t214.size ≤ 9223372036854775807) = true := decide_eq_true c39
                          try have c39b2 : (9223372036854775807 < x4_2.size + t214.size) = False := eq_false (Nat.not_lt.2 c39)
                          try (have c39b3 : (9223372036854775807 < x4_2.size + t214.size) = False := eq_false (Nat.not_lt.2 c39); simp only [ByteArray.size_append] at c39b3)
                          clear c39
                          obtain rfl := Option.some.inj H
                          go_wp2_with (first | ((with_reducible refine gate_callee (f := 54) rfl ?_); refine goesL_ (some 56) rfl rfl Try.func54 (by kernel_rfl) rfl #[.int .u64 0, .int .i64 1] rfl (by (try simp only [List.map_toArray, List.map_cons, List.map_nil]); first | done | rfl | (simp only [List.length_drop, List.length_take]; rfl)) ?_; (with_reducible refine (aumbryref15_put.calls k2 0 1 t214 _ A38.out).mono ?_); rintro e w40 ⟨rfl, hb⟩; refine ⟨_, rfl, ?_⟩; have n0_ := Aside0.mk (blk_below (g := gb203) (o := .cells #[.int .u64 a0_0, .string a0_1, .slice A0_2 l0_2.length c0_2, .int .i64 a0_3, .bool a0_4, .int .u64 a0_5] 76 (0, 0)) (by (with_reducible repeat (first | refine blk_drewN ?_ _ | refine blk_drew ?_ | refine blk_alloc ?_ _)); exact BK203.out) hb); have n1_ := Aside0.mk (below_step (by repeat (first | (with_reducible first | exact HB.out | apply below_alloc | apply pw_below_drewN | apply below_drew1 | refine below_set ?_ GE203.out) | exact HB.out)) hb); clear BK203; clear HB; have BK203 := n0_; have HB := n1_; clear n0_ n1_; (try clear hb); (try clear hb2); (try clear hk); (try clear hi)))
                          go_ret
                          exact ⟨by first | rfl | (simp [errW_none, errW_some] <;> rfl) | (simp [*, errW_none, errW_some] <;> rfl), by repeat (first | (with_reducible first | exact HB.out | apply below_alloc | apply pw_below_drewN | apply below_drew1 | refine below_set ?_ GE203.out) | exact HB.out)⟩
                        · rw [if_neg c39] at H
                          exact absurd H (by simp)
                · rw [if_neg c18] at H
                  exact absurd H (by simp)
              · rw [if_neg c16] at H
                exact absurd H (by simp)
            · rw [if_neg c14] at H
              exact absurd H (by simp)
          · rw [if_neg c12] at H
            exact absurd H (by simp)
        · rw [if_neg c10] at H
          exact absurd H (by simp)
      · rw [if_neg c8] at H
        exact absurd H (by simp)

end Go.Proofs.Ytdieanikopjbjaa.QSlotUn
