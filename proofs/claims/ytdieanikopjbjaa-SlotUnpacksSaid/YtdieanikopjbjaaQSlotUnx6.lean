/- Written by a program of this session out of the translation: Lean functions with the same answers as the Go functions, and the walks that show it. -/
import Derived.Test.YtdieanikopjbjaaQSlotUnx0
import Derived.Test.YtdieanikopjbjaaQSlotUnx2
import Derived.Test.YtdieanikopjbjaaQSlotUnx4
import Derived.Test.YtdieanikopjbjaaQSlotUnx5
namespace Go.Proofs.Ytdieanikopjbjaa.QSlotUn
open Go.RowKit Go.Proofs.YtdieanikopjbjaaW.PrintWords Go.Proofs.YtdieanikopjbjaaW.PrintLast Go.Proofs.YtdieanikopjbjaaW.PrintMore
attribute [local go_sem] max2_int min2_int max_two min_two max_three min_three max_four min_four
attribute [local go_sem high] StepStr.leq_str StepStr.gtr_str
set_option linter.unusedVariables false
set_option linter.unusedSimpArgs false

/-! ### slot_Unpack: function 39 -/
def slot_Unpack.l0 : Nat → ByteArray → Int → Int → Int → List (S76) → Option (Int × Int × (List (S76)) × Int)
  | 0, _, _, _, _, _ => none
  | k + 1, x0, x7, x137000, x137001, x137002 => if x7 < 256 then (if 0 ≤ x7 then (if x7 < (x0.size : Int) then (if (bt x0 x7) = 1 then (if x7 ≤ (wrap64 (x7 + 48)) then (if (wrap64 (x7 + 48)) ≤ (x0.size : Int) then ((slot_read.f k (x0.extract (x7 : Int).toNat ((wrap64 (x7 + 48)) : Int).toNat)).bind fun bt137 => (if x137002.length < 1954687338268 then (slot_Unpack.l0 k x0 (wrap64 (x7 + 48)) x137000 x137001 (x137002 ++ [(⟨bt137.1, bt137.2.1, bt137.2.2.1, bt137.2.2.2.1, bt137.2.2.2.2.1, bt137.2.2.2.2.2⟩ : S76)])) else (none))) else (none)) else (none)) else ((slot_Pack.f k x137000 x137001 x137002).bind fun bt148 => (if bt148.2 = 0 then (if bt148.1.toList = x0.toList then (some (x137000, x137001, x137002, 0)) else (some (0, 0, ([] : List (S76)), 3))) else (some (0, 0, ([] : List (S76)), 3))))) else (none)) else (none)) else ((slot_Pack.f k x137000 x137001 x137002).bind fun bt150 => (if bt150.2 = 0 then (if bt150.1.toList = x0.toList then (some (x137000, x137001, x137002, 0)) else (some (0, 0, ([] : List (S76)), 3))) else (some (0, 0, ([] : List (S76)), 3))))
def slot_Unpack.f (k : Nat) (a0 : ByteArray) : Option (Int × Int × (List (S76)) × Int) := if (a0.size : Int) = 256 then ((num_Get.f k a0 2 2).bind fun bt134 => (if 1 < (a0.size : Int) then (slot_Unpack.l0 k a0 16 (wrap64 (bt a0 1)) (wrap64 (bt134.1)) ([] : List (S76))) else (none))) else (some (0, 0, ([] : List (S76)), 3))
theorem slot_Unpack.mono_l : ∀ k, (∀ y0 y1 y2 y3 y4, LeO (slot_Unpack.l0 k y0 y1 y2 y3 y4) (slot_Unpack.l0 (k + 1) y0 y1 y2 y3 y4))
  | 0 => fun _ _ _ _ _ r h => by simp [slot_Unpack.l0] at h
  | k + 1 => by
    have ih0 := slot_Unpack.mono_l k
    · intro y0 y1 y2 y3 y4
      unfold slot_Unpack.l0
      repeat' first
      | (with_reducible exact ih0 _ _ _ _ _)
      | (with_reducible exact num_Get.mono _ _ _ _)
      | (with_reducible exact slot_Pack.mono _ _ _ _)
      | (with_reducible exact slot_read.mono _ _)
      | (with_reducible exact LeO.refl _)
      | (with_reducible exact LeO.none _)
      | (with_reducible refine LeO.ite ?_ ?_)
      | (with_reducible refine LeO.bind ?_ (fun _ => ?_))
      | exact ih0 _ _ _ _ _
      | exact num_Get.mono _ _ _ _
      | exact slot_Pack.mono _ _ _ _
      | exact slot_read.mono _ _
      | exact LeO.none _
      | refine LeO.ite ?_ ?_
      | refine LeO.bind ?_ (fun _ => ?_)
theorem slot_Unpack.mono : ∀ a0 k, LeO (slot_Unpack.f k a0) (slot_Unpack.f (k + 1) a0) := by
  intro a0 k
  have ih0 := slot_Unpack.mono_l k
  unfold slot_Unpack.f
  repeat' first
      | (with_reducible exact ih0 _ _ _ _ _)
      | (with_reducible exact num_Get.mono _ _ _ _)
      | (with_reducible exact slot_Pack.mono _ _ _ _)
      | (with_reducible exact slot_read.mono _ _)
      | (with_reducible exact LeO.refl _)
      | (with_reducible exact LeO.none _)
      | (with_reducible refine LeO.ite ?_ ?_)
      | (with_reducible refine LeO.bind ?_ (fun _ => ?_))
      | exact ih0 _ _ _ _ _
      | exact num_Get.mono _ _ _ _
      | exact slot_Pack.mono _ _ _ _
      | exact slot_read.mono _ _
      | exact LeO.none _
      | refine LeO.ite ?_ ?_
      | refine LeO.bind ?_ (fun _ => ?_)
def slot_Unpack.T8 : Bool × List (List Nat × List Nat) := (true, [([], []), ([0], [0]), ([], []), ([], []), ([], []), ([4], [4]), ([2, 3, 5], [2, 3, 5]), ([6], [6]), ([7], [7]), ([1, 8, 7], [1, 8]), ([0, 1, 2, 3, 4, 5, 6, 7, 8, 9], []), ([10, 9, 9, 0, 1, 2, 3, 4, 5, 6, 7, 8, 9], [9, 10])])
def slot_Unpack.B8 : List Nat := [0, 1, 0, 0, 0, 16, 60, 124, 252, 511, 1023, 2047]
theorem slot_Unpack.tab8 : rtab .any (opsOf Try.f39 8) = slot_Unpack.T8 := by kernel_rfl
theorem slot_Unpack.bits8 : waitsOk slot_Unpack.T8.2 slot_Unpack.B8 = true := by kernel_rfl
set_option maxHeartbeats 8000000 in
set_option maxRecDepth 100000 in
theorem slot_Unpack.calls (k : Nat) (a0 : ByteArray) (r1 : Int) (r2 : Int) (r3 : List (S76)) (r4 : Int) (w : World) (h : slot_Unpack.f k a0 = some (r1, r2, r3, r4)) :
    Calls Try.prog 39 #[.string a0] w fun e w' => ∃ v2_ : Value, e = .returned (.tuple #[.agg #[.int .i64 r1, .int .i64 r2, v2_], .int .i64 r4]) ∧ Kd.S k76 76 w' w.heap.size (fun _ => True) v2_ r3 ∧ Below w.heap.size w w' := by
  have hu64 := Try.underlying64
  have HB := Aside0.mk (Below.refl w.heap.size w)
  have H : (if (a0.size : Int) = 256 then ((num_Get.f k a0 2 2).bind fun bt134 => (if 1 < (a0.size : Int) then (slot_Unpack.l0 k a0 16 (wrap64 (bt a0 1)) (wrap64 (bt134.1)) ([] : List (S76))) else (none))) else (some (0, 0, ([] : List (S76)), 3))) = some (r1, r2, r3, r4) := h
  clear h
  by_cases c2 : (a0.size : Int) = 256
  · rw [if_pos c2] at H
    have c2b0 : ((a0.size : Int) == 256) = true := beq_iff_eq.mpr c2
    have c2b1 : ((a0.size : Int) != 256) = false := bne_eq_false_iff_eq.mpr c2
    clear c2
    replace H := Option.bind_eq_some_iff.mp H
    obtain ⟨⟨t134, t135⟩, A30, H⟩ := H
    replace H : (if 1 < (a0.size : Int) then (slot_Unpack.l0 k a0 16 (wrap64 (bt a0 1)) (wrap64 (t134)) ([] : List (S76))) else (none)) = some (r1, r2, r3, r4) := H
    have A3 := Aside0.mk A30
    clear A30
    by_cases c4 : 1 < (a0.size : Int)
    · rw [if_pos c4] at H
      have c4b0 : decide (1 < (a0.size : Int)) = true := decide_eq_true c4
      have c4b1 : decide (1 < a0.size) = true := decide_eq_true (by omega)
      clear c4
      have H' := Aside0.mk H
      clear H
      go_enter Try.func39, Try.ntmps39
      go_wp2_with (first | ((with_reducible refine gate_dst (N := 2) rfl ?_); refine box_event ?hg (N := 2) ?hd (cs := #[.int .i64 0, .int .i64 0, .slice none 0 0]) (t := 64) ?hr ?_; (case hd => rfl); (case hg => rfl); (case hr => first | (go_simp; done) | (go_simp; rfl)); intro gb133 hg w6 hbox hb; have n0_ := Aside0.mk (below_step (by repeat (first | (with_reducible first | exact HB.out | apply below_alloc | apply pw_below_drewN | apply below_drew1) | exact HB.out)) hb); have n1_ := Aside0.mk (hbox); have n2_ := Aside0.mk ((by rw [hg]; exact (below_size (by repeat (first | (with_reducible first | exact HB.out | apply below_alloc | apply pw_below_drewN | apply below_drew1) | exact HB.out))) : w.heap.size ≤ gb133)); have n3_ := Aside0.mk ((by rw [hg]; exact (below_size (by repeat (first | (with_reducible first | exact HB.out | apply below_alloc | apply pw_below_drewN | apply below_drew1) | exact HB.out))) : w.heap.size ≤ gb133)); clear HB; have HB := n0_; have BK133 := n1_; have GW133 := n2_; have GE133 := n3_; clear n0_ n1_ n2_ n3_; clear hb hbox hg) | ((with_reducible refine gate_callee (f := 63) rfl ?_); refine goesL_ (some 16) rfl rfl Try.func63 (by kernel_rfl) rfl #[.string a0, .int .i64 2, .int .i64 2] rfl (by (try simp only [List.map_toArray, List.map_cons, List.map_nil]); first | done | rfl | (simp only [List.length_drop, List.length_take]; rfl)) ?_; (with_reducible refine (num_Get.calls k a0 2 2 t134 t135 _ A3.out).mono ?_); rintro e w' ⟨rfl, ⟨nd, rfl⟩⟩; refine ⟨_, rfl, ?_⟩; (try (rw [drewN_self w6]; generalize hq_ : World.drewN w6 _ = w6; have n0_ : Aside0 (w6.heap[gb133]? = some (.cells #[.int .i64 0, .int .i64 0, .slice none 0 0] 64 (0, 0))) := ⟨by rw [← hq_]; exact (by (with_reducible repeat (first | refine blk_drewN ?_ _ | refine blk_drew ?_ | refine blk_alloc ?_ _)); exact BK133.out)⟩; have n1_ : Aside0 (Below w.heap.size w w6) := ⟨by rw [← hq_]; exact (by repeat (first | (with_reducible first | exact HB.out | apply below_alloc | apply pw_below_drewN | apply below_drew1 | refine below_set ?_ GE133.out) | exact HB.out))⟩; clear BK133 HB hq_; have BK133 := n0_; have HB := n1_; clear n0_ n1_)); have p5 : 0 ≤ (1 : Int) := (by omega); have q5 : 1 < a0.size := (by have : (1 : Int) < (a0.size : Int) := of_decide_eq_true (by first | (with_reducible assumption) | assumption); omega); have hx5 : ∀ h : 1 < a0.size, ((a0[1]'h).toNat : Int) = bt a0 1 := bt_at a0 1; clear p5; have qi5 : (1 < (a0.size : Int)) = True := eq_true (of_decide_eq_true (by first | (with_reducible assumption) | assumption)); replace q5 := eq_true q5) | ((with_reducible refine gate_dst (N := 6) rfl ?_); refine box_event ?hg (N := 6) ?hd (cs := #[.int .i64 0, .int .i64 0, .slice none 0 0]) (t := 64) ?hr ?_; (case hd => rfl); (case hg => rfl); (case hr => first | (go_simp; done) | (go_simp; rfl)); intro gb136 hg w7 hbox hb; have n0_ := Aside0.mk (blk_below (g := gb133) (o := .cells #[.int .i64 0, .int .i64 0, .slice none 0 0] 64 (0, 0)) (by (with_reducible repeat (first | refine blk_drewN ?_ _ | refine blk_drew ?_ | refine blk_alloc ?_ _)); exact BK133.out) hb); have n1_ := Aside0.mk (below_step (by repeat (first | (with_reducible first | exact HB.out | apply below_alloc | apply pw_below_drewN | apply below_drew1 | refine below_set ?_ GE133.out) | exact HB.out)) hb); have n2_ := Aside0.mk (hbox); have n3_ := Aside0.mk ((by rw [hg]; exact (below_size (by repeat (first | (with_reducible first | exact HB.out | apply below_alloc | apply pw_below_drewN | apply below_drew1 | refine below_set ?_ GE133.out) | exact HB.out))) : w.heap.size ≤ gb136)); have n4_ := Aside0.mk ((by rw [hg]; exact (below_size (by repeat (first | (with_reducible first | exact HB.out | apply below_alloc | apply pw_below_drewN | apply below_drew1 | refine below_set ?_ GE133.out) | exact HB.out))) : w.heap.size ≤ gb136)); have n5_ := Aside0.mk ((by rw [hg]; exact Nat.ne_of_lt (blk_lt (g := gb133) (o := .cells #[.int .i64 0, .int .i64 0, .slice none 0 0] 64 (0, 0)) (by (with_reducible repeat (first | refine blk_drewN ?_ _ | refine blk_drew ?_ | refine blk_alloc ?_ _)); exact BK133.out)) : gb133 ≠ gb136)); have n6_ := Aside0.mk ((by rw [hg]; exact Nat.ne_of_gt (blk_lt (g := gb133) (o := .cells #[.int .i64 0, .int .i64 0, .slice none 0 0] 64 (0, 0)) (by (with_reducible repeat (first | refine blk_drewN ?_ _ | refine blk_drew ?_ | refine blk_alloc ?_ _)); exact BK133.out)) : gb136 ≠ gb133)); clear BK133; clear HB; have BK133 := n0_; have HB := n1_; have BK136 := n2_; have GW136 := n3_; have GE136 := n4_; have NB133_136 := n5_; have NB136_133 := n6_; clear n0_ n1_ n2_ n3_ n4_ n5_ n6_; clear hb hbox hg; have hnb8 := NB136_133.out; have hnc8 := NB133_136.out; have hcz9_0 : w7.cell? ⟨gb136, 0, none⟩ = some (.int .i64 0) := (blk_cell BK136.out 0).trans rfl; have hcz9_1 : w7.cell? ⟨gb136, 1, none⟩ = some (.int .i64 0) := (blk_cell BK136.out 1).trans rfl; have hcz9_2 : w7.cell? ⟨gb136, 2, none⟩ = some (.slice none 0 0) := (blk_cell BK136.out 2).trans rfl; have hfz9_0 := blk_frozen BK136.out 0; have hfz9_1 := blk_frozen BK136.out 1; have hfz9_2 := blk_frozen BK136.out 2))
      go_loopg [7] k (fun kq v7 w' => ∃ (x7_1 : Int) (x137002_1 : List (S76)) (u137002 : Value), v7 = .int .i64 x7_1 ∧ Aside0 (slot_Unpack.l0 kq a0 x7_1 (wrap64 (bt a0 1)) (wrap64 (t134)) x137002_1 = some (r1, r2, r3, r4)) ∧ Aside0 (kq ≤ k) ∧ Aside0 (Kd.S k76 76 w' w.heap.size (fun _ => True) u137002 x137002_1) ∧ Aside0 (w'.heap[gb133]? = some (.cells #[.int .i64 0, .int .i64 0, (.slice none 0 0)] 64 (0, 0))) ∧ Aside0 (w'.heap[gb136]? = some (.cells #[.int .i64 (wrap64 (bt a0 1)), .int .i64 (wrap64 (t134)), u137002] 64 (0, 0))) ∧ Aside0 (Below w.heap.size w w'))
      case atStart => exact ⟨(16), (([] : List (S76))), (.slice none 0 0), (by first | rfl | (simp; done) | (simp [*]; done)), H', ⟨Nat.le_refl _⟩, ⟨by first | exact Kd.S_nil _ _ _ _ _ | exact Kd.N_nil _ _ _ _ _ | exact Kd.V_nil _ _ _ _ _ | exact Kd.Q_nil _ _ _ _ _ | exact Kd.R_nil _ _ _ _ _⟩, ⟨by (with_reducible repeat (first | refine blk_drewN ?_ _ | refine blk_drew ?_ | refine blk_alloc ?_ _)); refine blk_far ?_ NB133_136.out _; (with_reducible repeat (first | refine blk_drewN ?_ _ | refine blk_drew ?_ | refine blk_alloc ?_ _)); refine blk_far ?_ NB133_136.out _; (with_reducible repeat (first | refine blk_drewN ?_ _ | refine blk_drew ?_ | refine blk_alloc ?_ _)); refine blk_far ?_ NB133_136.out _; (with_reducible repeat (first | refine blk_drewN ?_ _ | refine blk_drew ?_ | refine blk_alloc ?_ _)); exact BK133.out⟩, ⟨by (with_reducible repeat (first | refine blk_drewN ?_ _ | refine blk_drew ?_ | refine blk_alloc ?_ _)); refine blk_put (cs := #[.int .i64 (wrap64 (bt a0 1)), .int .i64 (wrap64 (t134)), .slice none 0 0]) ?_ 2 _ rfl; (with_reducible repeat (first | refine blk_drewN ?_ _ | refine blk_drew ?_ | refine blk_alloc ?_ _)); refine blk_put (cs := #[.int .i64 (wrap64 (bt a0 1)), .int .i64 0, .slice none 0 0]) ?_ 1 _ rfl; (with_reducible repeat (first | refine blk_drewN ?_ _ | refine blk_drew ?_ | refine blk_alloc ?_ _)); refine blk_put (cs := #[.int .i64 0, .int .i64 0, .slice none 0 0]) ?_ 0 _ rfl; (with_reducible repeat (first | refine blk_drewN ?_ _ | refine blk_drew ?_ | refine blk_alloc ?_ _)); exact BK136.out⟩, ⟨by repeat (first | (with_reducible first | exact HB.out | apply below_alloc | apply pw_below_drewN | apply below_drew1 | refine below_set ?_ GE133.out | refine below_set ?_ GE136.out) | exact HB.out)⟩⟩
      case round =>
        clear H'
        try clear c2
        try clear c2b0
        try clear c2b1
        try clear p2
        try clear c3
        try clear c4
        try clear c4b0
        try clear c4b1
        try clear p5
        try clear q5
        try clear hx5
        try clear qi5
        try clear c6
        try clear p6
        try clear c8
        try clear hcz9_0
        try clear hcz9_1
        try clear hcz9_2
        try clear hfz9_0
        try clear hfz9_1
        try clear hfz9_2
        try clear p5
        try clear q5
        obtain ⟨x7_1, x137002_1, u137002, rfl, HA, HK1, HO_137002, BK133, BK136, HB⟩ := hrel
        cases gk with
        | zero => exact absurd HA.out (by simp [slot_Unpack.l0])
        | succ k1 =>
          have H := HA.out
          clear HA
          simp only [slot_Unpack.l0] at H
          by_cases c10 : x7_1 < 256
          · rw [if_pos c10] at H
            have c10b0 : decide (x7_1 < 256) = true := decide_eq_true c10
            clear c10
            by_cases c11 : 0 ≤ x7_1
            · rw [if_pos c11] at H
              have c11b0 : decide (0 ≤ x7_1) = true := decide_eq_true c11
              clear c11
              by_cases c12 : x7_1 < (a0.size : Int)
              · rw [if_pos c12] at H
                have c12b0 : decide (x7_1 < (a0.size : Int)) = true := decide_eq_true c12
                clear c12
                by_cases c14 : (bt a0 x7_1) = 1
                · rw [if_pos c14] at H
                  have c14b0 : ((bt a0 x7_1) == 1) = true := beq_iff_eq.mpr c14
                  have c14b1 : ((bt a0 x7_1) != 1) = false := bne_eq_false_iff_eq.mpr c14
                  clear c14
                  have c15b0 := eq_true (of_decide_eq_true (by first | (with_reducible assumption) | assumption) : 0 ≤ x7_1)
                  by_cases c16 : x7_1 ≤ (wrap64 (x7_1 + 48))
                  · rw [if_pos c16] at H
                    have c16b0 := eq_true c16
                    have c16b1 : decide (x7_1 ≤ (wrap64 (x7_1 + 48))) = true := decide_eq_true c16
                    by_cases c17 : (wrap64 (x7_1 + 48)) ≤ (a0.size : Int)
                    · rw [if_pos c17] at H
                      have c17b0 := eq_true c17
                      have c17b1 : decide ((wrap64 (x7_1 + 48)) ≤ (a0.size : Int)) = true := decide_eq_true c17
                      replace H := Option.bind_eq_some_iff.mp H
                      obtain ⟨⟨t137, t138, t139, t140, t141, t142⟩, A180, H⟩ := H
                      replace H : (if x137002_1.length < 1954687338268 then (slot_Unpack.l0 k1 a0 (wrap64 (x7_1 + 48)) (wrap64 (bt a0 1)) (wrap64 (t134)) (x137002_1 ++ [(⟨t137, t138, t139, t140, t141, t142⟩ : S76)])) else (none)) = some (r1, r2, r3, r4) := H
                      have A18 := Aside0.mk A180
                      clear A180
                      by_cases c19 : x137002_1.length < 1954687338268
                      · rw [if_pos c19] at H
                        have LMc19 := Aside0.mk c19
                        clear c19
                        obtain ⟨y145, hy145⟩ : ∃ y_ : List (S76), y_ = (x137002_1 ++ [(⟨t137, t138, t139, t140, t141, t142⟩ : S76)]) := ⟨_, rfl⟩
                        replace H : (slot_Unpack.l0 k1 a0 (wrap64 (x7_1 + 48)) (wrap64 (bt a0 1)) (wrap64 (t134)) y145) = some (r1, r2, r3, r4) := by first | (rw [hy145]; with_reducible exact H) | (have H2_ := (Option.bind_some _ _).symm.trans H; rw [hy145]; with_reducible exact H2_) | (have H2_ := (Option.bind_some _ _).symm.trans H; with_reducible exact H2_) | with_reducible exact H | (rw [hy145]; exact H) | exact H
                        have Ny145 := Aside0.mk hy145
                        clear hy145
                        have H' := Aside0.mk H
                        clear H
                        have p13 : 0 ≤ (x7_1 : Int) := of_decide_eq_true (by first | (with_reducible assumption) | assumption)
                        have q13 : x7_1 < (a0.size : Int) := of_decide_eq_true (by first | (with_reducible assumption) | assumption)
                        have hx13 := bt_at a0 x7_1
                        replace p13 := eq_true p13
                        replace q13 := eq_true q13
                        try go_wp2
                        have n0_ := Aside0.mk (Kd.S_drew HO_137002.out)
                        have n1_ := Aside0.mk (blk_drew BK133.out)
                        have n2_ := Aside0.mk (blk_drew BK136.out)
                        have n3_ := Aside0.mk (below_drew1 HB.out)
                        clear HO_137002
                        clear BK133
                        clear BK136
                        clear HB
                        have HO_137002 := n0_
                        have BK133 := n1_
                        have BK136 := n2_
                        have HB := n3_
                        clear n0_ n1_ n2_ n3_
                        refine start_ (n := 12) (S := fun w' => w'.cell? ⟨gb136, 0, none⟩ = some (.int .i64 (wrap64 (bt a0 1))) ∧ w'.cell? ⟨gb136, 1, none⟩ = some (.int .i64 (wrap64 (t134))) ∧ w'.cell? ⟨gb136, 2, none⟩ = some (u137002)) (ds := [11]) #[false, false, false, false, false, false, false, false, false, false, false, false] (by kernel_rfl) rfl rfl ⟨(blk_cell BK136.out 0).trans rfl, (blk_cell BK136.out 1).trans rfl, (blk_cell BK136.out 2).trans rfl⟩ (fun hHeld => ?_); refine with_tabW slot_Unpack.tab8 slot_Unpack.bits8 (fun HT_ HW_ => ?_)
                        generalize wr.drew = w20 at HO_137002 BK133 BK136 HB hHeld ⊢
                        refine pure_ (i := 0) (N := some 35) (v := ?_) (a' := ?_) #[true, false, false, false, false, false, false, false, false, false, false, false] rfl rfl (any_of HT_.out (by kernel_rfl)) (fun _ _ _ h => h) (Or.inl ⟨by rfl, ?_⟩) ?_ ?_
                        rotate_left
                        · intro w'
                          go_simp
                          with_reducible rfl
                        rotate_left
                        · simp only [Act.put, List.setIfInBounds_toArray, List.set_cons_zero, List.set_cons_succ, i64_w, i32_w]
                          rfl
                        refine pure_ (i := 2) (N := some 37) (v := ?_) (a' := ?_) #[true, false, true, false, false, false, false, false, false, false, false, false] rfl rfl (any_of HT_.out (by kernel_rfl)) (fun _ _ _ h => h) (Or.inl ⟨by rfl, ?_⟩) ?_ ?_
                        rotate_left
                        · intro w'
                          go_simp
                          with_reducible rfl
                        rotate_left
                        · simp only [Act.put, List.setIfInBounds_toArray, List.set_cons_zero, List.set_cons_succ, i64_w, i32_w]
                          rfl
                        refine pure_ (i := 3) (N := some 38) (v := ?_) (a' := ?_) #[true, false, true, true, false, false, false, false, false, false, false, false] rfl rfl (any_of HT_.out (by kernel_rfl)) (fun _ _ _ h => h) (Or.inl ⟨by rfl, ?_⟩) ?_ ?_
                        rotate_left
                        · intro w'
                          go_simp
                          with_reducible rfl
                        rotate_left
                        · simp only [Act.put, List.setIfInBounds_toArray, List.set_cons_zero, List.set_cons_succ, i64_w, i32_w]
                          rfl
                        refine pure_ (i := 4) (N := some 39) (v := ?_) (a' := ?_) #[true, false, true, true, true, false, false, false, false, false, false, false] rfl rfl (any_of HT_.out (by kernel_rfl)) (fun _ _ _ h => h) (Or.inl ⟨by rfl, ?_⟩) ?_ ?_
                        rotate_left
                        · intro w'
                          go_simp
                          with_reducible rfl
                        rotate_left
                        · simp only [Act.put, List.setIfInBounds_toArray, List.set_cons_zero, List.set_cons_succ, i64_w, i32_w]
                          rfl
                        refine pure_ (i := 5) (N := some 40) (v := ?_) (a' := ?_) #[true, false, true, true, true, true, false, false, false, false, false, false] rfl rfl (any_of HT_.out (by kernel_rfl)) (fun _ _ _ h => h) (Or.inl ⟨by rfl, ?_⟩) ?_ ?_
                        rotate_left
                        · intro w'
                          go_simp
                          with_reducible rfl
                        rotate_left
                        · simp only [Act.put, List.setIfInBounds_toArray, List.set_cons_zero, List.set_cons_succ, i64_w, i32_w]
                          rfl
                        refine pure_ (i := 6) (N := some 41) (v := ?_) (a' := ?_) #[true, false, true, true, true, true, true, false, false, false, false, false] rfl rfl (any_of HT_.out (by kernel_rfl)) (fun _ _ _ h => h) (Or.inl ⟨by rfl, ?_⟩) ?_ ?_
                        rotate_left
                        · intro w'
                          go_simp
                          with_reducible rfl
                        rotate_left
                        · simp only [Act.put, List.setIfInBounds_toArray, List.set_cons_zero, List.set_cons_succ, i64_w, i32_w]
                          rfl
                        refine take_ (i := 1) (N := some 36) (v := ?_) (a' := ?_) #[true, true, true, true, true, true, true, false, false, false, false, false] rfl rfl (take_ofW HT_.out HW_.out (by kernel_rfl)) (fun _ _ _ h => h) (Or.inl ⟨by rfl, ?_⟩) hHeld ?_ ?_
                        rotate_left
                        · rintro w' ⟨s0, s1, s2⟩
                          go_simp
                          with_reducible rfl
                        rotate_left
                        · simp only [Act.put, List.setIfInBounds_toArray, List.set_cons_zero, List.set_cons_succ, i64_w, i32_w]
                          rfl
                        refine one_ (i := 7) (N := some 42) #[true, true, true, true, true, true, true, true, false, false, false, false] rfl rfl (one_of HT_.out (by kernel_rfl)) (by decide) (fun K hK => ?_)
                        refine goes_ Try.func64 (by kernel_rfl) rfl #[.string (a0.extract (x7_1 : Int).toNat ((wrap64 (x7_1 + 48)) : Int).toNat)] (by rfl) rfl rfl (by (try simp only [List.map_toArray, List.map_cons, List.map_nil]); first | done | rfl | (simp only [List.length_drop, List.length_take]; rfl)) ?_
                        with_reducible refine (slot_read.calls k1 (a0.extract (x7_1 : Int).toNat ((wrap64 (x7_1 + 48)) : Int).toNat) t137 t138 t139 t140 t141 t142 _ A18.out).mono ?_
                        rintro e w21 ⟨v143, rfl, ho0, hb⟩
                        refine ⟨_, rfl, ?_⟩
                        have n0_ := Aside0.mk (Kd.S_elder' (by (with_reducible repeat (first | apply Kd.S_alloc | apply Kd.S_drewN | apply Kd.S_drew)); exact HO_137002.out) (Kd.R_base ho0) hb)
                        have n1_ := Aside0.mk (Kd.R_lower ho0 (below_size (by repeat (first | (with_reducible first | exact HB.out | apply below_alloc | apply pw_below_drewN | apply below_drew1 | refine below_set ?_ GE133.out | refine below_set ?_ GE136.out) | exact HB.out))))
                        have n2_ := Aside0.mk (blk_below (g := gb133) (o := .cells #[.int .i64 0, .int .i64 0, .slice none 0 0] 64 (0, 0)) (by (with_reducible repeat (first | refine blk_drewN ?_ _ | refine blk_drew ?_ | refine blk_alloc ?_ _)); exact BK133.out) hb)
                        have n3_ := Aside0.mk (blk_below (g := gb136) (o := .cells #[.int .i64 (wrap64 (bt a0 1)), .int .i64 (wrap64 (t134)), u137002] 64 (0, 0)) (by (with_reducible repeat (first | refine blk_drewN ?_ _ | refine blk_drew ?_ | refine blk_alloc ?_ _)); exact BK136.out) hb)
                        have n4_ := Aside0.mk (below_step (by repeat (first | (with_reducible first | exact HB.out | apply below_alloc | apply pw_below_drewN | apply below_drew1 | refine below_set ?_ GE133.out | refine below_set ?_ GE136.out) | exact HB.out)) hb)
                        clear HO_137002
                        clear BK133
                        clear BK136
                        clear HB
                        have HO_137002 := n0_
                        have HO144 := n1_
                        have BK133 := n2_
                        have BK136 := n3_
                        have HB := n4_
                        clear n0_ n1_ n2_ n3_ n4_
                        (try clear hb)
                        (try clear hb2)
                        (try clear hk)
                        (try clear hi)
                        (try clear ho0)
                        refine hK.out _ _ ⟨(blk_cell BK136.out 0).trans rfl, (blk_cell BK136.out 1).trans rfl, (blk_cell BK136.out 2).trans rfl⟩ (fun hHeld => ?_)
                        clear hK K
                        refine norm_ (a' := ?_) ?_ ?_
                        rotate_left
                        · show Act.put _ (some 42) _ = _
                          simp only [Act.put, List.setIfInBounds_toArray, List.set_cons_zero, List.set_cons_succ, i64_w, i32_w]
                          rfl
                        refine one_ (i := 8) (N := some 43) #[true, true, true, true, true, true, true, true, true, false, false, false] rfl rfl (one_of HT_.out (by kernel_rfl)) (by decide) (fun K hK => ?_)
                        refine value_ (w1 := ?_) (v := ?_) (by rfl) rfl ?_ ?_
                        rotate_left 2
                        · go_simp
                          constructor
                          · rfl
                          · rfl
                        refine hK.out _ _ ⟨(blk_cell (blk_alloc BK136.out _) 0).trans rfl, (blk_cell (blk_alloc BK136.out _) 1).trans rfl, (blk_cell (blk_alloc BK136.out _) 2).trans rfl⟩ (fun hHeld => ?_)
                        clear hK K
                        refine norm_ (a' := ?_) ?_ ?_
                        rotate_left
                        · show Act.put _ (some 43) _ = _
                          simp only [Act.put, List.setIfInBounds_toArray, List.set_cons_zero, List.set_cons_succ, i64_w, i32_w]
                          rfl
                        refine one_ (i := 9) (N := some 44) #[true, true, true, true, true, true, true, true, true, true, false, false] rfl rfl (one_of HT_.out (by kernel_rfl)) (by decide) (fun K hK => ?_)
                        refine Kd.S_append_step k76 (w0 := w) w.heap.size (by rfl) (.tmp 36) (.tmp 43) 62 76 (.agg #[(.int .u64 0), (.string ⟨#[]⟩), (.slice none 0 0), (.int .i64 0), (.bool false), (.int .u64 0)]) 72 rfl Try.underlying62 info76 rfl (by decide) (by omega) u137002 x137002_1 (⟨t137, t138, t139, t140, t141, t142⟩ : S76) [.int .u64 t137, .string t138, v143, .int .i64 t140, .bool t141, .int .u64 t142] (fun _ => True) (fun k_ => some k_ = (v143 : Value).ownBlock) rfl rfl ?aP (fun k_ hk_ => ((Kd.R_mono (ok' := fun k_ => ((fun _ => True)) k_ ∧ some k_ ≠ (u137002 : Value).ownBlock) (Kd.R_apart' (HO144.out) (Kd.S_typed HO_137002.out) (by decide)) (fun k_ hk => ⟨trivial, hk.2⟩))).1 k_ hk_.symm) ?aF ?aO ?aB ?aS ?aL ?_
                        (case aP => exact k76_mkM _ _ _ (⟨t137, t138, t139, t140, t141, t142⟩ : S76) (Kd.R_mono (Kd.R_tight rfl (Kd.R_mono (ok' := fun k_ => ((fun _ => True)) k_ ∧ some k_ ≠ (u137002 : Value).ownBlock) (Kd.R_apart' (HO144.out) (Kd.S_typed HO_137002.out) (by decide)) (fun k_ hk => ⟨trivial, hk.2⟩))) (fun _ h_ => h_)))
                        (case aB => exact (by repeat (first | (with_reducible first | exact HB.out | apply below_alloc | apply pw_below_drewN | apply below_drew1 | refine below_set ?_ GE133.out | refine below_set ?_ GE136.out) | exact HB.out)))
                        (case aF => exact (fun _ _ => trivial))
                        (case aO => exact (by (with_reducible repeat (first | apply Kd.S_alloc | apply Kd.S_drewN | apply Kd.S_drew)); exact Kd.S_mono HO_137002.out (fun k_ hk => ⟨trivial, fun e_ => hk.2 e_⟩)))
                        (case aS => exact (below_size (by repeat (first | (with_reducible first | exact HB.out | apply below_alloc | apply pw_below_drewN | apply below_drew1 | refine below_set ?_ GE133.out | refine below_set ?_ GE136.out) | exact HB.out))))
                        (case aL => have := LMc19.out; omega)
                        intro v146 w22 ho hb hg hat
                        rw [← Ny145.out] at ho
                        have n0_ := Aside0.mk (blk_grown (g := gb133) (o := .cells #[.int .i64 0, .int .i64 0, .slice none 0 0] 64 (0, 0)) (by (with_reducible repeat (first | refine blk_drewN ?_ _ | refine blk_drew ?_ | refine blk_alloc ?_ _)); exact BK133.out) hg (Kd.S_ne HO_137002.out BK133.out (by decide)))
                        have n1_ := Aside0.mk (blk_grown (g := gb136) (o := .cells #[.int .i64 (wrap64 (bt a0 1)), .int .i64 (wrap64 (t134)), u137002] 64 (0, 0)) (by (with_reducible repeat (first | refine blk_drewN ?_ _ | refine blk_drew ?_ | refine blk_alloc ?_ _)); exact BK136.out) hg (Kd.S_ne HO_137002.out BK136.out (by decide)))
                        have n2_ := Aside0.mk (Kd.R_over' (by (with_reducible repeat (first | apply Kd.R_alloc | apply Kd.R_drewN | apply Kd.R_drew)); exact HO144.out) (Kd.S_typed (by (with_reducible repeat (first | apply Kd.S_alloc | apply Kd.S_drewN | apply Kd.S_drew)); exact HO_137002.out)) (by decide) hg)
                        have n3_ := Aside0.mk (hb)
                        have n4_ := Aside0.mk (ho)
                        clear BK133
                        clear BK136
                        clear HO144
                        clear HB
                        clear HO_137002
                        have BK133 := n0_
                        have BK136 := n1_
                        have HO144 := n2_
                        have HB := n3_
                        have HO147 := n4_
                        clear n0_ n1_ n2_ n3_ n4_
                        clear ho hb hg hat
                        obtain ⟨Ao23, co23, eo23⟩ := Kd.S_slice HO147.out
                        (first | subst eo23 | (injection eo23 with f1_ f2_ f3_; have f4_ := f1_.symm; have f5_ := f3_.symm; clear f1_ f2_ f3_; subst f4_; subst f5_))
                        refine hK.out _ _ ⟨(blk_cell BK136.out 0).trans rfl, (blk_cell BK136.out 1).trans rfl, (blk_cell BK136.out 2).trans rfl⟩ (fun hHeld => ?_)
                        clear hK K
                        refine norm_ (a' := ?_) ?_ ?_
                        rotate_left
                        · show Act.put _ (some 44) _ = _
                          simp only [Act.put, List.setIfInBounds_toArray, List.set_cons_zero, List.set_cons_succ, i64_w, i32_w]
                          rfl
                        refine pure_ (i := 10) (N := some 45) (v := ?_) (a' := ?_) #[true, true, true, true, true, true, true, true, true, true, true, false] rfl rfl (any_of HT_.out (by kernel_rfl)) (fun _ _ _ h => h) (Or.inl ⟨by rfl, ?_⟩) ?_ ?_
                        rotate_left
                        · intro w'
                          go_simp
                          with_reducible rfl
                        rotate_left
                        · simp only [Act.put, List.setIfInBounds_toArray, List.set_cons_zero, List.set_cons_succ, i64_w, i32_w]
                          rfl
                        refine last_ (i := 11) (N := none) #[true, true, true, true, true, true, true, true, true, true, true, true] rfl rfl (one_of HT_.out (by kernel_rfl)) (by decide) (fun K hK => ?_)
                        have hs24 : w22.cell? ⟨gb136, 2, none⟩ = some (u137002) := (blk_cell BK136.out 2).trans rfl
                        have hfs24 := blk_frozen BK136.out 2
                        have hns24_0 := NB133_136.out
                        have hms24_0 := NB136_133.out
                        refine skip_ (w1 := ?_) (by rfl) rfl ?_ ?_
                        rotate_left
                        · go_simp
                          rfl
                        refine hK.out _ _ ?_
                        clear hK K
                        refine done_ (done_of HT_.out (by kernel_rfl)) ?_
                        try go_wp2
                        go_roundg k1
                        case measure => have := HK1.out; omega
                        case rel => exact ⟨(wrap64 (x7_1 + 48)), (y145), (.slice Ao23 y145.length co23), (by first | rfl | (simp; done) | (simp [*]; done)), H', ⟨by have := HK1.out; omega⟩, ⟨by (with_reducible repeat (first | apply Kd.S_alloc | apply Kd.S_drewN | apply Kd.S_drew)); exact Kd.S_mono (Kd.S_far (p := ⟨gb136, 2, none⟩) (Kd.S_types HO147.out BK136.out (by decide)) (fun _ hk => hk.2) (.slice Ao23 y145.length co23)) (fun _ hk => trivial)⟩, ⟨by (with_reducible repeat (first | refine blk_drewN ?_ _ | refine blk_drew ?_ | refine blk_alloc ?_ _)); refine blk_far ?_ NB133_136.out _; (with_reducible repeat (first | refine blk_drewN ?_ _ | refine blk_drew ?_ | refine blk_alloc ?_ _)); exact BK133.out⟩, ⟨by (with_reducible repeat (first | refine blk_drewN ?_ _ | refine blk_drew ?_ | refine blk_alloc ?_ _)); refine blk_put (cs := #[.int .i64 (wrap64 (bt a0 1)), .int .i64 (wrap64 (t134)), u137002]) ?_ 2 _ rfl; (with_reducible repeat (first | refine blk_drewN ?_ _ | refine blk_drew ?_ | refine blk_alloc ?_ _)); exact BK136.out⟩, ⟨by repeat (first | (with_reducible first | exact HB.out | apply below_alloc | apply pw_below_drewN | apply below_drew1 | refine below_set ?_ GE133.out | refine below_set ?_ GE136.out) | exact HB.out)⟩⟩
                      · rw [if_neg c19] at H
                        exact absurd H (by simp)
                    · rw [if_neg c17] at H
                      exact absurd H (by simp)
                  · rw [if_neg c16] at H
                    exact absurd H (by simp)
                · rw [if_neg c14] at H
                  have c14b0 : ((bt a0 x7_1) == 1) = false := beq_eq_false_iff_ne.mpr c14
                  have c14b1 : ((bt a0 x7_1) != 1) = true := bne_iff_ne.mpr c14
                  replace H := Option.bind_eq_some_iff.mp H
                  obtain ⟨⟨t148, t149⟩, A250, H⟩ := H
                  replace H : (if t149 = 0 then (if t148.toList = a0.toList then (some ((wrap64 (bt a0 1)), (wrap64 (t134)), x137002_1, 0)) else (some (0, 0, ([] : List (S76)), 3))) else (some (0, 0, ([] : List (S76)), 3))) = some (r1, r2, r3, r4) := H
                  have A25 := Aside0.mk A250
                  clear A250
                  by_cases c26 : t149 = 0
                  · rw [if_pos c26] at H
                    have c26b0 : (t149 == 0) = true := beq_iff_eq.mpr c26
                    have c26b1 : (t149 != 0) = false := bne_eq_false_iff_eq.mpr c26
                    clear c26
                    by_cases c27 : t148.toList = a0.toList
                    · rw [if_pos c27] at H
                      have c27b0 : (t148.toList == a0.toList) = true := beq_iff_eq.mpr c27
                      have c27b1 : (t148.toList != a0.toList) = false := bne_eq_false_iff_eq.mpr c27
                      clear c27
                      simp only [Option.some.injEq, Prod.mk.injEq] at H
                      obtain ⟨rfl, rfl, rfl, rfl⟩ := H
                      have p13 : 0 ≤ (x7_1 : Int) := of_decide_eq_true (by first | (with_reducible assumption) | assumption)
                      have q13 : x7_1 < (a0.size : Int) := of_decide_eq_true (by first | (with_reducible assumption) | assumption)
                      have hx13 := bt_at a0 x7_1
                      replace p13 := eq_true p13
                      replace q13 := eq_true q13
                      have hnb28 := NB136_133.out
                      have hnc28 := NB133_136.out
                      have hcz29_0 : wr.cell? ⟨gb136, 0, none⟩ = some (.int .i64 (wrap64 (bt a0 1))) := (blk_cell BK136.out 0).trans rfl
                      have hcz29_1 : wr.cell? ⟨gb136, 1, none⟩ = some (.int .i64 (wrap64 (t134))) := (blk_cell BK136.out 1).trans rfl
                      have hcz29_2 : wr.cell? ⟨gb136, 2, none⟩ = some (u137002) := (blk_cell BK136.out 2).trans rfl
                      have hfz29_0 := blk_frozen BK136.out 0
                      have hfz29_1 := blk_frozen BK136.out 1
                      have hfz29_2 := blk_frozen BK136.out 2
                      obtain ⟨Ao30, co30, eo30⟩ := Kd.S_slice HO_137002.out
                      subst eo30
                      go_wp2_with (first | ((with_reducible refine gate_callee (f := 36) rfl ?_); refine goesL_ (some 48) rfl rfl Try.func36 (by kernel_rfl) rfl #[.agg #[.int .i64 (wrap64 (bt a0 1)), .int .i64 (wrap64 (t134)), .slice Ao30 x137002_1.length co30]] rfl (by (try simp only [List.map_toArray, List.map_cons, List.map_nil]); first | done | rfl | (simp only [List.length_drop, List.length_take]; rfl)) ?_; (with_reducible refine (slot_Pack.calls k1 (wrap64 (bt a0 1)) (wrap64 (t134)) _ _ x137002_1 t148 t149 _ ?side1 ?side2 A25.out).mono ?_); (case side1 => repeat (first | exact (Kd.S_reads' HO_137002.out).2.2 | (with_reducible refine Kd.C_alloc ?_ _) | (with_reducible refine Kd.C_drewN ?_ _) | (with_reducible refine Kd.C_drew ?_))); (case side2 => exact (Kd.S_reads' HO_137002.out).2.1); rintro e w31 ⟨rfl, hb⟩; refine ⟨_, rfl, ?_⟩; have n0_ := Aside0.mk (Kd.S_below (by (with_reducible repeat (first | apply Kd.S_alloc | apply Kd.S_drewN | apply Kd.S_drew)); exact HO_137002.out) hb); have n1_ := Aside0.mk (blk_below (g := gb133) (o := .cells #[.int .i64 0, .int .i64 0, .slice none 0 0] 64 (0, 0)) (by (with_reducible repeat (first | refine blk_drewN ?_ _ | refine blk_drew ?_ | refine blk_alloc ?_ _)); exact BK133.out) hb); have n2_ := Aside0.mk (blk_below (g := gb136) (o := .cells #[.int .i64 (wrap64 (bt a0 1)), .int .i64 (wrap64 (t134)), .slice Ao30 x137002_1.length co30] 64 (0, 0)) (by (with_reducible repeat (first | refine blk_drewN ?_ _ | refine blk_drew ?_ | refine blk_alloc ?_ _)); exact BK136.out) hb); have n3_ := Aside0.mk (below_step (by repeat (first | (with_reducible first | exact HB.out | apply below_alloc | apply pw_below_drewN | apply below_drew1 | refine below_set ?_ GE133.out | refine below_set ?_ GE136.out) | exact HB.out)) hb); clear HO_137002; clear BK133; clear BK136; clear HB; have HO_137002 := n0_; have BK133 := n1_; have BK136 := n2_; have HB := n3_; clear n0_ n1_ n2_ n3_; (try clear hb); (try clear hb2); (try clear hk); (try clear hi); have hcz32_0 : w31.cell? ⟨gb136, 0, none⟩ = some (.int .i64 (wrap64 (bt a0 1))) := (blk_cell BK136.out 0).trans rfl; have hcz32_1 : w31.cell? ⟨gb136, 1, none⟩ = some (.int .i64 (wrap64 (t134))) := (blk_cell BK136.out 1).trans rfl; have hcz32_2 : w31.cell? ⟨gb136, 2, none⟩ = some (.slice Ao30 x137002_1.length co30) := (blk_cell BK136.out 2).trans rfl; have hfz32_0 := blk_frozen BK136.out 0; have hfz32_1 := blk_frozen BK136.out 1; have hfz32_2 := blk_frozen BK136.out 2; have hcz33_0 : w31.cell? ⟨gb133, 0, none⟩ = some (.int .i64 0) := (blk_cell BK133.out 0).trans rfl; have hcz33_1 : w31.cell? ⟨gb133, 1, none⟩ = some (.int .i64 0) := (blk_cell BK133.out 1).trans rfl; have hcz33_2 : w31.cell? ⟨gb133, 2, none⟩ = some (.slice none 0 0) := (blk_cell BK133.out 2).trans rfl; have hfz33_0 := blk_frozen BK133.out 0; have hfz33_1 := blk_frozen BK133.out 1; have hfz33_2 := blk_frozen BK133.out 2))
                      refine bodyPost_ret (results_ct rfl _ _ gb133 64 #[.int .i64 (wrap64 (bt a0 1)), .int .i64 (wrap64 (t134)), .slice Ao30 x137002_1.length co30] (0, 0) _ rfl (by (with_reducible repeat (first | refine blk_drewN ?_ _ | refine blk_drew ?_ | refine blk_alloc ?_ _)); refine blk_put (cs := #[.int .i64 (wrap64 (bt a0 1)), .int .i64 (wrap64 (t134)), .slice none 0 0]) ?_ 2 _ rfl; (with_reducible repeat (first | refine blk_drewN ?_ _ | refine blk_drew ?_ | refine blk_alloc ?_ _)); refine blk_put (cs := #[.int .i64 (wrap64 (bt a0 1)), .int .i64 0, .slice none 0 0]) ?_ 1 _ rfl; (with_reducible repeat (first | refine blk_drewN ?_ _ | refine blk_drew ?_ | refine blk_alloc ?_ _)); refine blk_put (cs := #[.int .i64 0, .int .i64 0, .slice none 0 0]) ?_ 0 _ rfl; (with_reducible repeat (first | refine blk_drewN ?_ _ | refine blk_drew ?_ | refine blk_alloc ?_ _)); exact BK133.out) Try.underlying64 rfl (by kernel_rfl)) rfl ?_
                      exact ⟨_, by first | rfl | (simp [errW_none, errW_some] <;> rfl) | (simp [*, errW_none, errW_some] <;> rfl), by (with_reducible repeat (first | apply Kd.S_alloc | apply Kd.S_drewN | apply Kd.S_drew)); exact Kd.S_mono (Kd.S_far (p := ⟨gb133, 2, none⟩) (Kd.S_far (p := ⟨gb133, 1, none⟩) (Kd.S_far (p := ⟨gb133, 0, none⟩) (Kd.S_types HO_137002.out BK133.out (by decide)) (fun _ hk => hk.2) (.int .i64 (wrap64 (bt a0 1)))) (fun _ hk => hk.2) (.int .i64 (wrap64 (t134)))) (fun _ hk => hk.2) (.slice Ao30 x137002_1.length co30)) (fun _ hk => trivial), by repeat (first | (with_reducible first | exact HB.out | apply below_alloc | apply pw_below_drewN | apply below_drew1 | refine below_set ?_ GE133.out | refine below_set ?_ GE136.out) | exact HB.out)⟩
                    · rw [if_neg c27] at H
                      have c27b0 : (t148.toList == a0.toList) = false := beq_eq_false_iff_ne.mpr c27
                      have c27b1 : (t148.toList != a0.toList) = true := bne_iff_ne.mpr c27
                      simp only [Option.some.injEq, Prod.mk.injEq] at H
                      obtain ⟨rfl, rfl, rfl, rfl⟩ := H
                      have p13 : 0 ≤ (x7_1 : Int) := of_decide_eq_true (by first | (with_reducible assumption) | assumption)
                      have q13 : x7_1 < (a0.size : Int) := of_decide_eq_true (by first | (with_reducible assumption) | assumption)
                      have hx13 := bt_at a0 x7_1
                      replace p13 := eq_true p13
                      replace q13 := eq_true q13
                      have hnb34 := NB136_133.out
                      have hnc34 := NB133_136.out
                      have hcz35_0 : wr.cell? ⟨gb136, 0, none⟩ = some (.int .i64 (wrap64 (bt a0 1))) := (blk_cell BK136.out 0).trans rfl
                      have hcz35_1 : wr.cell? ⟨gb136, 1, none⟩ = some (.int .i64 (wrap64 (t134))) := (blk_cell BK136.out 1).trans rfl
                      have hcz35_2 : wr.cell? ⟨gb136, 2, none⟩ = some (u137002) := (blk_cell BK136.out 2).trans rfl
                      have hfz35_0 := blk_frozen BK136.out 0
                      have hfz35_1 := blk_frozen BK136.out 1
                      have hfz35_2 := blk_frozen BK136.out 2
                      obtain ⟨Ao36, co36, eo36⟩ := Kd.S_slice HO_137002.out
                      subst eo36
                      go_wp2_with (first | ((with_reducible refine gate_callee (f := 36) rfl ?_); refine goesL_ (some 48) rfl rfl Try.func36 (by kernel_rfl) rfl #[.agg #[.int .i64 (wrap64 (bt a0 1)), .int .i64 (wrap64 (t134)), .slice Ao36 x137002_1.length co36]] rfl (by (try simp only [List.map_toArray, List.map_cons, List.map_nil]); first | done | rfl | (simp only [List.length_drop, List.length_take]; rfl)) ?_; (with_reducible refine (slot_Pack.calls k1 (wrap64 (bt a0 1)) (wrap64 (t134)) _ _ x137002_1 t148 t149 _ ?side1 ?side2 A25.out).mono ?_); (case side1 => repeat (first | exact (Kd.S_reads' HO_137002.out).2.2 | (with_reducible refine Kd.C_alloc ?_ _) | (with_reducible refine Kd.C_drewN ?_ _) | (with_reducible refine Kd.C_drew ?_))); (case side2 => exact (Kd.S_reads' HO_137002.out).2.1); rintro e w37 ⟨rfl, hb⟩; refine ⟨_, rfl, ?_⟩; have n0_ := Aside0.mk (Kd.S_below (by (with_reducible repeat (first | apply Kd.S_alloc | apply Kd.S_drewN | apply Kd.S_drew)); exact HO_137002.out) hb); have n1_ := Aside0.mk (blk_below (g := gb133) (o := .cells #[.int .i64 0, .int .i64 0, .slice none 0 0] 64 (0, 0)) (by (with_reducible repeat (first | refine blk_drewN ?_ _ | refine blk_drew ?_ | refine blk_alloc ?_ _)); exact BK133.out) hb); have n2_ := Aside0.mk (blk_below (g := gb136) (o := .cells #[.int .i64 (wrap64 (bt a0 1)), .int .i64 (wrap64 (t134)), .slice Ao36 x137002_1.length co36] 64 (0, 0)) (by (with_reducible repeat (first | refine blk_drewN ?_ _ | refine blk_drew ?_ | refine blk_alloc ?_ _)); exact BK136.out) hb); have n3_ := Aside0.mk (below_step (by repeat (first | (with_reducible first | exact HB.out | apply below_alloc | apply pw_below_drewN | apply below_drew1 | refine below_set ?_ GE133.out | refine below_set ?_ GE136.out) | exact HB.out)) hb); clear HO_137002; clear BK133; clear BK136; clear HB; have HO_137002 := n0_; have BK133 := n1_; have BK136 := n2_; have HB := n3_; clear n0_ n1_ n2_ n3_; (try clear hb); (try clear hb2); (try clear hk); (try clear hi); have hcz38_0 : w37.cell? ⟨gb133, 0, none⟩ = some (.int .i64 0) := (blk_cell BK133.out 0).trans rfl; have hcz38_1 : w37.cell? ⟨gb133, 1, none⟩ = some (.int .i64 0) := (blk_cell BK133.out 1).trans rfl; have hcz38_2 : w37.cell? ⟨gb133, 2, none⟩ = some (.slice none 0 0) := (blk_cell BK133.out 2).trans rfl; have hfz38_0 := blk_frozen BK133.out 0; have hfz38_1 := blk_frozen BK133.out 1; have hfz38_2 := blk_frozen BK133.out 2))
                      refine bodyPost_ret (results_ct rfl _ _ gb133 64 #[.int .i64 0, .int .i64 0, .slice none 0 0] (0, 0) _ rfl (by (with_reducible repeat (first | refine blk_drewN ?_ _ | refine blk_drew ?_ | refine blk_alloc ?_ _)); refine blk_put (cs := #[.int .i64 0, .int .i64 0, .slice none 0 0]) ?_ 2 _ rfl; (with_reducible repeat (first | refine blk_drewN ?_ _ | refine blk_drew ?_ | refine blk_alloc ?_ _)); refine blk_put (cs := #[.int .i64 0, .int .i64 0, .slice none 0 0]) ?_ 1 _ rfl; (with_reducible repeat (first | refine blk_drewN ?_ _ | refine blk_drew ?_ | refine blk_alloc ?_ _)); refine blk_put (cs := #[.int .i64 0, .int .i64 0, .slice none 0 0]) ?_ 0 _ rfl; (with_reducible repeat (first | refine blk_drewN ?_ _ | refine blk_drew ?_ | refine blk_alloc ?_ _)); exact BK133.out) Try.underlying64 rfl (by kernel_rfl)) rfl ?_
                      exact ⟨_, by first | rfl | (simp [errW_none, errW_some] <;> rfl) | (simp [*, errW_none, errW_some] <;> rfl), by first | exact Kd.S_nil _ _ _ _ _ | exact Kd.N_nil _ _ _ _ _ | exact Kd.V_nil _ _ _ _ _ | exact Kd.Q_nil _ _ _ _ _ | exact Kd.R_nil _ _ _ _ _, by repeat (first | (with_reducible first | exact HB.out | apply below_alloc | apply pw_below_drewN | apply below_drew1 | refine below_set ?_ GE133.out | refine below_set ?_ GE136.out) | exact HB.out)⟩
                  · rw [if_neg c26] at H
                    have c26b0 : (t149 == 0) = false := beq_eq_false_iff_ne.mpr c26
                    have c26b1 : (t149 != 0) = true := bne_iff_ne.mpr c26
                    simp only [Option.some.injEq, Prod.mk.injEq] at H
                    obtain ⟨rfl, rfl, rfl, rfl⟩ := H
                    have p13 : 0 ≤ (x7_1 : Int) := of_decide_eq_true (by first | (with_reducible assumption) | assumption)
                    have q13 : x7_1 < (a0.size : Int) := of_decide_eq_true (by first | (with_reducible assumption) | assumption)
                    have hx13 := bt_at a0 x7_1
                    replace p13 := eq_true p13
                    replace q13 := eq_true q13
                    have hnb39 := NB136_133.out
                    have hnc39 := NB133_136.out
                    have hcz40_0 : wr.cell? ⟨gb136, 0, none⟩ = some (.int .i64 (wrap64 (bt a0 1))) := (blk_cell BK136.out 0).trans rfl
                    have hcz40_1 : wr.cell? ⟨gb136, 1, none⟩ = some (.int .i64 (wrap64 (t134))) := (blk_cell BK136.out 1).trans rfl
                    have hcz40_2 : wr.cell? ⟨gb136, 2, none⟩ = some (u137002) := (blk_cell BK136.out 2).trans rfl
                    have hfz40_0 := blk_frozen BK136.out 0
                    have hfz40_1 := blk_frozen BK136.out 1
                    have hfz40_2 := blk_frozen BK136.out 2
                    obtain ⟨Ao41, co41, eo41⟩ := Kd.S_slice HO_137002.out
                    subst eo41
                    go_wp2_with (first | ((with_reducible refine gate_callee (f := 36) rfl ?_); refine goesL_ (some 48) rfl rfl Try.func36 (by kernel_rfl) rfl #[.agg #[.int .i64 (wrap64 (bt a0 1)), .int .i64 (wrap64 (t134)), .slice Ao41 x137002_1.length co41]] rfl (by (try simp only [List.map_toArray, List.map_cons, List.map_nil]); first | done | rfl | (simp only [List.length_drop, List.length_take]; rfl)) ?_; (with_reducible refine (slot_Pack.calls k1 (wrap64 (bt a0 1)) (wrap64 (t134)) _ _ x137002_1 t148 t149 _ ?side1 ?side2 A25.out).mono ?_); (case side1 => repeat (first | exact (Kd.S_reads' HO_137002.out).2.2 | (with_reducible refine Kd.C_alloc ?_ _) | (with_reducible refine Kd.C_drewN ?_ _) | (with_reducible refine Kd.C_drew ?_))); (case side2 => exact (Kd.S_reads' HO_137002.out).2.1); rintro e w42 ⟨rfl, hb⟩; refine ⟨_, rfl, ?_⟩; have n0_ := Aside0.mk (Kd.S_below (by (with_reducible repeat (first | apply Kd.S_alloc | apply Kd.S_drewN | apply Kd.S_drew)); exact HO_137002.out) hb); have n1_ := Aside0.mk (blk_below (g := gb133) (o := .cells #[.int .i64 0, .int .i64 0, .slice none 0 0] 64 (0, 0)) (by (with_reducible repeat (first | refine blk_drewN ?_ _ | refine blk_drew ?_ | refine blk_alloc ?_ _)); exact BK133.out) hb); have n2_ := Aside0.mk (blk_below (g := gb136) (o := .cells #[.int .i64 (wrap64 (bt a0 1)), .int .i64 (wrap64 (t134)), .slice Ao41 x137002_1.length co41] 64 (0, 0)) (by (with_reducible repeat (first | refine blk_drewN ?_ _ | refine blk_drew ?_ | refine blk_alloc ?_ _)); exact BK136.out) hb); have n3_ := Aside0.mk (below_step (by repeat (first | (with_reducible first | exact HB.out | apply below_alloc | apply pw_below_drewN | apply below_drew1 | refine below_set ?_ GE133.out | refine below_set ?_ GE136.out) | exact HB.out)) hb); clear HO_137002; clear BK133; clear BK136; clear HB; have HO_137002 := n0_; have BK133 := n1_; have BK136 := n2_; have HB := n3_; clear n0_ n1_ n2_ n3_; (try clear hb); (try clear hb2); (try clear hk); (try clear hi); have hcz43_0 : w42.cell? ⟨gb133, 0, none⟩ = some (.int .i64 0) := (blk_cell BK133.out 0).trans rfl; have hcz43_1 : w42.cell? ⟨gb133, 1, none⟩ = some (.int .i64 0) := (blk_cell BK133.out 1).trans rfl; have hcz43_2 : w42.cell? ⟨gb133, 2, none⟩ = some (.slice none 0 0) := (blk_cell BK133.out 2).trans rfl; have hfz43_0 := blk_frozen BK133.out 0; have hfz43_1 := blk_frozen BK133.out 1; have hfz43_2 := blk_frozen BK133.out 2))
                    refine bodyPost_ret (results_ct rfl _ _ gb133 64 #[.int .i64 0, .int .i64 0, .slice none 0 0] (0, 0) _ rfl (by (with_reducible repeat (first | refine blk_drewN ?_ _ | refine blk_drew ?_ | refine blk_alloc ?_ _)); refine blk_put (cs := #[.int .i64 0, .int .i64 0, .slice none 0 0]) ?_ 2 _ rfl; (with_reducible repeat (first | refine blk_drewN ?_ _ | refine blk_drew ?_ | refine blk_alloc ?_ _)); refine blk_put (cs := #[.int .i64 0, .int .i64 0, .slice none 0 0]) ?_ 1 _ rfl; (with_reducible repeat (first | refine blk_drewN ?_ _ | refine blk_drew ?_ | refine blk_alloc ?_ _)); refine blk_put (cs := #[.int .i64 0, .int .i64 0, .slice none 0 0]) ?_ 0 _ rfl; (with_reducible repeat (first | refine blk_drewN ?_ _ | refine blk_drew ?_ | refine blk_alloc ?_ _)); exact BK133.out) Try.underlying64 rfl (by kernel_rfl)) rfl ?_
                    exact ⟨_, by first | rfl | (simp [errW_none, errW_some] <;> rfl) | (simp [*, errW_none, errW_some] <;> rfl), by first | exact Kd.S_nil _ _ _ _ _ | exact Kd.N_nil _ _ _ _ _ | exact Kd.V_nil _ _ _ _ _ | exact Kd.Q_nil _ _ _ _ _ | exact Kd.R_nil _ _ _ _ _, by repeat (first | (with_reducible first | exact HB.out | apply below_alloc | apply pw_below_drewN | apply below_drew1 | refine below_set ?_ GE133.out | refine below_set ?_ GE136.out) | exact HB.out)⟩
              · rw [if_neg c12] at H
                exact absurd H (by simp)
            · rw [if_neg c11] at H
              exact absurd H (by simp)
          · rw [if_neg c10] at H
            have c10b0 : decide (x7_1 < 256) = false := decide_eq_false c10
            clear c10
            replace H := Option.bind_eq_some_iff.mp H
            obtain ⟨⟨t150, t151⟩, A440, H⟩ := H
            replace H : (if t151 = 0 then (if t150.toList = a0.toList then (some ((wrap64 (bt a0 1)), (wrap64 (t134)), x137002_1, 0)) else (some (0, 0, ([] : List (S76)), 3))) else (some (0, 0, ([] : List (S76)), 3))) = some (r1, r2, r3, r4) := H
            have A44 := Aside0.mk A440
            clear A440
            by_cases c45 : t151 = 0
            · rw [if_pos c45] at H
              have c45b0 : (t151 == 0) = true := beq_iff_eq.mpr c45
              have c45b1 : (t151 != 0) = false := bne_eq_false_iff_eq.mpr c45
              clear c45
              by_cases c46 : t150.toList = a0.toList
              · rw [if_pos c46] at H
                have c46b0 : (t150.toList == a0.toList) = true := beq_iff_eq.mpr c46
                have c46b1 : (t150.toList != a0.toList) = false := bne_eq_false_iff_eq.mpr c46
                clear c46
                simp only [Option.some.injEq, Prod.mk.injEq] at H
                obtain ⟨rfl, rfl, rfl, rfl⟩ := H
                have hnb47 := NB136_133.out
                have hnc47 := NB133_136.out
                have hcz48_0 : wr.cell? ⟨gb136, 0, none⟩ = some (.int .i64 (wrap64 (bt a0 1))) := (blk_cell BK136.out 0).trans rfl
                have hcz48_1 : wr.cell? ⟨gb136, 1, none⟩ = some (.int .i64 (wrap64 (t134))) := (blk_cell BK136.out 1).trans rfl
                have hcz48_2 : wr.cell? ⟨gb136, 2, none⟩ = some (u137002) := (blk_cell BK136.out 2).trans rfl
                have hfz48_0 := blk_frozen BK136.out 0
                have hfz48_1 := blk_frozen BK136.out 1
                have hfz48_2 := blk_frozen BK136.out 2
                obtain ⟨Ao49, co49, eo49⟩ := Kd.S_slice HO_137002.out
                subst eo49
                go_wp2_with (first | ((with_reducible refine gate_callee (f := 36) rfl ?_); refine goesL_ (some 48) rfl rfl Try.func36 (by kernel_rfl) rfl #[.agg #[.int .i64 (wrap64 (bt a0 1)), .int .i64 (wrap64 (t134)), .slice Ao49 x137002_1.length co49]] rfl (by (try simp only [List.map_toArray, List.map_cons, List.map_nil]); first | done | rfl | (simp only [List.length_drop, List.length_take]; rfl)) ?_; (with_reducible refine (slot_Pack.calls k1 (wrap64 (bt a0 1)) (wrap64 (t134)) _ _ x137002_1 t150 t151 _ ?side1 ?side2 A44.out).mono ?_); (case side1 => repeat (first | exact (Kd.S_reads' HO_137002.out).2.2 | (with_reducible refine Kd.C_alloc ?_ _) | (with_reducible refine Kd.C_drewN ?_ _) | (with_reducible refine Kd.C_drew ?_))); (case side2 => exact (Kd.S_reads' HO_137002.out).2.1); rintro e w50 ⟨rfl, hb⟩; refine ⟨_, rfl, ?_⟩; have n0_ := Aside0.mk (Kd.S_below (by (with_reducible repeat (first | apply Kd.S_alloc | apply Kd.S_drewN | apply Kd.S_drew)); exact HO_137002.out) hb); have n1_ := Aside0.mk (blk_below (g := gb133) (o := .cells #[.int .i64 0, .int .i64 0, .slice none 0 0] 64 (0, 0)) (by (with_reducible repeat (first | refine blk_drewN ?_ _ | refine blk_drew ?_ | refine blk_alloc ?_ _)); exact BK133.out) hb); have n2_ := Aside0.mk (blk_below (g := gb136) (o := .cells #[.int .i64 (wrap64 (bt a0 1)), .int .i64 (wrap64 (t134)), .slice Ao49 x137002_1.length co49] 64 (0, 0)) (by (with_reducible repeat (first | refine blk_drewN ?_ _ | refine blk_drew ?_ | refine blk_alloc ?_ _)); exact BK136.out) hb); have n3_ := Aside0.mk (below_step (by repeat (first | (with_reducible first | exact HB.out | apply below_alloc | apply pw_below_drewN | apply below_drew1 | refine below_set ?_ GE133.out | refine below_set ?_ GE136.out) | exact HB.out)) hb); clear HO_137002; clear BK133; clear BK136; clear HB; have HO_137002 := n0_; have BK133 := n1_; have BK136 := n2_; have HB := n3_; clear n0_ n1_ n2_ n3_; (try clear hb); (try clear hb2); (try clear hk); (try clear hi); have hcz51_0 : w50.cell? ⟨gb136, 0, none⟩ = some (.int .i64 (wrap64 (bt a0 1))) := (blk_cell BK136.out 0).trans rfl; have hcz51_1 : w50.cell? ⟨gb136, 1, none⟩ = some (.int .i64 (wrap64 (t134))) := (blk_cell BK136.out 1).trans rfl; have hcz51_2 : w50.cell? ⟨gb136, 2, none⟩ = some (.slice Ao49 x137002_1.length co49) := (blk_cell BK136.out 2).trans rfl; have hfz51_0 := blk_frozen BK136.out 0; have hfz51_1 := blk_frozen BK136.out 1; have hfz51_2 := blk_frozen BK136.out 2; have hcz52_0 : w50.cell? ⟨gb133, 0, none⟩ = some (.int .i64 0) := (blk_cell BK133.out 0).trans rfl; have hcz52_1 : w50.cell? ⟨gb133, 1, none⟩ = some (.int .i64 0) := (blk_cell BK133.out 1).trans rfl; have hcz52_2 : w50.cell? ⟨gb133, 2, none⟩ = some (.slice none 0 0) := (blk_cell BK133.out 2).trans rfl; have hfz52_0 := blk_frozen BK133.out 0; have hfz52_1 := blk_frozen BK133.out 1; have hfz52_2 := blk_frozen BK133.out 2))
                refine bodyPost_ret (results_ct rfl _ _ gb133 64 #[.int .i64 (wrap64 (bt a0 1)), .int .i64 (wrap64 (t134)), .slice Ao49 x137002_1.length co49] (0, 0) _ rfl (by (with_reducible repeat (first | refine blk_drewN ?_ _ | refine blk_drew ?_ | refine blk_alloc ?_ _)); refine blk_put (cs := #[.int .i64 (wrap64 (bt a0 1)), .int .i64 (wrap64 (t134)), .slice none 0 0]) ?_ 2 _ rfl; (with_reducible repeat (first | refine blk_drewN ?_ _ | refine blk_drew ?_ | refine blk_alloc ?_ _)); refine blk_put (cs := #[.int .i64 (wrap64 (bt a0 1)), .int .i64 0, .slice none 0 0]) ?_ 1 _ rfl; (with_reducible repeat (first | refine blk_drewN ?_ _ | refine blk_drew ?_ | refine blk_alloc ?_ _)); refine blk_put (cs := #[.int .i64 0, .int .i64 0, .slice none 0 0]) ?_ 0 _ rfl; (with_reducible repeat (first | refine blk_drewN ?_ _ | refine blk_drew ?_ | refine blk_alloc ?_ _)); exact BK133.out) Try.underlying64 rfl (by kernel_rfl)) rfl ?_
                exact ⟨_, by first | rfl | (simp [errW_none, errW_some] <;> rfl) | (simp [*, errW_none, errW_some] <;> rfl), by (with_reducible repeat (first | apply Kd.S_alloc | apply Kd.S_drewN | apply Kd.S_drew)); exact Kd.S_mono (Kd.S_far (p := ⟨gb133, 2, none⟩) (Kd.S_far (p := ⟨gb133, 1, none⟩) (Kd.S_far (p := ⟨gb133, 0, none⟩) (Kd.S_types HO_137002.out BK133.out (by decide)) (fun _ hk => hk.2) (.int .i64 (wrap64 (bt a0 1)))) (fun _ hk => hk.2) (.int .i64 (wrap64 (t134)))) (fun _ hk => hk.2) (.slice Ao49 x137002_1.length co49)) (fun _ hk => trivial), by repeat (first | (with_reducible first | exact HB.out | apply below_alloc | apply pw_below_drewN | apply below_drew1 | refine below_set ?_ GE133.out | refine below_set ?_ GE136.out) | exact HB.out)⟩
              · rw [if_neg c46] at H
                have c46b0 : (t150.toList == a0.toList) = false := beq_eq_false_iff_ne.mpr c46
                have c46b1 : (t150.toList != a0.toList) = true := bne_iff_ne.mpr c46
                simp only [Option.some.injEq, Prod.mk.injEq] at H
                obtain ⟨rfl, rfl, rfl, rfl⟩ := H
                have hnb53 := NB136_133.out
                have hnc53 := NB133_136.out
                have hcz54_0 : wr.cell? ⟨gb136, 0, none⟩ = some (.int .i64 (wrap64 (bt a0 1))) := (blk_cell BK136.out 0).trans rfl
                have hcz54_1 : wr.cell? ⟨gb136, 1, none⟩ = some (.int .i64 (wrap64 (t134))) := (blk_cell BK136.out 1).trans rfl
                have hcz54_2 : wr.cell? ⟨gb136, 2, none⟩ = some (u137002) := (blk_cell BK136.out 2).trans rfl
                have hfz54_0 := blk_frozen BK136.out 0
                have hfz54_1 := blk_frozen BK136.out 1
                have hfz54_2 := blk_frozen BK136.out 2
                obtain ⟨Ao55, co55, eo55⟩ := Kd.S_slice HO_137002.out
                subst eo55
                go_wp2_with (first | ((with_reducible refine gate_callee (f := 36) rfl ?_); refine goesL_ (some 48) rfl rfl Try.func36 (by kernel_rfl) rfl #[.agg #[.int .i64 (wrap64 (bt a0 1)), .int .i64 (wrap64 (t134)), .slice Ao55 x137002_1.length co55]] rfl (by (try simp only [List.map_toArray, List.map_cons, List.map_nil]); first | done | rfl | (simp only [List.length_drop, List.length_take]; rfl)) ?_; (with_reducible refine (slot_Pack.calls k1 (wrap64 (bt a0 1)) (wrap64 (t134)) _ _ x137002_1 t150 t151 _ ?side1 ?side2 A44.out).mono ?_); (case side1 => repeat (first | exact (Kd.S_reads' HO_137002.out).2.2 | (with_reducible refine Kd.C_alloc ?_ _) | (with_reducible refine Kd.C_drewN ?_ _) | (with_reducible refine Kd.C_drew ?_))); (case side2 => exact (Kd.S_reads' HO_137002.out).2.1); rintro e w56 ⟨rfl, hb⟩; refine ⟨_, rfl, ?_⟩; have n0_ := Aside0.mk (Kd.S_below (by (with_reducible repeat (first | apply Kd.S_alloc | apply Kd.S_drewN | apply Kd.S_drew)); exact HO_137002.out) hb); have n1_ := Aside0.mk (blk_below (g := gb133) (o := .cells #[.int .i64 0, .int .i64 0, .slice none 0 0] 64 (0, 0)) (by (with_reducible repeat (first | refine blk_drewN ?_ _ | refine blk_drew ?_ | refine blk_alloc ?_ _)); exact BK133.out) hb); have n2_ := Aside0.mk (blk_below (g := gb136) (o := .cells #[.int .i64 (wrap64 (bt a0 1)), .int .i64 (wrap64 (t134)), .slice Ao55 x137002_1.length co55] 64 (0, 0)) (by (with_reducible repeat (first | refine blk_drewN ?_ _ | refine blk_drew ?_ | refine blk_alloc ?_ _)); exact BK136.out) hb); have n3_ := Aside0.mk (below_step (by repeat (first | (with_reducible first | exact HB.out | apply below_alloc | apply pw_below_drewN | apply below_drew1 | refine below_set ?_ GE133.out | refine below_set ?_ GE136.out) | exact HB.out)) hb); clear HO_137002; clear BK133; clear BK136; clear HB; have HO_137002 := n0_; have BK133 := n1_; have BK136 := n2_; have HB := n3_; clear n0_ n1_ n2_ n3_; (try clear hb); (try clear hb2); (try clear hk); (try clear hi); have hcz57_0 : w56.cell? ⟨gb133, 0, none⟩ = some (.int .i64 0) := (blk_cell BK133.out 0).trans rfl; have hcz57_1 : w56.cell? ⟨gb133, 1, none⟩ = some (.int .i64 0) := (blk_cell BK133.out 1).trans rfl; have hcz57_2 : w56.cell? ⟨gb133, 2, none⟩ = some (.slice none 0 0) := (blk_cell BK133.out 2).trans rfl; have hfz57_0 := blk_frozen BK133.out 0; have hfz57_1 := blk_frozen BK133.out 1; have hfz57_2 := blk_frozen BK133.out 2))
                refine bodyPost_ret (results_ct rfl _ _ gb133 64 #[.int .i64 0, .int .i64 0, .slice none 0 0] (0, 0) _ rfl (by (with_reducible repeat (first | refine blk_drewN ?_ _ | refine blk_drew ?_ | refine blk_alloc ?_ _)); refine blk_put (cs := #[.int .i64 0, .int .i64 0, .slice none 0 0]) ?_ 2 _ rfl; (with_reducible repeat (first | refine blk_drewN ?_ _ | refine blk_drew ?_ | refine blk_alloc ?_ _)); refine blk_put (cs := #[.int .i64 0, .int .i64 0, .slice none 0 0]) ?_ 1 _ rfl; (with_reducible repeat (first | refine blk_drewN ?_ _ | refine blk_drew ?_ | refine blk_alloc ?_ _)); refine blk_put (cs := #[.int .i64 0, .int .i64 0, .slice none 0 0]) ?_ 0 _ rfl; (with_reducible repeat (first | refine blk_drewN ?_ _ | refine blk_drew ?_ | refine blk_alloc ?_ _)); exact BK133.out) Try.underlying64 rfl (by kernel_rfl)) rfl ?_
                exact ⟨_, by first | rfl | (simp [errW_none, errW_some] <;> rfl) | (simp [*, errW_none, errW_some] <;> rfl), by first | exact Kd.S_nil _ _ _ _ _ | exact Kd.N_nil _ _ _ _ _ | exact Kd.V_nil _ _ _ _ _ | exact Kd.Q_nil _ _ _ _ _ | exact Kd.R_nil _ _ _ _ _, by repeat (first | (with_reducible first | exact HB.out | apply below_alloc | apply pw_below_drewN | apply below_drew1 | refine below_set ?_ GE133.out | refine below_set ?_ GE136.out) | exact HB.out)⟩
            · rw [if_neg c45] at H
              have c45b0 : (t151 == 0) = false := beq_eq_false_iff_ne.mpr c45
              have c45b1 : (t151 != 0) = true := bne_iff_ne.mpr c45
              simp only [Option.some.injEq, Prod.mk.injEq] at H
              obtain ⟨rfl, rfl, rfl, rfl⟩ := H
              have hnb58 := NB136_133.out
              have hnc58 := NB133_136.out
              have hcz59_0 : wr.cell? ⟨gb136, 0, none⟩ = some (.int .i64 (wrap64 (bt a0 1))) := (blk_cell BK136.out 0).trans rfl
              have hcz59_1 : wr.cell? ⟨gb136, 1, none⟩ = some (.int .i64 (wrap64 (t134))) := (blk_cell BK136.out 1).trans rfl
              have hcz59_2 : wr.cell? ⟨gb136, 2, none⟩ = some (u137002) := (blk_cell BK136.out 2).trans rfl
              have hfz59_0 := blk_frozen BK136.out 0
              have hfz59_1 := blk_frozen BK136.out 1
              have hfz59_2 := blk_frozen BK136.out 2
              obtain ⟨Ao60, co60, eo60⟩ := Kd.S_slice HO_137002.out
              subst eo60
              go_wp2_with (first | ((with_reducible refine gate_callee (f := 36) rfl ?_); refine goesL_ (some 48) rfl rfl Try.func36 (by kernel_rfl) rfl #[.agg #[.int .i64 (wrap64 (bt a0 1)), .int .i64 (wrap64 (t134)), .slice Ao60 x137002_1.length co60]] rfl (by (try simp only [List.map_toArray, List.map_cons, List.map_nil]); first | done | rfl | (simp only [List.length_drop, List.length_take]; rfl)) ?_; (with_reducible refine (slot_Pack.calls k1 (wrap64 (bt a0 1)) (wrap64 (t134)) _ _ x137002_1 t150 t151 _ ?side1 ?side2 A44.out).mono ?_); (case side1 => repeat (first | exact (Kd.S_reads' HO_137002.out).2.2 | (with_reducible refine Kd.C_alloc ?_ _) | (with_reducible refine Kd.C_drewN ?_ _) | (with_reducible refine Kd.C_drew ?_))); (case side2 => exact (Kd.S_reads' HO_137002.out).2.1); rintro e w61 ⟨rfl, hb⟩; refine ⟨_, rfl, ?_⟩; have n0_ := Aside0.mk (Kd.S_below (by (with_reducible repeat (first | apply Kd.S_alloc | apply Kd.S_drewN | apply Kd.S_drew)); exact HO_137002.out) hb); have n1_ := Aside0.mk (blk_below (g := gb133) (o := .cells #[.int .i64 0, .int .i64 0, .slice none 0 0] 64 (0, 0)) (by (with_reducible repeat (first | refine blk_drewN ?_ _ | refine blk_drew ?_ | refine blk_alloc ?_ _)); exact BK133.out) hb); have n2_ := Aside0.mk (blk_below (g := gb136) (o := .cells #[.int .i64 (wrap64 (bt a0 1)), .int .i64 (wrap64 (t134)), .slice Ao60 x137002_1.length co60] 64 (0, 0)) (by (with_reducible repeat (first | refine blk_drewN ?_ _ | refine blk_drew ?_ | refine blk_alloc ?_ _)); exact BK136.out) hb); have n3_ := Aside0.mk (below_step (by repeat (first | (with_reducible first | exact HB.out | apply below_alloc | apply pw_below_drewN | apply below_drew1 | refine below_set ?_ GE133.out | refine below_set ?_ GE136.out) | exact HB.out)) hb); clear HO_137002; clear BK133; clear BK136; clear HB; have HO_137002 := n0_; have BK133 := n1_; have BK136 := n2_; have HB := n3_; clear n0_ n1_ n2_ n3_; (try clear hb); (try clear hb2); (try clear hk); (try clear hi); have hcz62_0 : w61.cell? ⟨gb133, 0, none⟩ = some (.int .i64 0) := (blk_cell BK133.out 0).trans rfl; have hcz62_1 : w61.cell? ⟨gb133, 1, none⟩ = some (.int .i64 0) := (blk_cell BK133.out 1).trans rfl; have hcz62_2 : w61.cell? ⟨gb133, 2, none⟩ = some (.slice none 0 0) := (blk_cell BK133.out 2).trans rfl; have hfz62_0 := blk_frozen BK133.out 0; have hfz62_1 := blk_frozen BK133.out 1; have hfz62_2 := blk_frozen BK133.out 2))
              refine bodyPost_ret (results_ct rfl _ _ gb133 64 #[.int .i64 0, .int .i64 0, .slice none 0 0] (0, 0) _ rfl (by (with_reducible repeat (first | refine blk_drewN ?_ _ | refine blk_drew ?_ | refine blk_alloc ?_ _)); refine blk_put (cs := #[.int .i64 0, .int .i64 0, .slice none 0 0]) ?_ 2 _ rfl; (with_reducible repeat (first | refine blk_drewN ?_ _ | refine blk_drew ?_ | refine blk_alloc ?_ _)); refine blk_put (cs := #[.int .i64 0, .int .i64 0, .slice none 0 0]) ?_ 1 _ rfl; (with_reducible repeat (first | refine blk_drewN ?_ _ | refine blk_drew ?_ | refine blk_alloc ?_ _)); refine blk_put (cs := #[.int .i64 0, .int .i64 0, .slice none 0 0]) ?_ 0 _ rfl; (with_reducible repeat (first | refine blk_drewN ?_ _ | refine blk_drew ?_ | refine blk_alloc ?_ _)); exact BK133.out) Try.underlying64 rfl (by kernel_rfl)) rfl ?_
              exact ⟨_, by first | rfl | (simp [errW_none, errW_some] <;> rfl) | (simp [*, errW_none, errW_some] <;> rfl), by first | exact Kd.S_nil _ _ _ _ _ | exact Kd.N_nil _ _ _ _ _ | exact Kd.V_nil _ _ _ _ _ | exact Kd.Q_nil _ _ _ _ _ | exact Kd.R_nil _ _ _ _ _, by repeat (first | (with_reducible first | exact HB.out | apply below_alloc | apply pw_below_drewN | apply below_drew1 | refine below_set ?_ GE133.out | refine below_set ?_ GE136.out) | exact HB.out)⟩
    · rw [if_neg c4] at H
      exact absurd H (by simp)
  · rw [if_neg c2] at H
    have c2b0 : ((a0.size : Int) == 256) = false := beq_eq_false_iff_ne.mpr c2
    have c2b1 : ((a0.size : Int) != 256) = true := bne_iff_ne.mpr c2
    simp only [Option.some.injEq, Prod.mk.injEq] at H
    obtain ⟨rfl, rfl, rfl, rfl⟩ := H
    go_enter Try.func39, Try.ntmps39
    go_wp2_with (first | ((with_reducible refine gate_dst (N := 2) rfl ?_); refine box_event ?hg (N := 2) ?hd (cs := #[.int .i64 0, .int .i64 0, .slice none 0 0]) (t := 64) ?hr ?_; (case hd => rfl); (case hg => rfl); (case hr => first | (go_simp; done) | (go_simp; rfl)); intro gb133 hg w63 hbox hb; have n0_ := Aside0.mk (below_step (by repeat (first | (with_reducible first | exact HB.out | apply below_alloc | apply pw_below_drewN | apply below_drew1) | exact HB.out)) hb); have n1_ := Aside0.mk (hbox); have n2_ := Aside0.mk ((by rw [hg]; exact (below_size (by repeat (first | (with_reducible first | exact HB.out | apply below_alloc | apply pw_below_drewN | apply below_drew1) | exact HB.out))) : w.heap.size ≤ gb133)); have n3_ := Aside0.mk ((by rw [hg]; exact (below_size (by repeat (first | (with_reducible first | exact HB.out | apply below_alloc | apply pw_below_drewN | apply below_drew1) | exact HB.out))) : w.heap.size ≤ gb133)); clear HB; have HB := n0_; have BK133 := n1_; have GW133 := n2_; have GE133 := n3_; clear n0_ n1_ n2_ n3_; clear hb hbox hg; have hcz64_0 : w63.cell? ⟨gb133, 0, none⟩ = some (.int .i64 0) := (blk_cell BK133.out 0).trans rfl; have hcz64_1 : w63.cell? ⟨gb133, 1, none⟩ = some (.int .i64 0) := (blk_cell BK133.out 1).trans rfl; have hcz64_2 : w63.cell? ⟨gb133, 2, none⟩ = some (.slice none 0 0) := (blk_cell BK133.out 2).trans rfl; have hfz64_0 := blk_frozen BK133.out 0; have hfz64_1 := blk_frozen BK133.out 1; have hfz64_2 := blk_frozen BK133.out 2))
    refine bodyPost_ret (results_ct rfl _ _ gb133 64 #[.int .i64 0, .int .i64 0, .slice none 0 0] (0, 0) _ rfl (by (with_reducible repeat (first | refine blk_drewN ?_ _ | refine blk_drew ?_ | refine blk_alloc ?_ _)); refine blk_put (cs := #[.int .i64 0, .int .i64 0, .slice none 0 0]) ?_ 2 _ rfl; (with_reducible repeat (first | refine blk_drewN ?_ _ | refine blk_drew ?_ | refine blk_alloc ?_ _)); refine blk_put (cs := #[.int .i64 0, .int .i64 0, .slice none 0 0]) ?_ 1 _ rfl; (with_reducible repeat (first | refine blk_drewN ?_ _ | refine blk_drew ?_ | refine blk_alloc ?_ _)); refine blk_put (cs := #[.int .i64 0, .int .i64 0, .slice none 0 0]) ?_ 0 _ rfl; (with_reducible repeat (first | refine blk_drewN ?_ _ | refine blk_drew ?_ | refine blk_alloc ?_ _)); exact BK133.out) Try.underlying64 rfl (by kernel_rfl)) rfl ?_
    exact ⟨_, by first | rfl | (simp [errW_none, errW_some] <;> rfl) | (simp [*, errW_none, errW_some] <;> rfl), by first | exact Kd.S_nil _ _ _ _ _ | exact Kd.N_nil _ _ _ _ _ | exact Kd.V_nil _ _ _ _ _ | exact Kd.Q_nil _ _ _ _ _ | exact Kd.R_nil _ _ _ _ _, by repeat (first | (with_reducible first | exact HB.out | apply below_alloc | apply pw_below_drewN | apply below_drew1 | refine below_set ?_ GE133.out) | exact HB.out)⟩

/-! ### aumbrylaw15_wakes: function 29 -/
def aumbrylaw15_wakes.f (k : Nat)  : Option (Bool) := (slot_Address.f 1 1).bind fun bt152 => ((slot_Parts.f 65536).bind fun bt154 => ((slot_Hash.f k (⟨#[97]⟩ : ByteArray) ([] : List Int)).bind fun bt157 => ((slot_Address.f bt157.1 1).bind fun bt159 => ((slot_Pack.f k 2 9 (([(⟨bt159.1, (⟨#[97]⟩ : ByteArray), ([] : List Int), 3, false, 0⟩ : S76)] : List (S76)))).bind fun bt164 => ((slot_Unpack.f k bt164.1).bind fun bt166 => (if bt152.2 = 0 then (if bt152.1 = 65537 then (if bt154.2.2 = true then (none) else (if bt157.2 = 0 then (if bt159.2 = 0 then (if bt164.2 = 0 then (if (bt164.1.size : Int) = 256 then (if 0 ≤ 4 then (if 4 ≤ (bt164.1.size : Int) then (if (bt164.1.extract 0 4).toList = ([3, 2, 0, 9] : List UInt8) then (if bt166.2.2.2 = 0 then (if (bt166.2.2.1.length : Int) = 1 then (if 0 < (bt166.2.2.1.length : Int) then (some (((rd_T76 bt166.2.2.1 0).f3) == 3)) else (none)) else (none)) else (none)) else (none)) else (none)) else (none)) else (none)) else (none)) else (none)) else (none))) else (none)) else (none)))))))
theorem aumbrylaw15_wakes.mono : ∀ k, LeO (aumbrylaw15_wakes.f k ) (aumbrylaw15_wakes.f (k + 1) ) := by
  intro  k
  unfold aumbrylaw15_wakes.f
  repeat' first
      | (with_reducible exact slot_Hash.mono _ _ _)
      | (with_reducible exact slot_Pack.mono _ _ _ _)
      | (with_reducible exact slot_Unpack.mono _ _)
      | (with_reducible exact LeO.refl _)
      | (with_reducible exact LeO.none _)
      | (with_reducible refine LeO.ite ?_ ?_)
      | (with_reducible refine LeO.bind ?_ (fun _ => ?_))
      | exact slot_Hash.mono _ _ _
      | exact slot_Pack.mono _ _ _ _
      | exact slot_Unpack.mono _ _
      | exact LeO.none _
      | refine LeO.ite ?_ ?_
      | refine LeO.bind ?_ (fun _ => ?_)
set_option maxHeartbeats 8000000 in
set_option maxRecDepth 100000 in
theorem aumbrylaw15_wakes.calls (k : Nat)  (r : Bool) (w : World) (h : aumbrylaw15_wakes.f k  = some r) :
    Calls Try.prog 29 #[] w fun e w' => e = .returned (.bool r) ∧ Below w.heap.size w w' := by
  have hu76 := Try.underlying76
  have hu64 := Try.underlying64
  have HB := Aside0.mk (Below.refl w.heap.size w)
  have H : ((slot_Address.f 1 1).bind fun bt152 => ((slot_Parts.f 65536).bind fun bt154 => ((slot_Hash.f k (⟨#[97]⟩ : ByteArray) ([] : List Int)).bind fun bt157 => ((slot_Address.f bt157.1 1).bind fun bt159 => ((slot_Pack.f k 2 9 (([(⟨bt159.1, (⟨#[97]⟩ : ByteArray), ([] : List Int), 3, false, 0⟩ : S76)] : List (S76)))).bind fun bt164 => ((slot_Unpack.f k bt164.1).bind fun bt166 => (if bt152.2 = 0 then (if bt152.1 = 65537 then (if bt154.2.2 = true then (none) else (if bt157.2 = 0 then (if bt159.2 = 0 then (if bt164.2 = 0 then (if (bt164.1.size : Int) = 256 then (if 0 ≤ 4 then (if 4 ≤ (bt164.1.size : Int) then (if (bt164.1.extract 0 4).toList = ([3, 2, 0, 9] : List UInt8) then (if bt166.2.2.2 = 0 then (if (bt166.2.2.1.length : Int) = 1 then (if 0 < (bt166.2.2.1.length : Int) then (some (((rd_T76 bt166.2.2.1 0).f3) == 3)) else (none)) else (none)) else (none)) else (none)) else (none)) else (none)) else (none)) else (none)) else (none)) else (none))) else (none)) else (none)))))))) = some r := h
  clear h
  replace H := Option.bind_eq_some_iff.mp H
  obtain ⟨⟨t152, t153⟩, A10, H⟩ := H
  replace H : ((slot_Parts.f 65536).bind fun bt154 => ((slot_Hash.f k (⟨#[97]⟩ : ByteArray) ([] : List Int)).bind fun bt157 => ((slot_Address.f bt157.1 1).bind fun bt159 => ((slot_Pack.f k 2 9 (([(⟨bt159.1, (⟨#[97]⟩ : ByteArray), ([] : List Int), 3, false, 0⟩ : S76)] : List (S76)))).bind fun bt164 => ((slot_Unpack.f k bt164.1).bind fun bt166 => (if t153 = 0 then (if t152 = 65537 then (if bt154.2.2 = true then (none) else (if bt157.2 = 0 then (if bt159.2 = 0 then (if bt164.2 = 0 then (if (bt164.1.size : Int) = 256 then (if 0 ≤ 4 then (if 4 ≤ (bt164.1.size : Int) then (if (bt164.1.extract 0 4).toList = ([3, 2, 0, 9] : List UInt8) then (if bt166.2.2.2 = 0 then (if (bt166.2.2.1.length : Int) = 1 then (if 0 < (bt166.2.2.1.length : Int) then (some (((rd_T76 bt166.2.2.1 0).f3) == 3)) else (none)) else (none)) else (none)) else (none)) else (none)) else (none)) else (none)) else (none)) else (none)) else (none))) else (none)) else (none))))))) = some r := H
  have A1 := Aside0.mk A10
  clear A10
  replace H := Option.bind_eq_some_iff.mp H
  obtain ⟨⟨t154, t155, t156⟩, A20, H⟩ := H
  replace H : ((slot_Hash.f k (⟨#[97]⟩ : ByteArray) ([] : List Int)).bind fun bt157 => ((slot_Address.f bt157.1 1).bind fun bt159 => ((slot_Pack.f k 2 9 (([(⟨bt159.1, (⟨#[97]⟩ : ByteArray), ([] : List Int), 3, false, 0⟩ : S76)] : List (S76)))).bind fun bt164 => ((slot_Unpack.f k bt164.1).bind fun bt166 => (if t153 = 0 then (if t152 = 65537 then (if t156 = true then (none) else (if bt157.2 = 0 then (if bt159.2 = 0 then (if bt164.2 = 0 then (if (bt164.1.size : Int) = 256 then (if 0 ≤ 4 then (if 4 ≤ (bt164.1.size : Int) then (if (bt164.1.extract 0 4).toList = ([3, 2, 0, 9] : List UInt8) then (if bt166.2.2.2 = 0 then (if (bt166.2.2.1.length : Int) = 1 then (if 0 < (bt166.2.2.1.length : Int) then (some (((rd_T76 bt166.2.2.1 0).f3) == 3)) else (none)) else (none)) else (none)) else (none)) else (none)) else (none)) else (none)) else (none)) else (none)) else (none))) else (none)) else (none)))))) = some r := H
  have A2 := Aside0.mk A20
  clear A20
  replace H := Option.bind_eq_some_iff.mp H
  obtain ⟨⟨t157, t158⟩, A30, H⟩ := H
  replace H : ((slot_Address.f t157 1).bind fun bt159 => ((slot_Pack.f k 2 9 (([(⟨bt159.1, (⟨#[97]⟩ : ByteArray), ([] : List Int), 3, false, 0⟩ : S76)] : List (S76)))).bind fun bt164 => ((slot_Unpack.f k bt164.1).bind fun bt166 => (if t153 = 0 then (if t152 = 65537 then (if t156 = true then (none) else (if t158 = 0 then (if bt159.2 = 0 then (if bt164.2 = 0 then (if (bt164.1.size : Int) = 256 then (if 0 ≤ 4 then (if 4 ≤ (bt164.1.size : Int) then (if (bt164.1.extract 0 4).toList = ([3, 2, 0, 9] : List UInt8) then (if bt166.2.2.2 = 0 then (if (bt166.2.2.1.length : Int) = 1 then (if 0 < (bt166.2.2.1.length : Int) then (some (((rd_T76 bt166.2.2.1 0).f3) == 3)) else (none)) else (none)) else (none)) else (none)) else (none)) else (none)) else (none)) else (none)) else (none)) else (none))) else (none)) else (none))))) = some r := H
  have A3 := Aside0.mk A30
  clear A30
  replace H := Option.bind_eq_some_iff.mp H
  obtain ⟨⟨t159, t160⟩, A40, H⟩ := H
  replace H : ((slot_Pack.f k 2 9 (([(⟨t159, (⟨#[97]⟩ : ByteArray), ([] : List Int), 3, false, 0⟩ : S76)] : List (S76)))).bind fun bt164 => ((slot_Unpack.f k bt164.1).bind fun bt166 => (if t153 = 0 then (if t152 = 65537 then (if t156 = true then (none) else (if t158 = 0 then (if t160 = 0 then (if bt164.2 = 0 then (if (bt164.1.size : Int) = 256 then (if 0 ≤ 4 then (if 4 ≤ (bt164.1.size : Int) then (if (bt164.1.extract 0 4).toList = ([3, 2, 0, 9] : List UInt8) then (if bt166.2.2.2 = 0 then (if (bt166.2.2.1.length : Int) = 1 then (if 0 < (bt166.2.2.1.length : Int) then (some (((rd_T76 bt166.2.2.1 0).f3) == 3)) else (none)) else (none)) else (none)) else (none)) else (none)) else (none)) else (none)) else (none)) else (none)) else (none))) else (none)) else (none)))) = some r := H
  have A4 := Aside0.mk A40
  clear A40
  obtain ⟨y161, hy161⟩ : ∃ y_ : List (S76), y_ = (([(⟨t159, (⟨#[97]⟩ : ByteArray), ([] : List Int), 3, false, 0⟩ : S76)] : List (S76))) := ⟨_, rfl⟩
  replace H : ((slot_Pack.f k 2 9 y161).bind fun bt164 => ((slot_Unpack.f k bt164.1).bind fun bt166 => (if t153 = 0 then (if t152 = 65537 then (if t156 = true then (none) else (if t158 = 0 then (if t160 = 0 then (if bt164.2 = 0 then (if (bt164.1.size : Int) = 256 then (if 0 ≤ 4 then (if 4 ≤ (bt164.1.size : Int) then (if (bt164.1.extract 0 4).toList = ([3, 2, 0, 9] : List UInt8) then (if bt166.2.2.2 = 0 then (if (bt166.2.2.1.length : Int) = 1 then (if 0 < (bt166.2.2.1.length : Int) then (some (((rd_T76 bt166.2.2.1 0).f3) == 3)) else (none)) else (none)) else (none)) else (none)) else (none)) else (none)) else (none)) else (none)) else (none)) else (none))) else (none)) else (none)))) = some r := by first | (rw [hy161]; with_reducible exact H) | (have H2_ := (Option.bind_some _ _).symm.trans H; rw [hy161]; with_reducible exact H2_) | (have H2_ := (Option.bind_some _ _).symm.trans H; with_reducible exact H2_) | with_reducible exact H | (rw [hy161]; exact H) | exact H
  have Ny161 := Aside0.mk hy161
  clear hy161
  replace H := Option.bind_eq_some_iff.mp H
  obtain ⟨⟨t164, t165⟩, A50, H⟩ := H
  replace H : ((slot_Unpack.f k t164).bind fun bt166 => (if t153 = 0 then (if t152 = 65537 then (if t156 = true then (none) else (if t158 = 0 then (if t160 = 0 then (if t165 = 0 then (if (t164.size : Int) = 256 then (if 0 ≤ 4 then (if 4 ≤ (t164.size : Int) then (if (t164.extract 0 4).toList = ([3, 2, 0, 9] : List UInt8) then (if bt166.2.2.2 = 0 then (if (bt166.2.2.1.length : Int) = 1 then (if 0 < (bt166.2.2.1.length : Int) then (some (((rd_T76 bt166.2.2.1 0).f3) == 3)) else (none)) else (none)) else (none)) else (none)) else (none)) else (none)) else (none)) else (none)) else (none)) else (none))) else (none)) else (none))) = some r := H
  have A5 := Aside0.mk A50
  clear A50
  replace H := Option.bind_eq_some_iff.mp H
  obtain ⟨⟨t166, t167, t168, t171⟩, A60, H⟩ := H
  replace H : (if t153 = 0 then (if t152 = 65537 then (if t156 = true then (none) else (if t158 = 0 then (if t160 = 0 then (if t165 = 0 then (if (t164.size : Int) = 256 then (if 0 ≤ 4 then (if 4 ≤ (t164.size : Int) then (if (t164.extract 0 4).toList = ([3, 2, 0, 9] : List UInt8) then (if t171 = 0 then (if (t168.length : Int) = 1 then (if 0 < (t168.length : Int) then (some (((rd_T76 t168 0).f3) == 3)) else (none)) else (none)) else (none)) else (none)) else (none)) else (none)) else (none)) else (none)) else (none)) else (none))) else (none)) else (none)) = some r := H
  have A6 := Aside0.mk A60
  clear A60
  by_cases c7 : t153 = 0
  · rw [if_pos c7] at H
    have c7b0 : (t153 == 0) = true := beq_iff_eq.mpr c7
    have c7b1 : (t153 != 0) = false := bne_eq_false_iff_eq.mpr c7
    clear c7
    by_cases c8 : t152 = 65537
    · rw [if_pos c8] at H
      have c8b0 : (t152 == 65537) = true := beq_iff_eq.mpr c8
      have c8b1 : (t152 != 65537) = false := bne_eq_false_iff_eq.mpr c8
      clear c8
      by_cases c9 : t156 = true
      · subst c9
        have H1 : (none : Option Bool) = some r := by rw [if_pos rfl] at H; exact H
        exact absurd H1 (by simp)
      · replace c9 := Bool.eq_false_iff.mpr c9
        subst c9
        have H1 : (if t158 = 0 then (if t160 = 0 then (if t165 = 0 then (if (t164.size : Int) = 256 then (if 0 ≤ 4 then (if 4 ≤ (t164.size : Int) then (if (t164.extract 0 4).toList = ([3, 2, 0, 9] : List UInt8) then (if t171 = 0 then (if (t168.length : Int) = 1 then (if 0 < (t168.length : Int) then (some (((rd_T76 t168 0).f3) == 3)) else (none)) else (none)) else (none)) else (none)) else (none)) else (none)) else (none)) else (none)) else (none)) else (none)) = some r := by rw [if_neg (show ¬ (false = true) by decide)] at H; exact H
        clear H
        have H := H1
        clear H1
        by_cases c19 : t158 = 0
        · rw [if_pos c19] at H
          have c19b0 : (t158 == 0) = true := beq_iff_eq.mpr c19
          have c19b1 : (t158 != 0) = false := bne_eq_false_iff_eq.mpr c19
          clear c19
          by_cases c20 : t160 = 0
          · rw [if_pos c20] at H
            have c20b0 : (t160 == 0) = true := beq_iff_eq.mpr c20
            have c20b1 : (t160 != 0) = false := bne_eq_false_iff_eq.mpr c20
            clear c20
            by_cases c21 : t165 = 0
            · rw [if_pos c21] at H
              have c21b0 : (t165 == 0) = true := beq_iff_eq.mpr c21
              have c21b1 : (t165 != 0) = false := bne_eq_false_iff_eq.mpr c21
              clear c21
              by_cases c22 : (t164.size : Int) = 256
              · rw [if_pos c22] at H
                have c22b0 : ((t164.size : Int) == 256) = true := beq_iff_eq.mpr c22
                have c22b1 : ((t164.size : Int) != 256) = false := bne_eq_false_iff_eq.mpr c22
                clear c22
                by_cases c23 : 0 ≤ 4
                · rw [if_pos c23] at H
                  have c23b0 := eq_true c23
                  have c23b1 : decide (0 ≤ 4) = true := decide_eq_true c23
                  clear c23
                  by_cases c24 : 4 ≤ (t164.size : Int)
                  · rw [if_pos c24] at H
                    have c24b0 := eq_true c24
                    have c24b1 : decide (4 ≤ (t164.size : Int)) = true := decide_eq_true c24
                    clear c24
                    by_cases c25 : (t164.extract 0 4).toList = ([3, 2, 0, 9] : List UInt8)
                    · rw [if_pos c25] at H
                      have c25b0 : ((t164.extract 0 4).toList == ([3, 2, 0, 9] : List UInt8)) = true := beq_iff_eq.mpr c25
                      have c25b1 : ((t164.extract 0 4).toList != ([3, 2, 0, 9] : List UInt8)) = false := bne_eq_false_iff_eq.mpr c25
                      clear c25
                      by_cases c26 : t171 = 0
                      · rw [if_pos c26] at H
                        have c26b0 : (t171 == 0) = true := beq_iff_eq.mpr c26
                        have c26b1 : (t171 != 0) = false := bne_eq_false_iff_eq.mpr c26
                        clear c26
                        by_cases c27 : (t168.length : Int) = 1
                        · rw [if_pos c27] at H
                          have c27b0 : ((t168.length : Int) == 1) = true := beq_iff_eq.mpr c27
                          have c27b1 : ((t168.length : Int) != 1) = false := bne_eq_false_iff_eq.mpr c27
                          clear c27
                          by_cases c28 : 0 < (t168.length : Int)
                          · rw [if_pos c28] at H
                            have c28b0 : decide (0 < (t168.length : Int)) = true := decide_eq_true c28
                            have c28b1 : decide (0 < t168.length) = true := decide_eq_true (by omega)
                            clear c28
                            obtain rfl := Option.some.inj H
                            go_enter Try.func29, Try.ntmps29
                            go_wp2_with (first | ((with_reducible refine gate_callee (f := 33) rfl ?_); refine goesL_ (some 15) rfl rfl Try.func33 (by kernel_rfl) rfl #[.int .u32 1, .int .i64 1] rfl (by (try simp only [List.map_toArray, List.map_cons, List.map_nil]); first | done | rfl | (simp only [List.length_drop, List.length_take]; rfl)) ?_; (with_reducible refine (slot_Address.calls 1 1 t152 t153 _ A1.out).mono ?_); rintro e w' ⟨rfl, ⟨nd, rfl⟩⟩; refine ⟨_, rfl, ?_⟩) | ((with_reducible refine gate_callee (f := 34) rfl ?_); refine goesL_ (some 19) rfl rfl Try.func34 (by kernel_rfl) rfl #[.int .u64 65536] rfl (by (try simp only [List.map_toArray, List.map_cons, List.map_nil]); first | done | rfl | (simp only [List.length_drop, List.length_take]; rfl)) ?_; (with_reducible refine (slot_Parts.calls 65536 t154 t155 false _ A2.out).mono ?_); rintro e w' ⟨rfl, ⟨nd, rfl⟩⟩; refine ⟨_, rfl, ?_⟩) | ((with_reducible refine gate_callee (f := 30) rfl ?_); refine goesL_ (some 24) rfl rfl Try.func30 (by kernel_rfl) rfl #[.string (⟨#[97]⟩ : ByteArray), .slice none 0 0] rfl (by (try simp only [List.map_toArray, List.map_cons, List.map_nil]); first | done | rfl | (simp only [List.length_drop, List.length_take]; rfl)) ?_; (refine (slot_Hash.calls k (⟨#[97]⟩ : ByteArray) _ _ ([] : List Int) t157 t158 _ ?side1 ?side2 A3.out).mono ?_); (case side1 => exact Kd.C_nil _ _); (case side2 => exact Nat.le_refl _); rintro e w29 ⟨rfl, hb⟩; refine ⟨_, rfl, ?_⟩; have n0_ := Aside0.mk (below_step (by repeat (first | (with_reducible first | exact HB.out | apply below_alloc | apply pw_below_drewN | apply below_drew1) | exact HB.out)) hb); clear HB; have HB := n0_; clear n0_; (try clear hb); (try clear hb2); (try clear hk); (try clear hi)) | ((with_reducible refine gate_callee (f := 33) rfl ?_); refine goesL_ (some 29) rfl rfl Try.func33 (by kernel_rfl) rfl #[.int .u32 t157, .int .i64 1] rfl (by (try simp only [List.map_toArray, List.map_cons, List.map_nil]); first | done | rfl | (simp only [List.length_drop, List.length_take]; rfl)) ?_; (with_reducible refine (slot_Address.calls t157 1 t159 t160 _ A4.out).mono ?_); rintro e w' ⟨rfl, ⟨nd, rfl⟩⟩; refine ⟨_, rfl, ?_⟩; (try (rw [drewN_self w29]; generalize hq_ : World.drewN w29 _ = w29; have n0_ : Aside0 (Below w.heap.size w w29) := ⟨by rw [← hq_]; exact (by repeat (first | (with_reducible first | exact HB.out | apply below_alloc | apply pw_below_drewN | apply below_drew1) | exact HB.out))⟩; clear HB hq_; have HB := n0_; clear n0_))) | ((with_reducible refine gate_dst (N := 35) rfl ?_); (try (refine gate_guard (by rfl) ?_; dsimp only)); refine Kd.S_lit k76 _ 76 ?hg (N := 35) ?hd (xs := ([(⟨t159, (⟨#[97]⟩ : ByteArray), ([] : List Int), 3, false, 0⟩ : S76)] : List (S76))) (inner := [.int .u64 t159, .string (⟨#[97]⟩ : ByteArray), .slice none 0 0, .int .i64 3, .bool false, .int .u64 0]) (ok := fun _ => True) (okp := fun _ => True) ?hr ?hp (fun _ hk => hk) trivial (Below.refl _ _) (Nat.le_refl _) (by simp) ?_; (case hd => rfl); (case hg => rfl); (case hr => first | (go_simp; done) | (go_simp; rfl)); (case hp => exact (Reps.c6 (show Kd.M k76 _ _ _ (⟨t159, (⟨#[97]⟩ : ByteArray), ([] : List Int), 3, false, 0⟩ : S76) [.int .u64 t159, .string (⟨#[97]⟩ : ByteArray), .slice none 0 0, .int .i64 3, .bool false, .int .u64 0] from (k76_mkM _ _ _ (⟨t159, (⟨#[97]⟩ : ByteArray), ([] : List Int), 3, false, 0⟩ : S76) (Kd.R_nil _ _ _ _ _))) (Reps.none _ _))); intro v162 w30 ho31 hb hg_ hnew_; clear hg_ hnew_; (first | rw [← Ny161.out] at ho31 | (simp only [Int.reduceToNat] at ho31; rw [← Ny161.out] at ho31)); have n0_ := Aside0.mk (Kd.S_lower ho31 (below_size (by repeat (first | (with_reducible first | exact HB.out | apply below_alloc | apply pw_below_drewN | apply below_drew1) | exact HB.out)))); have n1_ := Aside0.mk (below_step (by repeat (first | (with_reducible first | exact HB.out | apply below_alloc | apply pw_below_drewN | apply below_drew1) | exact HB.out)) hb); clear HB; have HO163 := n0_; have HB := n1_; clear n0_ n1_; clear hb ho31; obtain ⟨Ao32, co32, eo32⟩ := Kd.S_slice HO163.out; subst eo32) | ((with_reducible refine gate_callee (f := 36) rfl ?_); refine goesL_ (some 37) rfl rfl Try.func36 (by kernel_rfl) rfl #[.agg #[.int .i64 2, .int .i64 9, .slice Ao32 y161.length co32]] rfl (by (try simp only [List.map_toArray, List.map_cons, List.map_nil]); first | done | rfl | (simp only [List.length_drop, List.length_take]; rfl)) ?_; (with_reducible refine (slot_Pack.calls k 2 9 _ _ y161 t164 t165 _ ?side1 ?side2 A5.out).mono ?_); (case side1 => repeat (first | exact (Kd.S_reads' HO163.out).2.2 | (with_reducible refine Kd.C_alloc ?_ _) | (with_reducible refine Kd.C_drewN ?_ _) | (with_reducible refine Kd.C_drew ?_))); (case side2 => exact (Kd.S_reads' HO163.out).2.1); rintro e w33 ⟨rfl, hb⟩; refine ⟨_, rfl, ?_⟩; have n0_ := Aside0.mk (Kd.S_below (by (with_reducible repeat (first | apply Kd.S_alloc | apply Kd.S_drewN | apply Kd.S_drew)); exact HO163.out) hb); have n1_ := Aside0.mk (below_step (by repeat (first | (with_reducible first | exact HB.out | apply below_alloc | apply pw_below_drewN | apply below_drew1) | exact HB.out)) hb); clear HO163; clear HB; have HO163 := n0_; have HB := n1_; clear n0_ n1_; (try clear hb); (try clear hb2); (try clear hk); (try clear hi)) | ((with_reducible refine gate_callee (f := 39) rfl ?_); refine goesL_ (some 42) rfl rfl Try.func39 (by kernel_rfl) rfl #[.string t164] rfl (by (try simp only [List.map_toArray, List.map_cons, List.map_nil]); first | done | rfl | (simp only [List.length_drop, List.length_take]; rfl)) ?_; (with_reducible refine (slot_Unpack.calls k t164 t166 t167 t168 t171 _ A6.out).mono ?_); rintro e w34 ⟨v169, rfl, ho0, hb⟩; refine ⟨_, rfl, ?_⟩; have n0_ := Aside0.mk (Kd.S_elder' (by (with_reducible repeat (first | apply Kd.S_alloc | apply Kd.S_drewN | apply Kd.S_drew)); exact HO163.out) (Kd.S_base ho0) hb); have n1_ := Aside0.mk (Kd.S_lower (Kd.S_new' ho0 (Kd.S_lt (by (with_reducible repeat (first | apply Kd.S_alloc | apply Kd.S_drewN | apply Kd.S_drew)); exact HO163.out))) (below_size (by repeat (first | (with_reducible first | exact HB.out | apply below_alloc | apply pw_below_drewN | apply below_drew1) | exact HB.out)))); have n2_ := Aside0.mk (below_step (by repeat (first | (with_reducible first | exact HB.out | apply below_alloc | apply pw_below_drewN | apply below_drew1) | exact HB.out)) hb); clear HO163; clear HB; have HO163 := n0_; have HO170 := n1_; have HB := n2_; clear n0_ n1_ n2_; (try clear hb); (try clear hb2); (try clear hk); (try clear hi); (try clear ho0)) | ((with_reducible refine gate_dst (N := 12) rfl ?_); (try (refine gate_guard (by rfl) ?_; dsimp only)); refine box_event ?hg (N := 12) ?hd (cs := #[.int .i64 0, .int .i64 0, .slice none 0 0]) (t := 64) ?hr ?_; (case hd => rfl); (case hg => rfl); (case hr => first | (go_simp; done) | (go_simp; rfl)); intro gb172 hg w35 hbox hb; have n0_ := Aside0.mk (Kd.S_below (by (with_reducible repeat (first | apply Kd.S_alloc | apply Kd.S_drewN | apply Kd.S_drew)); exact HO163.out) hb); have n1_ := Aside0.mk (Kd.S_below (by (with_reducible repeat (first | apply Kd.S_alloc | apply Kd.S_drewN | apply Kd.S_drew)); exact HO170.out) hb); have n2_ := Aside0.mk (below_step (by repeat (first | (with_reducible first | exact HB.out | apply below_alloc | apply pw_below_drewN | apply below_drew1) | exact HB.out)) hb); have n3_ := Aside0.mk (hbox); have n4_ := Aside0.mk ((by rw [hg]; exact (below_size (by repeat (first | (with_reducible first | exact HB.out | apply below_alloc | apply pw_below_drewN | apply below_drew1) | exact HB.out))) : w.heap.size ≤ gb172)); have n5_ := Aside0.mk ((by rw [hg]; exact (below_size (by repeat (first | (with_reducible first | exact HB.out | apply below_alloc | apply pw_below_drewN | apply below_drew1) | exact HB.out))) : w.heap.size ≤ gb172)); clear HO163; clear HO170; clear HB; have HO163 := n0_; have HO170 := n1_; have HB := n2_; have BK172 := n3_; have GW172 := n4_; have GE172 := n5_; clear n0_ n1_ n2_ n3_ n4_ n5_; clear hb hbox hg; have hcz36_0 : w35.cell? ⟨gb172, 0, none⟩ = some (.int .i64 0) := (blk_cell BK172.out 0).trans rfl; have hcz36_1 : w35.cell? ⟨gb172, 1, none⟩ = some (.int .i64 0) := (blk_cell BK172.out 1).trans rfl; have hcz36_2 : w35.cell? ⟨gb172, 2, none⟩ = some (.slice none 0 0) := (blk_cell BK172.out 2).trans rfl; have hfz36_0 := blk_frozen BK172.out 0; have hfz36_1 := blk_frozen BK172.out 1; have hfz36_2 := blk_frozen BK172.out 2; obtain ⟨Ao37, co37, eo37⟩ := Kd.S_slice HO170.out; subst eo37) | ((with_reducible refine gate_store (t := 64) (p := 12) rfl ?_); refine store_event (t := 64) (p := 12) (v := ?vo_w38) (w1 := (((w35.setCell ⟨gb172, 0, none⟩ (.int .i64 t166)).setCell ⟨gb172, 1, none⟩ (.int .i64 t167)).setCell ⟨gb172, 2, none⟩ (.slice Ao37 t168.length co37))) ?hg ?ho ?hn ?hr ?_; (case ho => rfl); (case hg => rfl); (case hn => rfl); (case hr => first | (go_simp; done) | (go_simp; rfl)); intro w38 hw; have n0_ : Aside0 (Kd.S k76 76 w38 w.heap.size (fun k_ => some k_ ≠ (.slice Ao37 t168.length co37 : Value).ownBlock) (.slice Ao32 y161.length co32) y161) := ⟨(by rw [hw]; exact (by (with_reducible repeat (first | apply Kd.S_alloc | apply Kd.S_drewN | apply Kd.S_drew)); exact Kd.S_mono (Kd.S_far (p := ⟨gb172, 2, none⟩) (Kd.S_far (p := ⟨gb172, 1, none⟩) (Kd.S_far (p := ⟨gb172, 0, none⟩) (Kd.S_types HO163.out BK172.out (by decide)) (fun _ hk => hk.2) (.int .i64 t166)) (fun _ hk => hk.2) (.int .i64 t167)) (fun _ hk => hk.2) (.slice Ao37 t168.length co37)) (fun _ hk => hk.1.2)))⟩; have n1_ : Aside0 (Kd.S k76 76 w38 w.heap.size (fun k_ => some k_ ≠ (.slice Ao32 y161.length co32 : Value).ownBlock) (.slice Ao37 t168.length co37) t168) := ⟨(by rw [hw]; exact (by (with_reducible repeat (first | apply Kd.S_alloc | apply Kd.S_drewN | apply Kd.S_drew)); exact Kd.S_mono (Kd.S_far (p := ⟨gb172, 2, none⟩) (Kd.S_far (p := ⟨gb172, 1, none⟩) (Kd.S_far (p := ⟨gb172, 0, none⟩) (Kd.S_types HO170.out BK172.out (by decide)) (fun _ hk => hk.2) (.int .i64 t166)) (fun _ hk => hk.2) (.int .i64 t167)) (fun _ hk => hk.2) (.slice Ao37 t168.length co37)) (fun _ hk => hk.1.2)))⟩; have n2_ : Aside0 (w38.heap[gb172]? = some (.cells #[.int .i64 t166, .int .i64 t167, .slice Ao37 t168.length co37] 64 (0, 0))) := ⟨(by rw [hw]; exact (by (with_reducible repeat (first | refine blk_drewN ?_ _ | refine blk_drew ?_ | refine blk_alloc ?_ _)); refine blk_put (cs := #[.int .i64 t166, .int .i64 t167, .slice none 0 0]) ?_ 2 _ rfl; (with_reducible repeat (first | refine blk_drewN ?_ _ | refine blk_drew ?_ | refine blk_alloc ?_ _)); refine blk_put (cs := #[.int .i64 t166, .int .i64 0, .slice none 0 0]) ?_ 1 _ rfl; (with_reducible repeat (first | refine blk_drewN ?_ _ | refine blk_drew ?_ | refine blk_alloc ?_ _)); refine blk_put (cs := #[.int .i64 0, .int .i64 0, .slice none 0 0]) ?_ 0 _ rfl; (with_reducible repeat (first | refine blk_drewN ?_ _ | refine blk_drew ?_ | refine blk_alloc ?_ _)); exact BK172.out))⟩; have n3_ : Aside0 (Below w.heap.size w w38) := ⟨(by rw [hw]; exact (by repeat (first | (with_reducible first | exact HB.out | apply below_alloc | apply pw_below_drewN | apply below_drew1 | refine below_set ?_ GE172.out) | exact HB.out)))⟩; clear hw; clear HO163; clear HO170; clear BK172; clear HB; have HO163 := n0_; have HO170 := n1_; have BK172 := n2_; have HB := n3_; clear n0_ n1_ n2_ n3_; have hcz39_0 : w38.cell? ⟨gb172, 0, none⟩ = some (.int .i64 t166) := (blk_cell BK172.out 0).trans rfl; have hcz39_1 : w38.cell? ⟨gb172, 1, none⟩ = some (.int .i64 t167) := (blk_cell BK172.out 1).trans rfl; have hcz39_2 : w38.cell? ⟨gb172, 2, none⟩ = some (.slice Ao37 t168.length co37) := (blk_cell BK172.out 2).trans rfl; have hfz39_0 := blk_frozen BK172.out 0; have hfz39_1 := blk_frozen BK172.out 1; have hfz39_2 := blk_frozen BK172.out 2; have p173 : 0 ≤ (0 : Int) := (by omega); have q173 : 0 < (t168.length : Int) := of_decide_eq_true (by first | (with_reducible assumption) | assumption); obtain ⟨ad173, A173_2, c173_2, e173, hx173_0, hx173_1, hx173_2, hx173_3, hx173_4, hx173_5, hl173_2, hi173_2⟩ := at_T76 (Kd.S_reads' HO170.out).2.2 0 p173 q173; cases e173; obtain ⟨ce173, hce173, hMe173, hcc173⟩ := Kd.S_get HO170.out z76 0 p173 (by first | exact q173 | exact of_decide_eq_true (by first | (with_reducible assumption) | assumption) | (have e_ := (Kd.S_reads' HO170.out).1; omega)); obtain ⟨ve173_2, rfl, ge173_2⟩ := k76_openM hMe173; have hv173_2 := hcc173 2 _ rfl; rw [add_field _ _ 2 (by omega)] at hv173_2; replace hv173_2 := Option.some.inj (hv173_2.symm.trans hx173_2); rw [hv173_2] at ge173_2; have HL173_2 := Aside0.mk (show Kd.R (Kd.int .u64) 55 _ _ _ _ ((rd_T76 t168 0).f2) from ge173_2); clear hv173_2 ge173_2; clear hcc173 hce173; have qi173 : (0 < t168.length) = True := eq_true (by omega); (try rw [show ((0 : Int)).toNat = 0 from rfl] at hx173_0); (try rw [show 0 * 6 = 0 from rfl] at hx173_0); (try rw [Addr.add_zero'] at hx173_0); (try rw [show ((0 : Int)).toNat = 0 from rfl] at hx173_1); (try rw [show 0 * 6 = 0 from rfl] at hx173_1); (try rw [Addr.add_zero'] at hx173_1); (try rw [show ((0 : Int)).toNat = 0 from rfl] at hx173_2); (try rw [show 0 * 6 = 0 from rfl] at hx173_2); (try rw [Addr.add_zero'] at hx173_2); (try rw [show ((0 : Int)).toNat = 0 from rfl] at hx173_3); (try rw [show 0 * 6 = 0 from rfl] at hx173_3); (try rw [Addr.add_zero'] at hx173_3); (try rw [show ((0 : Int)).toNat = 0 from rfl] at hx173_4); (try rw [show 0 * 6 = 0 from rfl] at hx173_4); (try rw [Addr.add_zero'] at hx173_4); (try rw [show ((0 : Int)).toNat = 0 from rfl] at hx173_5); (try rw [show 0 * 6 = 0 from rfl] at hx173_5); (try rw [Addr.add_zero'] at hx173_5); have HR173_2 := Aside0.mk hi173_2; have HC173_2 := Aside0.mk hl173_2; clear hi173_2 hl173_2; replace p173 := eq_true p173; replace q173 := eq_true q173))
                            go_ret
                            exact ⟨by first | rfl | (simp [errW_none, errW_some] <;> rfl) | (simp [*, errW_none, errW_some] <;> rfl), by repeat (first | (with_reducible first | exact HB.out | apply below_alloc | apply pw_below_drewN | apply below_drew1 | refine below_set ?_ GE172.out) | exact HB.out)⟩
                          · rw [if_neg c28] at H
                            exact absurd H (by simp)
                        · rw [if_neg c27] at H
                          exact absurd H (by simp)
                      · rw [if_neg c26] at H
                        exact absurd H (by simp)
                    · rw [if_neg c25] at H
                      exact absurd H (by simp)
                  · rw [if_neg c24] at H
                    exact absurd H (by simp)
                · rw [if_neg c23] at H
                  exact absurd H (by simp)
              · rw [if_neg c22] at H
                exact absurd H (by simp)
            · rw [if_neg c21] at H
              exact absurd H (by simp)
          · rw [if_neg c20] at H
            exact absurd H (by simp)
        · rw [if_neg c19] at H
          exact absurd H (by simp)
    · rw [if_neg c8] at H
      exact absurd H (by simp)
  · rw [if_neg c7] at H
    exact absurd H (by simp)
/-! ### aumbryref15_IsAddress: function 35 -/
def aumbryref15_IsAddress.f (a0 : Int) : Option (Bool) := if a0 < 281474976710656 then (some ((Int.tmod a0 65536) != 0)) else (some false)
set_option maxHeartbeats 8000000 in
set_option maxRecDepth 100000 in
theorem aumbryref15_IsAddress.calls (a0 : Int) (r : Bool) (w : World) (h : aumbryref15_IsAddress.f a0 = some r) :
    Calls Try.prog 35 #[.int .u64 a0] w fun e w' => e = .returned (.bool r) ∧ Drawn0 w w' := by
  have H : (if a0 < 281474976710656 then (some ((Int.tmod a0 65536) != 0)) else (some false)) = some r := h
  clear h
  by_cases c2 : a0 < 281474976710656
  · rw [if_pos c2] at H
    have c2b0 : decide (a0 < 281474976710656) = true := decide_eq_true c2
    clear c2
    obtain rfl := Option.some.inj H
    go_enter Try.func35, Try.ntmps35
    go_wp2
    go_ret
    exact ⟨by first | rfl | (simp; done) | (simp [*]; done), by repeat (first | exact Drawn0.refl _ | apply Drawn0.step)⟩
  · rw [if_neg c2] at H
    have c2b0 : decide (a0 < 281474976710656) = false := decide_eq_false c2
    clear c2
    obtain rfl := Option.some.inj H
    go_enter Try.func35, Try.ntmps35
    go_wp2
    go_ret
    exact ⟨by first | rfl | (simp; done) | (simp [*]; done), by repeat (first | exact Drawn0.refl _ | apply Drawn0.step)⟩

end Go.Proofs.Ytdieanikopjbjaa.QSlotUn
