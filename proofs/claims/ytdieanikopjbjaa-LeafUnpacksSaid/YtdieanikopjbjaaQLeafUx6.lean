/- Written by a program of this session out of the translation: Lean functions with the same answers as the Go functions, and the walks that show it. -/
import Derived.Test.YtdieanikopjbjaaQLeafUx0
import Derived.Test.YtdieanikopjbjaaQLeafUx4
import Derived.Test.YtdieanikopjbjaaQLeafUx5
namespace Go.Proofs.Ytdieanikopjbjaa.QLeafU
open Go.RowKit Go.Proofs.YtdieanikopjbjaaW.PrintWords Go.Proofs.YtdieanikopjbjaaW.PrintLast Go.Proofs.YtdieanikopjbjaaW.PrintMore
attribute [local go_sem] max2_int min2_int max_two min_two max_three min_three max_four min_four
attribute [local go_sem high] StepStr.leq_str StepStr.gtr_str
set_option linter.unusedVariables false
set_option linter.unusedSimpArgs false

/-! ### aumbryref13_Pack: function 17 -/
mutual
def aumbryref13_Pack.j0 : Nat → Int → List (S78) → Bool → Option (ByteArray × Int)
  | 0, _, _, _ => none
  | k + 1, x0, x1, x14 => if x14 = true then (some ((⟨#[]⟩ : ByteArray), 1)) else ((aumbryref13_Right.f k x1).bind fun t167 => (if t167 = 0 then ((aumbryref13_Size.f k x1).bind fun t168 => (if t168 > 256 then (some ((⟨#[]⟩ : ByteArray), 16)) else (aumbryref13_Pack.l0 k x1 (strOfNums (([(x0) % 256, ((x1.length : Int)) % 256] : List Int))) (x1.length : Int) 0))) else (some ((⟨#[]⟩ : ByteArray), t167))))
def aumbryref13_Pack.l0 : Nat → List (S78) → ByteArray → Int → Int → Option (ByteArray × Int)
  | 0, _, _, _, _ => none
  | k + 1, x1, x7, x31, x32 => if x32 < x31 then (if 0 ≤ x32 then (if x32 < (x1.length : Int) then ((some (([((((rd_T78 x1 x32).f0).size : Int)) % 256] : List Int) : List Int)).bind fun y173 => (if (strOfNums y173).size + ((rd_T78 x1 x32).f0).size ≤ 9223372036854775807 then ((some (([((((rd_T78 x1 x32).f1).size : Int)) % 256] : List Int) : List Int)).bind fun y178 => (if ((strOfNums y173) ++ ((rd_T78 x1 x32).f0)).size + (strOfNums y178).size ≤ 9223372036854775807 then (if (((strOfNums y173) ++ ((rd_T78 x1 x32).f0)) ++ (strOfNums y178)).size + ((rd_T78 x1 x32).f1).size ≤ 9223372036854775807 then (if x7.size + ((((strOfNums y173) ++ ((rd_T78 x1 x32).f0)) ++ (strOfNums y178)) ++ ((rd_T78 x1 x32).f1)).size ≤ 9223372036854775807 then (aumbryref13_Pack.l0 k x1 (x7 ++ ((((strOfNums y173) ++ ((rd_T78 x1 x32).f0)) ++ (strOfNums y178)) ++ ((rd_T78 x1 x32).f1))) x31 (wrap64 (x32 + 1))) else (none)) else (none)) else (none))) else (none))) else (none)) else (none)) else ((aumbryref01_Zeros.f (wrap64 (256 - (x7.size : Int)))).bind fun t182 => (if x7.size + t182.size ≤ 9223372036854775807 then (some (x7 ++ t182, 0)) else (none)))
end
def aumbryref13_Pack.f (k : Nat) (a0 : Int) (l1 : List (S78)) : Option (ByteArray × Int) := if a0 = 1 then (aumbryref13_Pack.j0 k a0 l1 false) else (aumbryref13_Pack.j0 k a0 l1 (a0 != 2))
theorem aumbryref13_Pack.mono_l : ∀ k, (∀ y0 y1 y2, LeO (aumbryref13_Pack.j0 k y0 y1 y2) (aumbryref13_Pack.j0 (k + 1) y0 y1 y2)) ∧ (∀ y0 y1 y2 y3, LeO (aumbryref13_Pack.l0 k y0 y1 y2 y3) (aumbryref13_Pack.l0 (k + 1) y0 y1 y2 y3))
  | 0 => ⟨fun _ _ _ r h => by simp [aumbryref13_Pack.j0] at h, fun _ _ _ _ r h => by simp [aumbryref13_Pack.l0] at h⟩
  | k + 1 => by
    obtain ⟨ih0, ih1⟩ := aumbryref13_Pack.mono_l k
    refine ⟨?_, ?_⟩
    · intro y0 y1 y2
      unfold aumbryref13_Pack.j0
      repeat' first
      | (with_reducible exact ih0 _ _ _)
      | (with_reducible exact ih1 _ _ _ _)
      | (with_reducible exact aumbryref13_Right.mono _ _)
      | (with_reducible exact aumbryref13_Size.mono _ _)
      | (with_reducible exact LeO.refl _)
      | (with_reducible exact LeO.none _)
      | (with_reducible refine LeO.ite ?_ ?_)
      | (with_reducible refine LeO.bind ?_ (fun _ => ?_))
      | exact ih0 _ _ _
      | exact ih1 _ _ _ _
      | exact aumbryref13_Right.mono _ _
      | exact aumbryref13_Size.mono _ _
      | exact LeO.none _
      | refine LeO.ite ?_ ?_
      | refine LeO.bind ?_ (fun _ => ?_)
    · intro y0 y1 y2 y3
      unfold aumbryref13_Pack.l0
      repeat' first
      | (with_reducible exact ih0 _ _ _)
      | (with_reducible exact ih1 _ _ _ _)
      | (with_reducible exact aumbryref13_Right.mono _ _)
      | (with_reducible exact aumbryref13_Size.mono _ _)
      | (with_reducible exact LeO.refl _)
      | (with_reducible exact LeO.none _)
      | (with_reducible refine LeO.ite ?_ ?_)
      | (with_reducible refine LeO.bind ?_ (fun _ => ?_))
      | exact ih0 _ _ _
      | exact ih1 _ _ _ _
      | exact aumbryref13_Right.mono _ _
      | exact aumbryref13_Size.mono _ _
      | exact LeO.none _
      | refine LeO.ite ?_ ?_
      | refine LeO.bind ?_ (fun _ => ?_)
theorem aumbryref13_Pack.mono : ∀ a0 a1 k, LeO (aumbryref13_Pack.f k a0 a1) (aumbryref13_Pack.f (k + 1) a0 a1) := by
  intro a0 a1 k
  obtain ⟨ih0, ih1⟩ := aumbryref13_Pack.mono_l k
  unfold aumbryref13_Pack.f
  repeat' first
      | (with_reducible exact ih0 _ _ _)
      | (with_reducible exact ih1 _ _ _ _)
      | (with_reducible exact aumbryref13_Right.mono _ _)
      | (with_reducible exact aumbryref13_Size.mono _ _)
      | (with_reducible exact LeO.refl _)
      | (with_reducible exact LeO.none _)
      | (with_reducible refine LeO.ite ?_ ?_)
      | (with_reducible refine LeO.bind ?_ (fun _ => ?_))
      | exact ih0 _ _ _
      | exact ih1 _ _ _ _
      | exact aumbryref13_Right.mono _ _
      | exact aumbryref13_Size.mono _ _
      | exact LeO.none _
      | refine LeO.ite ?_ ?_
      | refine LeO.bind ?_ (fun _ => ?_)
def aumbryref13_Pack.T12 : Bool × List (List Nat × List Nat) := (true, [([], []), ([], []), ([], []), ([1, 2], [1, 2]), ([3], [3]), ([4], [4]), ([5], [5]), ([6], [6]), ([7], [7]), ([8], [8]), ([], []), ([], []), ([10, 11], [10, 11]), ([12], [12]), ([13], [13]), ([9, 14], [9, 14]), ([], []), ([], []), ([16, 17], [16, 17]), ([18], [18]), ([19], [19]), ([20], [20]), ([21], [21]), ([22], [22]), ([23], [23]), ([15, 24], [15, 24]), ([], []), ([], []), ([26, 27], [26, 27]), ([28], [28]), ([29], [29]), ([25, 30], [25, 30]), ([0, 31], [0, 31]), ([32, 0, 1, 2, 3, 4, 5, 6, 7, 8, 9, 10, 11, 12, 13, 14, 15, 16, 17, 18, 19, 20, 21, 22, 23, 24, 25, 26, 27, 28, 29, 30, 31, 32], [0, 32])])
def aumbryref13_Pack.B12 : List Nat := [0, 0, 0, 6, 14, 30, 62, 126, 254, 510, 0, 0, 3072, 7168, 15360, 32766, 0, 0, 196608, 458752, 983040, 2031616, 4128768, 8323072, 16711680, 33554430, 0, 0, 201326592, 469762048, 1006632960, 2147483646, 4294967295, 8589934591]
theorem aumbryref13_Pack.tab12 : rtab .any (opsOf Try.f17 12) = aumbryref13_Pack.T12 := by kernel_rfl
theorem aumbryref13_Pack.bits12 : waitsOk aumbryref13_Pack.T12.2 aumbryref13_Pack.B12 = true := by kernel_rfl
set_option maxHeartbeats 8000000 in
set_option maxRecDepth 100000 in
theorem aumbryref13_Pack.calls (k : Nat) (a0 : Int) (A1 : Option Addr) (c1 : Nat) (l1 : List (S78)) (r1 : ByteArray) (r2 : Int) (w : World) (hr1 : Kd.C k78 w A1 l1.length l1) (hc1 : l1.length ≤ c1) (h : aumbryref13_Pack.f k a0 l1 = some (r1, r2)) :
    Calls Try.prog 17 #[.int .i64 a0, .slice A1 l1.length c1] w fun e w' => e = .returned (.tuple #[.string r1, .int .i64 r2]) ∧ Below w.heap.size w w' := by
  have HR1 := Aside0.mk hr1
  have HC1 := Aside0.mk hc1
  clear hr1 hc1
  have HB := Aside0.mk (Below.refl w.heap.size w)
  have H : (if a0 = 1 then (aumbryref13_Pack.j0 k a0 l1 false) else (aumbryref13_Pack.j0 k a0 l1 (a0 != 2))) = some (r1, r2) := h
  clear h
  have HC3 := Aside0.mk H
  clear H
  go_enter Try.func17, Try.ntmps17
  go_upto_region 1 with (fail)
  go_cut [14] (fun v14 wc => ∃ (kq : Nat) (x14_2 : Bool), v14 = .bool x14_2 ∧ Aside0 (aumbryref13_Pack.j0 kq a0 l1 x14_2 = some (r1, r2)) ∧ Aside0 (kq ≤ k) ∧ Aside0 (Below w.heap.size w wc))
  case first =>
    have H := HC3.out
    clear HC3
    by_cases c4 : a0 = 1
    · rw [if_pos c4] at H
      have c4b0 : (a0 == 1) = true := beq_iff_eq.mpr c4
      have c4b1 : (a0 != 1) = false := bne_eq_false_iff_eq.mpr c4
      clear c4
      (first | rw [c4b0] | (simp only [i64_w, i32_w]; rw [c4b0]) | skip)
      have H' := Aside0.mk H
      clear H
      go_wp2
      go_meet
      case rel => exact ⟨_, (false), (by first | rfl | (simp; done) | (simp [*]; done)), H', ⟨by first | omega | exact Nat.le_refl _⟩, ⟨by repeat (first | (with_reducible first | exact HB.out | apply below_alloc | apply pw_below_drewN | apply below_drew1) | exact HB.out)⟩⟩
    · rw [if_neg c4] at H
      have c4b0 : (a0 == 1) = false := beq_eq_false_iff_ne.mpr c4
      have c4b1 : (a0 != 1) = true := bne_iff_ne.mpr c4
      (first | rw [c4b0] | (simp only [i64_w, i32_w]; rw [c4b0]) | skip)
      have H' := Aside0.mk H
      clear H
      go_wp2
      go_meet
      case rel => exact ⟨_, ((a0 != 2)), (by first | rfl | (simp; done) | (simp [*]; done)), H', ⟨by first | omega | exact Nat.le_refl _⟩, ⟨by repeat (first | (with_reducible first | exact HB.out | apply below_alloc | apply pw_below_drewN | apply below_drew1) | exact HB.out)⟩⟩
  case rest =>
    clear HC3
    try clear c1
    try clear p2
    try clear c4
    try clear c4b0
    try clear c4b1
    obtain ⟨kq, x14_2, rfl, HA, HJ2, HB⟩ := hcut
    cases kq with
    | zero => exact absurd HA.out (by simp [aumbryref13_Pack.j0])
    | succ kj2 =>
      have H := HA.out
      clear HA
      simp only [aumbryref13_Pack.j0] at H
      by_cases c5 : x14_2 = true
      · subst c5
        have H1 : (some ((⟨#[]⟩ : ByteArray), 1)) = some (r1, r2) := by rw [if_pos rfl] at H; exact H
        clear H
        have H := H1
        clear H1
        simp only [Option.some.injEq, Prod.mk.injEq] at H
        obtain ⟨rfl, rfl⟩ := H
        go_wp2
        go_ret2
        exact ⟨by first | rfl | (simp [errW_none, errW_some] <;> rfl) | (simp [*, errW_none, errW_some] <;> rfl), by repeat (first | (with_reducible first | exact HB.out | apply below_alloc | apply pw_below_drewN | apply below_drew1) | exact HB.out)⟩
      · replace c5 := Bool.eq_false_iff.mpr c5
        subst c5
        have H1 : ((aumbryref13_Right.f kj2 l1).bind fun t167 => (if t167 = 0 then ((aumbryref13_Size.f kj2 l1).bind fun t168 => (if t168 > 256 then (some ((⟨#[]⟩ : ByteArray), 16)) else (aumbryref13_Pack.l0 kj2 l1 (strOfNums (([(a0) % 256, ((l1.length : Int)) % 256] : List Int))) (l1.length : Int) 0))) else (some ((⟨#[]⟩ : ByteArray), t167)))) = some (r1, r2) := by rw [if_neg (show ¬ (false = true) by decide)] at H; exact H
        clear H
        have H := H1
        clear H1
        replace H := Option.bind_eq_some_iff.mp H
        obtain ⟨t167, A60, H⟩ := H
        replace H : (if t167 = 0 then ((aumbryref13_Size.f kj2 l1).bind fun t168 => (if t168 > 256 then (some ((⟨#[]⟩ : ByteArray), 16)) else (aumbryref13_Pack.l0 kj2 l1 (strOfNums (([(a0) % 256, ((l1.length : Int)) % 256] : List Int))) (l1.length : Int) 0))) else (some ((⟨#[]⟩ : ByteArray), t167))) = some (r1, r2) := H
        have A6 := Aside0.mk A60
        clear A60
        by_cases c7 : t167 = 0
        · rw [if_pos c7] at H
          have c7b0 : (t167 == 0) = true := beq_iff_eq.mpr c7
          have c7b1 : (t167 != 0) = false := bne_eq_false_iff_eq.mpr c7
          clear c7
          replace H := Option.bind_eq_some_iff.mp H
          obtain ⟨t168, A80, H⟩ := H
          replace H : (if t168 > 256 then (some ((⟨#[]⟩ : ByteArray), 16)) else (aumbryref13_Pack.l0 kj2 l1 (strOfNums (([(a0) % 256, ((l1.length : Int)) % 256] : List Int))) (l1.length : Int) 0)) = some (r1, r2) := H
          have A8 := Aside0.mk A80
          clear A80
          by_cases c9 : t168 > 256
          · rw [if_pos c9] at H
            have c9b0 : decide (256 < t168) = true := decide_eq_true c9
            clear c9
            simp only [Option.some.injEq, Prod.mk.injEq] at H
            obtain ⟨rfl, rfl⟩ := H
            go_wp2_with (first | ((with_reducible refine gate_callee (f := 24) rfl ?_); refine goesL_ (some 16) rfl rfl Try.func24 (by kernel_rfl) rfl #[.slice A1 l1.length c1] rfl (by (try simp only [List.map_toArray, List.map_cons, List.map_nil]); first | done | rfl | (simp only [List.length_drop, List.length_take]; rfl)) ?_; (with_reducible refine (aumbryref13_Right.calls kj2 _ _ l1 t167 _ ?side1 ?side2 A6.out).mono ?_); (case side1 => repeat (first | exact (Kd.C_below HR1.out HB.out) | (with_reducible refine Kd.C_alloc ?_ _) | (with_reducible refine Kd.C_drewN ?_ _) | (with_reducible refine Kd.C_drew ?_))); (case side2 => exact HC1.out); rintro e w' ⟨rfl, ⟨nd, rfl⟩⟩; refine ⟨_, rfl, ?_⟩) | ((with_reducible refine gate_callee (f := 19) rfl ?_); refine goesL_ (some 21) rfl rfl Try.func19 (by kernel_rfl) rfl #[.slice A1 l1.length c1] rfl (by (try simp only [List.map_toArray, List.map_cons, List.map_nil]); first | done | rfl | (simp only [List.length_drop, List.length_take]; rfl)) ?_; (with_reducible refine (aumbryref13_Size.calls kj2 _ _ l1 t168 _ ?side1 ?side2 A8.out).mono ?_); (case side1 => repeat (first | exact (Kd.C_below HR1.out (by repeat (first | (with_reducible first | exact HB.out | apply below_alloc | apply pw_below_drewN | apply below_drew1) | exact HB.out))) | (with_reducible refine Kd.C_alloc ?_ _) | (with_reducible refine Kd.C_drewN ?_ _) | (with_reducible refine Kd.C_drew ?_))); (case side2 => exact HC1.out); rintro e w' ⟨rfl, ⟨nd, rfl⟩⟩; refine ⟨_, rfl, ?_⟩))
            go_ret2
            exact ⟨by first | rfl | (simp [errW_none, errW_some] <;> rfl) | (simp [*, errW_none, errW_some] <;> rfl), by repeat (first | (with_reducible first | exact HB.out | apply below_alloc | apply pw_below_drewN | apply below_drew1) | exact HB.out)⟩
          · rw [if_neg c9] at H
            have c9b0 : decide (256 < t168) = false := decide_eq_false c9
            clear c9
            obtain ⟨y169, hy169⟩ : ∃ y_ : List Int, y_ = (([(a0) % 256, ((l1.length : Int)) % 256] : List Int)) := ⟨_, rfl⟩
            replace H : (aumbryref13_Pack.l0 kj2 l1 (strOfNums y169) (l1.length : Int) 0) = some (r1, r2) := by first | (rw [hy169]; with_reducible exact H) | (have H2_ := (Option.bind_some _ _).symm.trans H; rw [hy169]; with_reducible exact H2_) | (have H2_ := (Option.bind_some _ _).symm.trans H; with_reducible exact H2_) | with_reducible exact H | (rw [hy169]; exact H) | exact H
            have Ny169 := Aside0.mk hy169
            clear hy169
            have H' := Aside0.mk H
            clear H
            go_wp2_with (first | ((with_reducible refine gate_callee (f := 24) rfl ?_); refine goesL_ (some 16) rfl rfl Try.func24 (by kernel_rfl) rfl #[.slice A1 l1.length c1] rfl (by (try simp only [List.map_toArray, List.map_cons, List.map_nil]); first | done | rfl | (simp only [List.length_drop, List.length_take]; rfl)) ?_; (with_reducible refine (aumbryref13_Right.calls kj2 _ _ l1 t167 _ ?side1 ?side2 A6.out).mono ?_); (case side1 => repeat (first | exact (Kd.C_below HR1.out HB.out) | (with_reducible refine Kd.C_alloc ?_ _) | (with_reducible refine Kd.C_drewN ?_ _) | (with_reducible refine Kd.C_drew ?_))); (case side2 => exact HC1.out); rintro e w' ⟨rfl, ⟨nd, rfl⟩⟩; refine ⟨_, rfl, ?_⟩) | ((with_reducible refine gate_callee (f := 19) rfl ?_); refine goesL_ (some 21) rfl rfl Try.func19 (by kernel_rfl) rfl #[.slice A1 l1.length c1] rfl (by (try simp only [List.map_toArray, List.map_cons, List.map_nil]); first | done | rfl | (simp only [List.length_drop, List.length_take]; rfl)) ?_; (with_reducible refine (aumbryref13_Size.calls kj2 _ _ l1 t168 _ ?side1 ?side2 A8.out).mono ?_); (case side1 => repeat (first | exact (Kd.C_below HR1.out (by repeat (first | (with_reducible first | exact HB.out | apply below_alloc | apply pw_below_drewN | apply below_drew1) | exact HB.out))) | (with_reducible refine Kd.C_alloc ?_ _) | (with_reducible refine Kd.C_drewN ?_ _) | (with_reducible refine Kd.C_drew ?_))); (case side2 => exact HC1.out); rintro e w' ⟨rfl, ⟨nd, rfl⟩⟩; refine ⟨_, rfl, ?_⟩) | ((with_reducible refine gate_dst (N := 28) rfl ?_); refine Kd.R_lit (Kd.int .u8) _ 5 ?hg (N := 28) ?hd (xs := ([(a0) % 256, ((l1.length : Int)) % 256] : List Int)) (inner := [.int .u8 ((a0) % 256), .int .u8 (((l1.length : Int)) % 256)]) (ok := fun _ => True) (okp := fun _ => True) ?hr ?hp (fun _ hk => hk) trivial (Below.refl _ _) (Nat.le_refl _) (by simp) ?_; (case hd => rfl); (case hg => rfl); (case hr => first | (go_simp; done) | (go_simp; rfl)); (case hp => exact (Reps.one (show Kd.M (Kd.int .u8) _ _ _ ((a0) % 256) [.int .u8 ((a0) % 256)] from rfl) (Reps.one (show Kd.M (Kd.int .u8) _ _ _ (((l1.length : Int)) % 256) [.int .u8 (((l1.length : Int)) % 256)] from rfl) (Reps.none _ _)))); intro v170 w10 ho11 hb hg_ hnew_; clear hg_ hnew_; (first | rw [← Ny169.out] at ho11 | (simp only [Int.reduceToNat] at ho11; rw [← Ny169.out] at ho11)); have n0_ := Aside0.mk (Kd.R_lower ho11 (below_size (by repeat (first | (with_reducible first | exact HB.out | apply below_alloc | apply pw_below_drewN | apply below_drew1) | exact HB.out)))); have n1_ := Aside0.mk (below_step (by repeat (first | (with_reducible first | exact HB.out | apply below_alloc | apply pw_below_drewN | apply below_drew1) | exact HB.out)) hb); clear HB; have HO171 := n0_; have HB := n1_; clear n0_ n1_; clear hb ho11; have hcv12 := own_string (P := Try.prog) Try.underlying79 Try.underlying5 Try.underlying9 (Kd.own_of_R HO171.out)))
            go_loopg [7, 32] kj2 (fun kq v7 v32 w' => ∃ (x7_2 : ByteArray) (x32_2 : Int), v7 = .string x7_2 ∧ v32 = .int .i64 x32_2 ∧ Aside0 (aumbryref13_Pack.l0 kq l1 x7_2 (l1.length : Int) x32_2 = some (r1, r2)) ∧ Aside0 (kq ≤ kj2) ∧ Aside0 (Below w.heap.size w w'))
            case atStart => exact ⟨(strOfNums y169), (0), (by first | rfl | (simp; done) | (simp [*]; done)), (by first | rfl | (simp; done) | (simp [*]; done)), H', ⟨Nat.le_refl _⟩, ⟨by repeat (first | (with_reducible first | exact HB.out | apply below_alloc | apply pw_below_drewN | apply below_drew1) | exact HB.out)⟩⟩
            case round =>
              clear H'
              try clear c1
              try clear hcv1
              try clear c2
              try clear p2
              try clear c4
              try clear c4b0
              try clear c4b1
              try clear c5
              try clear c7
              try clear c7b0
              try clear c7b1
              try clear c9
              try clear c9b0
              try clear hcv12
              try clear p2
              obtain ⟨x7_2, x32_2, rfl, rfl, HA, HK2, HB⟩ := hrel
              cases gk with
              | zero => exact absurd HA.out (by simp [aumbryref13_Pack.l0])
              | succ k2 =>
                have H := HA.out
                clear HA
                simp only [aumbryref13_Pack.l0] at H
                by_cases c13 : x32_2 < (l1.length : Int)
                · rw [if_pos c13] at H
                  have c13b0 : decide (x32_2 < (l1.length : Int)) = true := decide_eq_true c13
                  clear c13
                  by_cases c14 : 0 ≤ x32_2
                  · rw [if_pos c14] at H
                    have c14b0 : decide (0 ≤ x32_2) = true := decide_eq_true c14
                    clear c14
                    by_cases c15 : x32_2 < (l1.length : Int)
                    · rw [if_pos c15] at H
                      have c15b0 : decide (x32_2 < (l1.length : Int)) = true := decide_eq_true c15
                      clear c15
                      obtain ⟨y173, hy173⟩ : ∃ y_ : List Int, y_ = (([((((rd_T78 l1 x32_2).f0).size : Int)) % 256] : List Int)) := ⟨_, rfl⟩
                      replace H : (if (strOfNums y173).size + ((rd_T78 l1 x32_2).f0).size ≤ 9223372036854775807 then ((some (([((((rd_T78 l1 x32_2).f1).size : Int)) % 256] : List Int) : List Int)).bind fun y178 => (if ((strOfNums y173) ++ ((rd_T78 l1 x32_2).f0)).size + (strOfNums y178).size ≤ 9223372036854775807 then (if (((strOfNums y173) ++ ((rd_T78 l1 x32_2).f0)) ++ (strOfNums y178)).size + ((rd_T78 l1 x32_2).f1).size ≤ 9223372036854775807 then (if x7_2.size + ((((strOfNums y173) ++ ((rd_T78 l1 x32_2).f0)) ++ (strOfNums y178)) ++ ((rd_T78 l1 x32_2).f1)).size ≤ 9223372036854775807 then (aumbryref13_Pack.l0 k2 l1 (x7_2 ++ ((((strOfNums y173) ++ ((rd_T78 l1 x32_2).f0)) ++ (strOfNums y178)) ++ ((rd_T78 l1 x32_2).f1))) (l1.length : Int) (wrap64 (x32_2 + 1))) else (none)) else (none)) else (none))) else (none)) = some (r1, r2) := by first | (rw [hy173]; with_reducible exact H) | (have H2_ := (Option.bind_some _ _).symm.trans H; rw [hy173]; with_reducible exact H2_) | (have H2_ := (Option.bind_some _ _).symm.trans H; with_reducible exact H2_) | with_reducible exact H | (rw [hy173]; exact H) | exact H
                      have Ny173 := Aside0.mk hy173
                      clear hy173
                      by_cases c16 : (strOfNums y173).size + ((rd_T78 l1 x32_2).f0).size ≤ 9223372036854775807
                      · rw [if_pos c16] at H
                        have c16b0 := eq_true c16
                        have c16b1 : decide ((strOfNums y173).size + ((rd_T78 l1 x32_2).f0).size ≤ 9223372036854775807) = true := decide_eq_true c16
                        try have c16b2 : (9223372036854775807 < (strOfNums y173).size + ((rd_T78 l1 x32_2).f0).size) = False := eq_false (Nat.not_lt.2 c16)
                        try (have c16b3 : (9223372036854775807 < (strOfNums y173).size + ((rd_T78 l1 x32_2).f0).size) = False := eq_false (Nat.not_lt.2 c16); simp only [ByteArray.size_append] at c16b3)
                        clear c16
                        obtain ⟨y178, hy178⟩ : ∃ y_ : List Int, y_ = (([((((rd_T78 l1 x32_2).f1).size : Int)) % 256] : List Int)) := ⟨_, rfl⟩
                        replace H : (if ((strOfNums y173) ++ ((rd_T78 l1 x32_2).f0)).size + (strOfNums y178).size ≤ 9223372036854775807 then (if (((strOfNums y173) ++ ((rd_T78 l1 x32_2).f0)) ++ (strOfNums y178)).size + ((rd_T78 l1 x32_2).f1).size ≤ 9223372036854775807 then (if x7_2.size + ((((strOfNums y173) ++ ((rd_T78 l1 x32_2).f0)) ++ (strOfNums y178)) ++ ((rd_T78 l1 x32_2).f1)).size ≤ 9223372036854775807 then (aumbryref13_Pack.l0 k2 l1 (x7_2 ++ ((((strOfNums y173) ++ ((rd_T78 l1 x32_2).f0)) ++ (strOfNums y178)) ++ ((rd_T78 l1 x32_2).f1))) (l1.length : Int) (wrap64 (x32_2 + 1))) else (none)) else (none)) else (none)) = some (r1, r2) := by first | (rw [hy178]; with_reducible exact H) | (have H2_ := (Option.bind_some _ _).symm.trans H; rw [hy178]; with_reducible exact H2_) | (have H2_ := (Option.bind_some _ _).symm.trans H; with_reducible exact H2_) | with_reducible exact H | (rw [hy178]; exact H) | exact H
                        have Ny178 := Aside0.mk hy178
                        clear hy178
                        by_cases c17 : ((strOfNums y173) ++ ((rd_T78 l1 x32_2).f0)).size + (strOfNums y178).size ≤ 9223372036854775807
                        · rw [if_pos c17] at H
                          have c17b0 := eq_true c17
                          have c17b1 : decide (((strOfNums y173) ++ ((rd_T78 l1 x32_2).f0)).size + (strOfNums y178).size ≤ 9223372036854775807) = true := decide_eq_true c17
                          try have c17b2 : (9223372036854775807 < ((strOfNums y173) ++ ((rd_T78 l1 x32_2).f0)).size + (strOfNums y178).size) = False := eq_false (Nat.not_lt.2 c17)
                          try (have c17b3 : (9223372036854775807 < ((strOfNums y173) ++ ((rd_T78 l1 x32_2).f0)).size + (strOfNums y178).size) = False := eq_false (Nat.not_lt.2 c17); simp only [ByteArray.size_append] at c17b3)
                          clear c17
                          by_cases c18 : (((strOfNums y173) ++ ((rd_T78 l1 x32_2).f0)) ++ (strOfNums y178)).size + ((rd_T78 l1 x32_2).f1).size ≤ 9223372036854775807
                          · rw [if_pos c18] at H
                            have c18b0 := eq_true c18
                            have c18b1 : decide ((((strOfNums y173) ++ ((rd_T78 l1 x32_2).f0)) ++ (strOfNums y178)).size + ((rd_T78 l1 x32_2).f1).size ≤ 9223372036854775807) = true := decide_eq_true c18
                            try have c18b2 : (9223372036854775807 < (((strOfNums y173) ++ ((rd_T78 l1 x32_2).f0)) ++ (strOfNums y178)).size + ((rd_T78 l1 x32_2).f1).size) = False := eq_false (Nat.not_lt.2 c18)
                            try (have c18b3 : (9223372036854775807 < (((strOfNums y173) ++ ((rd_T78 l1 x32_2).f0)) ++ (strOfNums y178)).size + ((rd_T78 l1 x32_2).f1).size) = False := eq_false (Nat.not_lt.2 c18); simp only [ByteArray.size_append] at c18b3)
                            clear c18
                            by_cases c19 : x7_2.size + ((((strOfNums y173) ++ ((rd_T78 l1 x32_2).f0)) ++ (strOfNums y178)) ++ ((rd_T78 l1 x32_2).f1)).size ≤ 9223372036854775807
                            · rw [if_pos c19] at H
                              have c19b0 := eq_true c19
                              have c19b1 : decide (x7_2.size + ((((strOfNums y173) ++ ((rd_T78 l1 x32_2).f0)) ++ (strOfNums y178)) ++ ((rd_T78 l1 x32_2).f1)).size ≤ 9223372036854775807) = true := decide_eq_true c19
                              try have c19b2 : (9223372036854775807 < x7_2.size + ((((strOfNums y173) ++ ((rd_T78 l1 x32_2).f0)) ++ (strOfNums y178)) ++ ((rd_T78 l1 x32_2).f1)).size) = False := eq_false (Nat.not_lt.2 c19)
                              try (have c19b3 : (9223372036854775807 < x7_2.size + ((((strOfNums y173) ++ ((rd_T78 l1 x32_2).f0)) ++ (strOfNums y178)) ++ ((rd_T78 l1 x32_2).f1)).size) = False := eq_false (Nat.not_lt.2 c19); simp only [ByteArray.size_append] at c19b3)
                              clear c19
                              have H' := Aside0.mk H
                              clear H
                              try go_wp2
                              have n0_ := Aside0.mk (below_drew1 HB.out)
                              clear HB
                              have HB := n0_
                              clear n0_
                              have p172 : 0 ≤ (x32_2 : Int) := of_decide_eq_true (by first | (with_reducible assumption) | assumption)
                              have q172 : x32_2 < (l1.length : Int) := of_decide_eq_true (by first | (with_reducible assumption) | assumption)
                              obtain ⟨ad172, e172, hx172_0, hx172_1⟩ := at_T78 HR1.out x32_2 p172 q172
                              have hw172_1 := hx172_1
                              have hw172_0 := hx172_0
                              cases e172
                              replace hx172_0 := (HB.out.cell (World.block_lt_of_cell? w _ hx172_0)).trans hx172_0
                              replace hx172_1 := (HB.out.cell (World.block_lt_of_cell? w _ hx172_1)).trans hx172_1
                              replace p172 := eq_true p172
                              replace q172 := eq_true q172
                              have p176 : 0 ≤ (x32_2 : Int) := of_decide_eq_true (by first | (with_reducible assumption) | assumption)
                              have q176 : x32_2 < (l1.length : Int) := of_decide_eq_true (by first | (with_reducible assumption) | assumption)
                              obtain ⟨ad176, e176, hx176_0, hx176_1⟩ := at_T78 HR1.out x32_2 p176 q176
                              have hw176_1 := hx176_1
                              have hw176_0 := hx176_0
                              obtain rfl : ad172 = ad176 := (by injection e176)
                              replace hx176_0 := (HB.out.cell (World.block_lt_of_cell? w _ hx176_0)).trans hx176_0
                              replace hx176_1 := (HB.out.cell (World.block_lt_of_cell? w _ hx176_1)).trans hx176_1
                              replace p176 := eq_true p176
                              replace q176 := eq_true q176
                              have p177 : 0 ≤ (x32_2 : Int) := of_decide_eq_true (by first | (with_reducible assumption) | assumption)
                              have q177 : x32_2 < (l1.length : Int) := of_decide_eq_true (by first | (with_reducible assumption) | assumption)
                              obtain ⟨ad177, e177, hx177_0, hx177_1⟩ := at_T78 HR1.out x32_2 p177 q177
                              have hw177_1 := hx177_1
                              have hw177_0 := hx177_0
                              obtain rfl : ad172 = ad177 := (by injection e177)
                              replace hx177_0 := (HB.out.cell (World.block_lt_of_cell? w _ hx177_0)).trans hx177_0
                              replace hx177_1 := (HB.out.cell (World.block_lt_of_cell? w _ hx177_1)).trans hx177_1
                              replace p177 := eq_true p177
                              replace q177 := eq_true q177
                              have p181 : 0 ≤ (x32_2 : Int) := of_decide_eq_true (by first | (with_reducible assumption) | assumption)
                              have q181 : x32_2 < (l1.length : Int) := of_decide_eq_true (by first | (with_reducible assumption) | assumption)
                              obtain ⟨ad181, e181, hx181_0, hx181_1⟩ := at_T78 HR1.out x32_2 p181 q181
                              have hw181_1 := hx181_1
                              have hw181_0 := hx181_0
                              obtain rfl : ad172 = ad181 := (by injection e181)
                              replace hx181_0 := (HB.out.cell (World.block_lt_of_cell? w _ hx181_0)).trans hx181_0
                              replace hx181_1 := (HB.out.cell (World.block_lt_of_cell? w _ hx181_1)).trans hx181_1
                              replace p181 := eq_true p181
                              replace q181 := eq_true q181
                              refine start_ (n := 34) (S := fun w' => w'.cell? (ad172.add ((x32_2).toNat * 2)) = some (.string ((rd_T78 l1 x32_2).f0)) ∧ w'.cell? ⟨(ad172.add ((x32_2).toNat * 2)).block, (ad172.add ((x32_2).toNat * 2)).off + 1, none⟩ = some (.string ((rd_T78 l1 x32_2).f1)) ∧ w'.cell? (ad172.add ((x32_2).toNat * 2)) = some (.string ((rd_T78 l1 x32_2).f0)) ∧ w'.cell? ⟨(ad172.add ((x32_2).toNat * 2)).block, (ad172.add ((x32_2).toNat * 2)).off + 1, none⟩ = some (.string ((rd_T78 l1 x32_2).f1)) ∧ w'.cell? (ad172.add ((x32_2).toNat * 2)) = some (.string ((rd_T78 l1 x32_2).f0)) ∧ w'.cell? ⟨(ad172.add ((x32_2).toNat * 2)).block, (ad172.add ((x32_2).toNat * 2)).off + 1, none⟩ = some (.string ((rd_T78 l1 x32_2).f1)) ∧ w'.cell? (ad172.add ((x32_2).toNat * 2)) = some (.string ((rd_T78 l1 x32_2).f0)) ∧ w'.cell? ⟨(ad172.add ((x32_2).toNat * 2)).block, (ad172.add ((x32_2).toNat * 2)).off + 1, none⟩ = some (.string ((rd_T78 l1 x32_2).f1))) (ds := []) #[false, false, false, false, false, false, false, false, false, false, false, false, false, false, false, false, false, false, false, false, false, false, false, false, false, false, false, false, false, false, false, false, false, false] (by kernel_rfl) rfl rfl ⟨((HB.out.cell (World.block_lt_of_cell? w _ hw172_0)).trans hw172_0), ((HB.out.cell (World.block_lt_of_cell? w _ hw172_1)).trans hw172_1), ((HB.out.cell (World.block_lt_of_cell? w _ hw176_0)).trans hw176_0), ((HB.out.cell (World.block_lt_of_cell? w _ hw176_1)).trans hw176_1), ((HB.out.cell (World.block_lt_of_cell? w _ hw177_0)).trans hw177_0), ((HB.out.cell (World.block_lt_of_cell? w _ hw177_1)).trans hw177_1), ((HB.out.cell (World.block_lt_of_cell? w _ hw181_0)).trans hw181_0), ((HB.out.cell (World.block_lt_of_cell? w _ hw181_1)).trans hw181_1)⟩ (fun hHeld => ?_); refine with_tabW aumbryref13_Pack.tab12 aumbryref13_Pack.bits12 (fun HT_ HW_ => ?_)
                              generalize wr.drew = w20 at HB hx172_0 hx172_1 hx176_0 hx176_1 hx177_0 hx177_1 hx181_0 hx181_1 hHeld ⊢
                              refine pure_ (i := 0) (N := some 35) (v := ?_) (a' := ?_) #[true, false, false, false, false, false, false, false, false, false, false, false, false, false, false, false, false, false, false, false, false, false, false, false, false, false, false, false, false, false, false, false, false, false] rfl rfl (any_of HT_.out (by kernel_rfl)) (fun _ _ _ h => h) (Or.inl ⟨by rfl, ?_⟩) ?_ ?_
                              rotate_left
                              · intro w'
                                go_simp
                                with_reducible rfl
                              rotate_left
                              · simp only [Act.put, List.setIfInBounds_toArray, List.set_cons_zero, List.set_cons_succ, i64_w, i32_w]
                                rfl
                              refine pure_ (i := 1) (N := some 36) (v := ?_) (a' := ?_) #[true, true, false, false, false, false, false, false, false, false, false, false, false, false, false, false, false, false, false, false, false, false, false, false, false, false, false, false, false, false, false, false, false, false] rfl rfl (any_of HT_.out (by kernel_rfl)) (fun _ _ _ h => h) (Or.inl ⟨by rfl, ?_⟩) ?_ ?_
                              rotate_left
                              · intro w'
                                go_simp
                                with_reducible rfl
                              rotate_left
                              · simp only [Act.put, List.setIfInBounds_toArray, List.set_cons_zero, List.set_cons_succ, i64_w, i32_w]
                                rfl
                              refine pure_ (i := 2) (N := some 37) (v := ?_) (a' := ?_) #[true, true, true, false, false, false, false, false, false, false, false, false, false, false, false, false, false, false, false, false, false, false, false, false, false, false, false, false, false, false, false, false, false, false] rfl rfl (any_of HT_.out (by kernel_rfl)) (fun _ _ _ h => h) (Or.inl ⟨by rfl, ?_⟩) ?_ ?_
                              rotate_left
                              · intro w'
                                go_simp
                                with_reducible rfl
                              rotate_left
                              · simp only [Act.put, List.setIfInBounds_toArray, List.set_cons_zero, List.set_cons_succ, i64_w, i32_w]
                                rfl
                              refine pure_ (i := 3) (N := some 38) (v := ?_) (a' := ?_) #[true, true, true, true, false, false, false, false, false, false, false, false, false, false, false, false, false, false, false, false, false, false, false, false, false, false, false, false, false, false, false, false, false, false] rfl rfl (any_of HT_.out (by kernel_rfl)) (fun _ _ _ h => h) (Or.inl ⟨by rfl, ?_⟩) ?_ ?_
                              rotate_left
                              · intro w'
                                go_simp
                                with_reducible rfl
                              rotate_left
                              · simp only [Act.put, List.setIfInBounds_toArray, List.set_cons_zero, List.set_cons_succ, i64_w, i32_w]
                                rfl
                              refine pure_ (i := 4) (N := some 39) (v := ?_) (a' := ?_) #[true, true, true, true, true, false, false, false, false, false, false, false, false, false, false, false, false, false, false, false, false, false, false, false, false, false, false, false, false, false, false, false, false, false] rfl rfl (any_of HT_.out (by kernel_rfl)) (fun _ _ _ h => h) (Or.inl ⟨by rfl, ?_⟩) ?_ ?_
                              rotate_left
                              · intro w'
                                go_simp
                                with_reducible rfl
                              rotate_left
                              · simp only [Act.put, List.setIfInBounds_toArray, List.set_cons_zero, List.set_cons_succ, i64_w, i32_w]
                                rfl
                              refine pure_ (i := 10) (N := some 45) (v := ?_) (a' := ?_) #[true, true, true, true, true, false, false, false, false, false, true, false, false, false, false, false, false, false, false, false, false, false, false, false, false, false, false, false, false, false, false, false, false, false] rfl rfl (any_of HT_.out (by kernel_rfl)) (fun _ _ _ h => h) (Or.inl ⟨by rfl, ?_⟩) ?_ ?_
                              rotate_left
                              · intro w'
                                go_simp
                                with_reducible rfl
                              rotate_left
                              · simp only [Act.put, List.setIfInBounds_toArray, List.set_cons_zero, List.set_cons_succ, i64_w, i32_w]
                                rfl
                              refine pure_ (i := 11) (N := some 46) (v := ?_) (a' := ?_) #[true, true, true, true, true, false, false, false, false, false, true, true, false, false, false, false, false, false, false, false, false, false, false, false, false, false, false, false, false, false, false, false, false, false] rfl rfl (any_of HT_.out (by kernel_rfl)) (fun _ _ _ h => h) (Or.inl ⟨by rfl, ?_⟩) ?_ ?_
                              rotate_left
                              · intro w'
                                go_simp
                                with_reducible rfl
                              rotate_left
                              · simp only [Act.put, List.setIfInBounds_toArray, List.set_cons_zero, List.set_cons_succ, i64_w, i32_w]
                                rfl
                              refine pure_ (i := 12) (N := some 47) (v := ?_) (a' := ?_) #[true, true, true, true, true, false, false, false, false, false, true, true, true, false, false, false, false, false, false, false, false, false, false, false, false, false, false, false, false, false, false, false, false, false] rfl rfl (any_of HT_.out (by kernel_rfl)) (fun _ _ _ h => h) (Or.inl ⟨by rfl, ?_⟩) ?_ ?_
                              rotate_left
                              · intro w'
                                go_simp
                                with_reducible rfl
                              rotate_left
                              · simp only [Act.put, List.setIfInBounds_toArray, List.set_cons_zero, List.set_cons_succ, i64_w, i32_w]
                                rfl
                              refine pure_ (i := 13) (N := some 48) (v := ?_) (a' := ?_) #[true, true, true, true, true, false, false, false, false, false, true, true, true, true, false, false, false, false, false, false, false, false, false, false, false, false, false, false, false, false, false, false, false, false] rfl rfl (any_of HT_.out (by kernel_rfl)) (fun _ _ _ h => h) (Or.inl ⟨by rfl, ?_⟩) ?_ ?_
                              rotate_left
                              · intro w'
                                go_simp
                                with_reducible rfl
                              rotate_left
                              · simp only [Act.put, List.setIfInBounds_toArray, List.set_cons_zero, List.set_cons_succ, i64_w, i32_w]
                                rfl
                              refine pure_ (i := 16) (N := some 51) (v := ?_) (a' := ?_) #[true, true, true, true, true, false, false, false, false, false, true, true, true, true, false, false, true, false, false, false, false, false, false, false, false, false, false, false, false, false, false, false, false, false] rfl rfl (any_of HT_.out (by kernel_rfl)) (fun _ _ _ h => h) (Or.inl ⟨by rfl, ?_⟩) ?_ ?_
                              rotate_left
                              · intro w'
                                go_simp
                                with_reducible rfl
                              rotate_left
                              · simp only [Act.put, List.setIfInBounds_toArray, List.set_cons_zero, List.set_cons_succ, i64_w, i32_w]
                                rfl
                              refine pure_ (i := 17) (N := some 52) (v := ?_) (a' := ?_) #[true, true, true, true, true, false, false, false, false, false, true, true, true, true, false, false, true, true, false, false, false, false, false, false, false, false, false, false, false, false, false, false, false, false] rfl rfl (any_of HT_.out (by kernel_rfl)) (fun _ _ _ h => h) (Or.inl ⟨by rfl, ?_⟩) ?_ ?_
                              rotate_left
                              · intro w'
                                go_simp
                                with_reducible rfl
                              rotate_left
                              · simp only [Act.put, List.setIfInBounds_toArray, List.set_cons_zero, List.set_cons_succ, i64_w, i32_w]
                                rfl
                              refine pure_ (i := 18) (N := some 53) (v := ?_) (a' := ?_) #[true, true, true, true, true, false, false, false, false, false, true, true, true, true, false, false, true, true, true, false, false, false, false, false, false, false, false, false, false, false, false, false, false, false] rfl rfl (any_of HT_.out (by kernel_rfl)) (fun _ _ _ h => h) (Or.inl ⟨by rfl, ?_⟩) ?_ ?_
                              rotate_left
                              · intro w'
                                go_simp
                                with_reducible rfl
                              rotate_left
                              · simp only [Act.put, List.setIfInBounds_toArray, List.set_cons_zero, List.set_cons_succ, i64_w, i32_w]
                                rfl
                              refine pure_ (i := 19) (N := some 54) (v := ?_) (a' := ?_) #[true, true, true, true, true, false, false, false, false, false, true, true, true, true, false, false, true, true, true, true, false, false, false, false, false, false, false, false, false, false, false, false, false, false] rfl rfl (any_of HT_.out (by kernel_rfl)) (fun _ _ _ h => h) (Or.inl ⟨by rfl, ?_⟩) ?_ ?_
                              rotate_left
                              · intro w'
                                go_simp
                                with_reducible rfl
                              rotate_left
                              · simp only [Act.put, List.setIfInBounds_toArray, List.set_cons_zero, List.set_cons_succ, i64_w, i32_w]
                                rfl
                              refine pure_ (i := 26) (N := some 61) (v := ?_) (a' := ?_) #[true, true, true, true, true, false, false, false, false, false, true, true, true, true, false, false, true, true, true, true, false, false, false, false, false, false, true, false, false, false, false, false, false, false] rfl rfl (any_of HT_.out (by kernel_rfl)) (fun _ _ _ h => h) (Or.inl ⟨by rfl, ?_⟩) ?_ ?_
                              rotate_left
                              · intro w'
                                go_simp
                                with_reducible rfl
                              rotate_left
                              · simp only [Act.put, List.setIfInBounds_toArray, List.set_cons_zero, List.set_cons_succ, i64_w, i32_w]
                                rfl
                              refine pure_ (i := 27) (N := some 62) (v := ?_) (a' := ?_) #[true, true, true, true, true, false, false, false, false, false, true, true, true, true, false, false, true, true, true, true, false, false, false, false, false, false, true, true, false, false, false, false, false, false] rfl rfl (any_of HT_.out (by kernel_rfl)) (fun _ _ _ h => h) (Or.inl ⟨by rfl, ?_⟩) ?_ ?_
                              rotate_left
                              · intro w'
                                go_simp
                                with_reducible rfl
                              rotate_left
                              · simp only [Act.put, List.setIfInBounds_toArray, List.set_cons_zero, List.set_cons_succ, i64_w, i32_w]
                                rfl
                              refine pure_ (i := 28) (N := some 63) (v := ?_) (a' := ?_) #[true, true, true, true, true, false, false, false, false, false, true, true, true, true, false, false, true, true, true, true, false, false, false, false, false, false, true, true, true, false, false, false, false, false] rfl rfl (any_of HT_.out (by kernel_rfl)) (fun _ _ _ h => h) (Or.inl ⟨by rfl, ?_⟩) ?_ ?_
                              rotate_left
                              · intro w'
                                go_simp
                                with_reducible rfl
                              rotate_left
                              · simp only [Act.put, List.setIfInBounds_toArray, List.set_cons_zero, List.set_cons_succ, i64_w, i32_w]
                                rfl
                              refine pure_ (i := 29) (N := some 64) (v := ?_) (a' := ?_) #[true, true, true, true, true, false, false, false, false, false, true, true, true, true, false, false, true, true, true, true, false, false, false, false, false, false, true, true, true, true, false, false, false, false] rfl rfl (any_of HT_.out (by kernel_rfl)) (fun _ _ _ h => h) (Or.inl ⟨by rfl, ?_⟩) ?_ ?_
                              rotate_left
                              · intro w'
                                go_simp
                                with_reducible rfl
                              rotate_left
                              · simp only [Act.put, List.setIfInBounds_toArray, List.set_cons_zero, List.set_cons_succ, i64_w, i32_w]
                                rfl
                              refine take_ (i := 5) (N := some 40) (v := ?_) (a' := ?_) #[true, true, true, true, true, true, false, false, false, false, true, true, true, true, false, false, true, true, true, true, false, false, false, false, false, false, true, true, true, true, false, false, false, false] rfl rfl (take_ofW HT_.out HW_.out (by kernel_rfl)) (fun _ _ _ h => h) (Or.inl ⟨by rfl, ?_⟩) hHeld ?_ ?_
                              rotate_left
                              · rintro w' ⟨s0, s1, s2, s3, s4, s5, s6, s7⟩
                                go_simp
                                with_reducible rfl
                              rotate_left
                              · simp only [Act.put, List.setIfInBounds_toArray, List.set_cons_zero, List.set_cons_succ, i64_w, i32_w]
                                rfl
                              refine pure_ (i := 6) (N := some 41) (v := ?_) (a' := ?_) #[true, true, true, true, true, true, true, false, false, false, true, true, true, true, false, false, true, true, true, true, false, false, false, false, false, false, true, true, true, true, false, false, false, false] rfl rfl (any_of HT_.out (by kernel_rfl)) (fun _ _ _ h => h) (Or.inl ⟨by rfl, ?_⟩) ?_ ?_
                              rotate_left
                              · intro w'
                                go_simp
                                with_reducible rfl
                              rotate_left
                              · simp only [Act.put, List.setIfInBounds_toArray, List.set_cons_zero, List.set_cons_succ, i64_w, i32_w]
                                rfl
                              refine pure_ (i := 7) (N := some 42) (v := ?_) (a' := ?_) #[true, true, true, true, true, true, true, true, false, false, true, true, true, true, false, false, true, true, true, true, false, false, false, false, false, false, true, true, true, true, false, false, false, false] rfl rfl (any_of HT_.out (by kernel_rfl)) (fun _ _ _ h => h) (Or.inl ⟨by rfl, ?_⟩) ?_ ?_
                              rotate_left
                              · intro w'
                                go_simp
                                with_reducible rfl
                              rotate_left
                              · simp only [Act.put, List.setIfInBounds_toArray, List.set_cons_zero, List.set_cons_succ, i64_w, i32_w]
                                rfl
                              refine take_ (i := 14) (N := some 49) (v := ?_) (a' := ?_) #[true, true, true, true, true, true, true, true, false, false, true, true, true, true, true, false, true, true, true, true, false, false, false, false, false, false, true, true, true, true, false, false, false, false] rfl rfl (take_ofW HT_.out HW_.out (by kernel_rfl)) (fun _ _ _ h => h) (Or.inl ⟨by rfl, ?_⟩) hHeld ?_ ?_
                              rotate_left
                              · rintro w' ⟨s0, s1, s2, s3, s4, s5, s6, s7⟩
                                go_simp
                                with_reducible rfl
                              rotate_left
                              · simp only [Act.put, List.setIfInBounds_toArray, List.set_cons_zero, List.set_cons_succ, i64_w, i32_w]
                                rfl
                              refine take_ (i := 20) (N := some 55) (v := ?_) (a' := ?_) #[true, true, true, true, true, true, true, true, false, false, true, true, true, true, true, false, true, true, true, true, true, false, false, false, false, false, true, true, true, true, false, false, false, false] rfl rfl (take_ofW HT_.out HW_.out (by kernel_rfl)) (fun _ _ _ h => h) (Or.inl ⟨by rfl, ?_⟩) hHeld ?_ ?_
                              rotate_left
                              · rintro w' ⟨s0, s1, s2, s3, s4, s5, s6, s7⟩
                                go_simp
                                with_reducible rfl
                              rotate_left
                              · simp only [Act.put, List.setIfInBounds_toArray, List.set_cons_zero, List.set_cons_succ, i64_w, i32_w]
                                rfl
                              refine pure_ (i := 21) (N := some 56) (v := ?_) (a' := ?_) #[true, true, true, true, true, true, true, true, false, false, true, true, true, true, true, false, true, true, true, true, true, true, false, false, false, false, true, true, true, true, false, false, false, false] rfl rfl (any_of HT_.out (by kernel_rfl)) (fun _ _ _ h => h) (Or.inl ⟨by rfl, ?_⟩) ?_ ?_
                              rotate_left
                              · intro w'
                                go_simp
                                with_reducible rfl
                              rotate_left
                              · simp only [Act.put, List.setIfInBounds_toArray, List.set_cons_zero, List.set_cons_succ, i64_w, i32_w]
                                rfl
                              refine pure_ (i := 22) (N := some 57) (v := ?_) (a' := ?_) #[true, true, true, true, true, true, true, true, false, false, true, true, true, true, true, false, true, true, true, true, true, true, true, false, false, false, true, true, true, true, false, false, false, false] rfl rfl (any_of HT_.out (by kernel_rfl)) (fun _ _ _ h => h) (Or.inl ⟨by rfl, ?_⟩) ?_ ?_
                              rotate_left
                              · intro w'
                                go_simp
                                with_reducible rfl
                              rotate_left
                              · simp only [Act.put, List.setIfInBounds_toArray, List.set_cons_zero, List.set_cons_succ, i64_w, i32_w]
                                rfl
                              refine take_ (i := 30) (N := some 65) (v := ?_) (a' := ?_) #[true, true, true, true, true, true, true, true, false, false, true, true, true, true, true, false, true, true, true, true, true, true, true, false, false, false, true, true, true, true, true, false, false, false] rfl rfl (take_ofW HT_.out HW_.out (by kernel_rfl)) (fun _ _ _ h => h) (Or.inl ⟨by rfl, ?_⟩) hHeld ?_ ?_
                              rotate_left
                              · rintro w' ⟨s0, s1, s2, s3, s4, s5, s6, s7⟩
                                go_simp
                                with_reducible rfl
                              rotate_left
                              · simp only [Act.put, List.setIfInBounds_toArray, List.set_cons_zero, List.set_cons_succ, i64_w, i32_w]
                                rfl
                              refine join_ (σ := Value × Value) 4 #[true, true, true, true, true, true, true, true, true, true, true, true, true, true, true, true, true, true, true, true, true, true, true, true, true, false, true, true, true, true, true, false, false, false] (fun s_ => [(43, s_.1), (44, .string (strOfNums y173)), (58, s_.2), (59, .string (strOfNums y178)), (50, .string ((strOfNums y173) ++ ((rd_T78 l1 x32_2).f0)))]) (fun s_ w' => (w'.cell? (ad172.add ((x32_2).toNat * 2)) = some (.string ((rd_T78 l1 x32_2).f0)) ∧ w'.cell? ⟨(ad172.add ((x32_2).toNat * 2)).block, (ad172.add ((x32_2).toNat * 2)).off + 1, none⟩ = some (.string ((rd_T78 l1 x32_2).f1)) ∧ w'.cell? (ad172.add ((x32_2).toNat * 2)) = some (.string ((rd_T78 l1 x32_2).f0)) ∧ w'.cell? ⟨(ad172.add ((x32_2).toNat * 2)).block, (ad172.add ((x32_2).toNat * 2)).off + 1, none⟩ = some (.string ((rd_T78 l1 x32_2).f1)) ∧ w'.cell? (ad172.add ((x32_2).toNat * 2)) = some (.string ((rd_T78 l1 x32_2).f0)) ∧ w'.cell? ⟨(ad172.add ((x32_2).toNat * 2)).block, (ad172.add ((x32_2).toNat * 2)).off + 1, none⟩ = some (.string ((rd_T78 l1 x32_2).f1)) ∧ w'.cell? (ad172.add ((x32_2).toNat * 2)) = some (.string ((rd_T78 l1 x32_2).f0)) ∧ w'.cell? ⟨(ad172.add ((x32_2).toNat * 2)).block, (ad172.add ((x32_2).toNat * 2)).off + 1, none⟩ = some (.string ((rd_T78 l1 x32_2).f1))) ∧ (Kd.R (Kd.int .u8) 5 w' w.heap.size (fun k_ => some k_ ≠ (s_.2 : Value).ownBlock) s_.1 y173) ∧ (Kd.R (Kd.int .u8) 5 w' w.heap.size (fun k_ => some k_ ≠ (s_.1 : Value).ownBlock) s_.2 y178) ∧ (Below w.heap.size w w')) ?_ ?_
                              rotate_left
                              · intro hJ8_9_23_24
                                refine join_ (σ := Value × Value) 5 #[true, true, true, true, true, true, true, true, true, true, true, true, true, true, true, true, true, true, true, true, true, true, true, true, false, false, true, true, true, true, true, false, false, false] (fun s_ => [(43, s_.1), (44, .string (strOfNums y173)), (58, s_.2), (50, .string ((strOfNums y173) ++ ((rd_T78 l1 x32_2).f0)))]) (fun s_ w' => (w'.cell? (ad172.add ((x32_2).toNat * 2)) = some (.string ((rd_T78 l1 x32_2).f0)) ∧ w'.cell? ⟨(ad172.add ((x32_2).toNat * 2)).block, (ad172.add ((x32_2).toNat * 2)).off + 1, none⟩ = some (.string ((rd_T78 l1 x32_2).f1)) ∧ w'.cell? (ad172.add ((x32_2).toNat * 2)) = some (.string ((rd_T78 l1 x32_2).f0)) ∧ w'.cell? ⟨(ad172.add ((x32_2).toNat * 2)).block, (ad172.add ((x32_2).toNat * 2)).off + 1, none⟩ = some (.string ((rd_T78 l1 x32_2).f1)) ∧ w'.cell? (ad172.add ((x32_2).toNat * 2)) = some (.string ((rd_T78 l1 x32_2).f0)) ∧ w'.cell? ⟨(ad172.add ((x32_2).toNat * 2)).block, (ad172.add ((x32_2).toNat * 2)).off + 1, none⟩ = some (.string ((rd_T78 l1 x32_2).f1)) ∧ w'.cell? (ad172.add ((x32_2).toNat * 2)) = some (.string ((rd_T78 l1 x32_2).f0)) ∧ w'.cell? ⟨(ad172.add ((x32_2).toNat * 2)).block, (ad172.add ((x32_2).toNat * 2)).off + 1, none⟩ = some (.string ((rd_T78 l1 x32_2).f1))) ∧ (Kd.R (Kd.int .u8) 5 w' w.heap.size (fun k_ => some k_ ≠ (s_.2 : Value).ownBlock) s_.1 y173) ∧ (Kd.R (Kd.int .u8) 5 w' w.heap.size (fun k_ => some k_ ≠ (s_.1 : Value).ownBlock) s_.2 y178) ∧ (Below w.heap.size w w')) ?_ ?_
                                rotate_left
                                · intro hJ8_9_23
                                  refine join_ (σ := Value × Value) 6 #[true, true, true, true, true, true, true, true, true, false, true, true, true, true, true, false, true, true, true, true, true, true, true, true, true, false, true, true, true, true, true, false, false, false] (fun s_ => [(43, s_.1), (58, s_.2), (59, .string (strOfNums y178))]) (fun s_ w' => (w'.cell? (ad172.add ((x32_2).toNat * 2)) = some (.string ((rd_T78 l1 x32_2).f0)) ∧ w'.cell? ⟨(ad172.add ((x32_2).toNat * 2)).block, (ad172.add ((x32_2).toNat * 2)).off + 1, none⟩ = some (.string ((rd_T78 l1 x32_2).f1)) ∧ w'.cell? (ad172.add ((x32_2).toNat * 2)) = some (.string ((rd_T78 l1 x32_2).f0)) ∧ w'.cell? ⟨(ad172.add ((x32_2).toNat * 2)).block, (ad172.add ((x32_2).toNat * 2)).off + 1, none⟩ = some (.string ((rd_T78 l1 x32_2).f1)) ∧ w'.cell? (ad172.add ((x32_2).toNat * 2)) = some (.string ((rd_T78 l1 x32_2).f0)) ∧ w'.cell? ⟨(ad172.add ((x32_2).toNat * 2)).block, (ad172.add ((x32_2).toNat * 2)).off + 1, none⟩ = some (.string ((rd_T78 l1 x32_2).f1)) ∧ w'.cell? (ad172.add ((x32_2).toNat * 2)) = some (.string ((rd_T78 l1 x32_2).f0)) ∧ w'.cell? ⟨(ad172.add ((x32_2).toNat * 2)).block, (ad172.add ((x32_2).toNat * 2)).off + 1, none⟩ = some (.string ((rd_T78 l1 x32_2).f1))) ∧ (Kd.R (Kd.int .u8) 5 w' w.heap.size (fun k_ => some k_ ≠ (s_.2 : Value).ownBlock) s_.1 y173) ∧ (Kd.R (Kd.int .u8) 5 w' w.heap.size (fun k_ => some k_ ≠ (s_.1 : Value).ownBlock) s_.2 y178) ∧ (Below w.heap.size w w')) ?_ ?_
                                  rotate_left
                                  · intro hJ8_23_24
                                    refine join_ (σ := Value) 6 #[true, true, true, true, true, true, true, true, true, true, true, true, true, true, true, true, true, true, true, true, true, true, true, false, false, false, true, true, true, true, true, false, false, false] (fun s_ => [(43, s_), (44, .string (strOfNums y173)), (50, .string ((strOfNums y173) ++ ((rd_T78 l1 x32_2).f0)))]) (fun s_ w' => (w'.cell? (ad172.add ((x32_2).toNat * 2)) = some (.string ((rd_T78 l1 x32_2).f0)) ∧ w'.cell? ⟨(ad172.add ((x32_2).toNat * 2)).block, (ad172.add ((x32_2).toNat * 2)).off + 1, none⟩ = some (.string ((rd_T78 l1 x32_2).f1)) ∧ w'.cell? (ad172.add ((x32_2).toNat * 2)) = some (.string ((rd_T78 l1 x32_2).f0)) ∧ w'.cell? ⟨(ad172.add ((x32_2).toNat * 2)).block, (ad172.add ((x32_2).toNat * 2)).off + 1, none⟩ = some (.string ((rd_T78 l1 x32_2).f1)) ∧ w'.cell? (ad172.add ((x32_2).toNat * 2)) = some (.string ((rd_T78 l1 x32_2).f0)) ∧ w'.cell? ⟨(ad172.add ((x32_2).toNat * 2)).block, (ad172.add ((x32_2).toNat * 2)).off + 1, none⟩ = some (.string ((rd_T78 l1 x32_2).f1)) ∧ w'.cell? (ad172.add ((x32_2).toNat * 2)) = some (.string ((rd_T78 l1 x32_2).f0)) ∧ w'.cell? ⟨(ad172.add ((x32_2).toNat * 2)).block, (ad172.add ((x32_2).toNat * 2)).off + 1, none⟩ = some (.string ((rd_T78 l1 x32_2).f1))) ∧ (Kd.R (Kd.int .u8) 5 w' w.heap.size (fun _ => True) s_ y173) ∧ (Below w.heap.size w w')) ?_ ?_
                                    rotate_left
                                    · intro hJ8_9
                                      refine join_ (σ := Value × Value) 7 #[true, true, true, true, true, true, true, true, true, false, true, true, true, true, true, false, true, true, true, true, true, true, true, true, false, false, true, true, true, true, true, false, false, false] (fun s_ => [(43, s_.1), (58, s_.2)]) (fun s_ w' => (w'.cell? (ad172.add ((x32_2).toNat * 2)) = some (.string ((rd_T78 l1 x32_2).f0)) ∧ w'.cell? ⟨(ad172.add ((x32_2).toNat * 2)).block, (ad172.add ((x32_2).toNat * 2)).off + 1, none⟩ = some (.string ((rd_T78 l1 x32_2).f1)) ∧ w'.cell? (ad172.add ((x32_2).toNat * 2)) = some (.string ((rd_T78 l1 x32_2).f0)) ∧ w'.cell? ⟨(ad172.add ((x32_2).toNat * 2)).block, (ad172.add ((x32_2).toNat * 2)).off + 1, none⟩ = some (.string ((rd_T78 l1 x32_2).f1)) ∧ w'.cell? (ad172.add ((x32_2).toNat * 2)) = some (.string ((rd_T78 l1 x32_2).f0)) ∧ w'.cell? ⟨(ad172.add ((x32_2).toNat * 2)).block, (ad172.add ((x32_2).toNat * 2)).off + 1, none⟩ = some (.string ((rd_T78 l1 x32_2).f1)) ∧ w'.cell? (ad172.add ((x32_2).toNat * 2)) = some (.string ((rd_T78 l1 x32_2).f0)) ∧ w'.cell? ⟨(ad172.add ((x32_2).toNat * 2)).block, (ad172.add ((x32_2).toNat * 2)).off + 1, none⟩ = some (.string ((rd_T78 l1 x32_2).f1))) ∧ (Kd.R (Kd.int .u8) 5 w' w.heap.size (fun k_ => some k_ ≠ (s_.2 : Value).ownBlock) s_.1 y173) ∧ (Kd.R (Kd.int .u8) 5 w' w.heap.size (fun k_ => some k_ ≠ (s_.1 : Value).ownBlock) s_.2 y178) ∧ (Below w.heap.size w w')) ?_ ?_
                                      rotate_left
                                      · intro hJ8_23
                                        refine join_ (σ := Value) 7 #[true, true, true, true, true, true, true, true, false, false, true, true, true, true, true, false, true, true, true, true, true, true, true, true, true, false, true, true, true, true, true, false, false, false] (fun s_ => [(58, s_), (59, .string (strOfNums y178))]) (fun s_ w' => (w'.cell? (ad172.add ((x32_2).toNat * 2)) = some (.string ((rd_T78 l1 x32_2).f0)) ∧ w'.cell? ⟨(ad172.add ((x32_2).toNat * 2)).block, (ad172.add ((x32_2).toNat * 2)).off + 1, none⟩ = some (.string ((rd_T78 l1 x32_2).f1)) ∧ w'.cell? (ad172.add ((x32_2).toNat * 2)) = some (.string ((rd_T78 l1 x32_2).f0)) ∧ w'.cell? ⟨(ad172.add ((x32_2).toNat * 2)).block, (ad172.add ((x32_2).toNat * 2)).off + 1, none⟩ = some (.string ((rd_T78 l1 x32_2).f1)) ∧ w'.cell? (ad172.add ((x32_2).toNat * 2)) = some (.string ((rd_T78 l1 x32_2).f0)) ∧ w'.cell? ⟨(ad172.add ((x32_2).toNat * 2)).block, (ad172.add ((x32_2).toNat * 2)).off + 1, none⟩ = some (.string ((rd_T78 l1 x32_2).f1)) ∧ w'.cell? (ad172.add ((x32_2).toNat * 2)) = some (.string ((rd_T78 l1 x32_2).f0)) ∧ w'.cell? ⟨(ad172.add ((x32_2).toNat * 2)).block, (ad172.add ((x32_2).toNat * 2)).off + 1, none⟩ = some (.string ((rd_T78 l1 x32_2).f1))) ∧ (Kd.R (Kd.int .u8) 5 w' w.heap.size (fun _ => True) s_ y178) ∧ (Below w.heap.size w w')) ?_ ?_
                                        rotate_left
                                        · intro hJ23_24
                                          refine join_ (σ := Value) 8 #[true, true, true, true, true, true, true, true, true, false, true, true, true, true, true, false, true, true, true, true, true, true, true, false, false, false, true, true, true, true, true, false, false, false] (fun s_ => [(43, s_)]) (fun s_ w' => (w'.cell? (ad172.add ((x32_2).toNat * 2)) = some (.string ((rd_T78 l1 x32_2).f0)) ∧ w'.cell? ⟨(ad172.add ((x32_2).toNat * 2)).block, (ad172.add ((x32_2).toNat * 2)).off + 1, none⟩ = some (.string ((rd_T78 l1 x32_2).f1)) ∧ w'.cell? (ad172.add ((x32_2).toNat * 2)) = some (.string ((rd_T78 l1 x32_2).f0)) ∧ w'.cell? ⟨(ad172.add ((x32_2).toNat * 2)).block, (ad172.add ((x32_2).toNat * 2)).off + 1, none⟩ = some (.string ((rd_T78 l1 x32_2).f1)) ∧ w'.cell? (ad172.add ((x32_2).toNat * 2)) = some (.string ((rd_T78 l1 x32_2).f0)) ∧ w'.cell? ⟨(ad172.add ((x32_2).toNat * 2)).block, (ad172.add ((x32_2).toNat * 2)).off + 1, none⟩ = some (.string ((rd_T78 l1 x32_2).f1)) ∧ w'.cell? (ad172.add ((x32_2).toNat * 2)) = some (.string ((rd_T78 l1 x32_2).f0)) ∧ w'.cell? ⟨(ad172.add ((x32_2).toNat * 2)).block, (ad172.add ((x32_2).toNat * 2)).off + 1, none⟩ = some (.string ((rd_T78 l1 x32_2).f1))) ∧ (Kd.R (Kd.int .u8) 5 w' w.heap.size (fun _ => True) s_ y173) ∧ (Below w.heap.size w w')) ?_ ?_
                                          rotate_left
                                          · intro hJ8
                                            refine join_ (σ := Value) 8 #[true, true, true, true, true, true, true, true, false, false, true, true, true, true, true, false, true, true, true, true, true, true, true, true, false, false, true, true, true, true, true, false, false, false] (fun s_ => [(58, s_)]) (fun s_ w' => (w'.cell? (ad172.add ((x32_2).toNat * 2)) = some (.string ((rd_T78 l1 x32_2).f0)) ∧ w'.cell? ⟨(ad172.add ((x32_2).toNat * 2)).block, (ad172.add ((x32_2).toNat * 2)).off + 1, none⟩ = some (.string ((rd_T78 l1 x32_2).f1)) ∧ w'.cell? (ad172.add ((x32_2).toNat * 2)) = some (.string ((rd_T78 l1 x32_2).f0)) ∧ w'.cell? ⟨(ad172.add ((x32_2).toNat * 2)).block, (ad172.add ((x32_2).toNat * 2)).off + 1, none⟩ = some (.string ((rd_T78 l1 x32_2).f1)) ∧ w'.cell? (ad172.add ((x32_2).toNat * 2)) = some (.string ((rd_T78 l1 x32_2).f0)) ∧ w'.cell? ⟨(ad172.add ((x32_2).toNat * 2)).block, (ad172.add ((x32_2).toNat * 2)).off + 1, none⟩ = some (.string ((rd_T78 l1 x32_2).f1)) ∧ w'.cell? (ad172.add ((x32_2).toNat * 2)) = some (.string ((rd_T78 l1 x32_2).f0)) ∧ w'.cell? ⟨(ad172.add ((x32_2).toNat * 2)).block, (ad172.add ((x32_2).toNat * 2)).off + 1, none⟩ = some (.string ((rd_T78 l1 x32_2).f1))) ∧ (Kd.R (Kd.int .u8) 5 w' w.heap.size (fun _ => True) s_ y178) ∧ (Below w.heap.size w w')) ?_ ?_
                                            rotate_left
                                            · intro hJ23
                                              refine two_ (i := 8) (j := 23) (Ni := some 43) (Nj := some 58) #[true, true, true, true, true, true, true, true, true, false, true, true, true, true, true, false, true, true, true, true, true, true, true, false, false, false, true, true, true, true, true, false, false, false] #[true, true, true, true, true, true, true, true, false, false, true, true, true, true, true, false, true, true, true, true, true, true, true, true, false, false, true, true, true, true, true, false, false, false] rfl rfl rfl rfl (two_of HT_.out (by kernel_rfl)) (by decide) (by decide) (fun K hK => ?_) (fun K hK => ?_)
                                              · skip
                                                refine Kd.R_lit_step (Kd.int .u8) _ 5 ?hg (N := 43) ?hd (xs := ([((((rd_T78 l1 x32_2).f0).size : Int)) % 256] : List Int)) (inner := [.int .u8 (((((rd_T78 l1 x32_2).f0).size : Int)) % 256)]) (ok := fun _ => True) (okp := fun _ => True) ?hr ?hp (fun _ hk => hk) trivial (Below.refl _ _) (Nat.le_refl _) (by simp) ?_; (case hd => rfl); (case hg => rfl); (case hr => first | (go_simp; done) | (go_simp; rfl)); (case hp => exact (Reps.one (show Kd.M (Kd.int .u8) _ _ _ (((((rd_T78 l1 x32_2).f0).size : Int)) % 256) [.int .u8 (((((rd_T78 l1 x32_2).f0).size : Int)) % 256)] from rfl) (Reps.none _ _)))
                                                intro v174 w21 ho22 hb hg_ hnew_
                                                clear hg_ hnew_
                                                (first | rw [← Ny173.out] at ho22 | (simp only [Int.reduceToNat] at ho22; rw [← Ny173.out] at ho22))
                                                have n0_ := Aside0.mk (Kd.R_lower ho22 (below_size (by repeat (first | (with_reducible first | exact HB.out | apply below_alloc | apply pw_below_drewN | apply below_drew1) | exact HB.out))))
                                                have n1_ := Aside0.mk (below_step (by repeat (first | (with_reducible first | exact HB.out | apply below_alloc | apply pw_below_drewN | apply below_drew1) | exact HB.out)) hb)
                                                clear HB
                                                have HO175 := n0_
                                                have HB := n1_
                                                clear n0_ n1_
                                                clear hb ho22
                                                refine hK.out _ _ ⟨((HB.out.cell (World.block_lt_of_cell? w _ hw172_0)).trans hw172_0), ((HB.out.cell (World.block_lt_of_cell? w _ hw172_1)).trans hw172_1), ((HB.out.cell (World.block_lt_of_cell? w _ hw176_0)).trans hw176_0), ((HB.out.cell (World.block_lt_of_cell? w _ hw176_1)).trans hw176_1), ((HB.out.cell (World.block_lt_of_cell? w _ hw177_0)).trans hw177_0), ((HB.out.cell (World.block_lt_of_cell? w _ hw177_1)).trans hw177_1), ((HB.out.cell (World.block_lt_of_cell? w _ hw181_0)).trans hw181_0), ((HB.out.cell (World.block_lt_of_cell? w _ hw181_1)).trans hw181_1)⟩ (fun hHeld => ?_)
                                                clear hK K
                                                refine norm_ (a' := ?_) ?_ ?_
                                                rotate_left
                                                · show Act.put _ (some 43) _ = _
                                                  simp only [Act.put, List.setIfInBounds_toArray, List.set_cons_zero, List.set_cons_succ, i64_w, i32_w]
                                                  rfl
                                                exact norm_ (by first | (simp only [putAll, Act.put, List.setIfInBounds_toArray, List.set_cons_zero, List.set_cons_succ]; done) | (simp only [putAll, Act.put, List.setIfInBounds_toArray, List.set_cons_zero, List.set_cons_succ]; rfl)) (hJ8 (v174) _ ⟨hHeld, (by (with_reducible repeat (first | apply Kd.R_alloc | apply Kd.R_drewN | apply Kd.R_drew)); exact HO175.out), (by repeat (first | (with_reducible first | exact HB.out | apply below_alloc | apply pw_below_drewN | apply below_drew1) | exact HB.out))⟩)
                                              · skip
                                                refine Kd.R_lit_step (Kd.int .u8) _ 5 ?hg (N := 58) ?hd (xs := ([((((rd_T78 l1 x32_2).f1).size : Int)) % 256] : List Int)) (inner := [.int .u8 (((((rd_T78 l1 x32_2).f1).size : Int)) % 256)]) (ok := fun _ => True) (okp := fun _ => True) ?hr ?hp (fun _ hk => hk) trivial (Below.refl _ _) (Nat.le_refl _) (by simp) ?_; (case hd => rfl); (case hg => rfl); (case hr => first | (go_simp; done) | (go_simp; rfl)); (case hp => exact (Reps.one (show Kd.M (Kd.int .u8) _ _ _ (((((rd_T78 l1 x32_2).f1).size : Int)) % 256) [.int .u8 (((((rd_T78 l1 x32_2).f1).size : Int)) % 256)] from rfl) (Reps.none _ _)))
                                                intro v179 w21 ho22 hb hg_ hnew_
                                                clear hg_ hnew_
                                                (first | rw [← Ny178.out] at ho22 | (simp only [Int.reduceToNat] at ho22; rw [← Ny178.out] at ho22))
                                                have n0_ := Aside0.mk (Kd.R_lower ho22 (below_size (by repeat (first | (with_reducible first | exact HB.out | apply below_alloc | apply pw_below_drewN | apply below_drew1) | exact HB.out))))
                                                have n1_ := Aside0.mk (below_step (by repeat (first | (with_reducible first | exact HB.out | apply below_alloc | apply pw_below_drewN | apply below_drew1) | exact HB.out)) hb)
                                                clear HB
                                                have HO180 := n0_
                                                have HB := n1_
                                                clear n0_ n1_
                                                clear hb ho22
                                                refine hK.out _ _ ⟨((HB.out.cell (World.block_lt_of_cell? w _ hw172_0)).trans hw172_0), ((HB.out.cell (World.block_lt_of_cell? w _ hw172_1)).trans hw172_1), ((HB.out.cell (World.block_lt_of_cell? w _ hw176_0)).trans hw176_0), ((HB.out.cell (World.block_lt_of_cell? w _ hw176_1)).trans hw176_1), ((HB.out.cell (World.block_lt_of_cell? w _ hw177_0)).trans hw177_0), ((HB.out.cell (World.block_lt_of_cell? w _ hw177_1)).trans hw177_1), ((HB.out.cell (World.block_lt_of_cell? w _ hw181_0)).trans hw181_0), ((HB.out.cell (World.block_lt_of_cell? w _ hw181_1)).trans hw181_1)⟩ (fun hHeld => ?_)
                                                clear hK K
                                                refine norm_ (a' := ?_) ?_ ?_
                                                rotate_left
                                                · show Act.put _ (some 58) _ = _
                                                  simp only [Act.put, List.setIfInBounds_toArray, List.set_cons_zero, List.set_cons_succ, i64_w, i32_w]
                                                  rfl
                                                exact norm_ (by first | (simp only [putAll, Act.put, List.setIfInBounds_toArray, List.set_cons_zero, List.set_cons_succ]; done) | (simp only [putAll, Act.put, List.setIfInBounds_toArray, List.set_cons_zero, List.set_cons_succ]; rfl)) (hJ23 (v179) _ ⟨hHeld, (by (with_reducible repeat (first | apply Kd.R_alloc | apply Kd.R_drewN | apply Kd.R_drew)); exact HO180.out), (by repeat (first | (with_reducible first | exact HB.out | apply below_alloc | apply pw_below_drewN | apply below_drew1) | exact HB.out))⟩)
                                            · skip
                                              rintro v179 w23 ⟨hS_, h0_, h1_⟩
                                              have n0_ : Aside0 (Kd.R (Kd.int .u8) 5 w23 w.heap.size (fun _ => True) v179 y178) := ⟨h0_⟩
                                              have n1_ : Aside0 (Below w.heap.size w w23) := ⟨h1_⟩
                                              clear HB
                                              clear h0_ h1_
                                              have HO180 := n0_
                                              have HB := n1_
                                              clear n0_ n1_
                                              have hHeld : w23.cell? (ad172.add ((x32_2).toNat * 2)) = some (.string ((rd_T78 l1 x32_2).f0)) ∧ w23.cell? ⟨(ad172.add ((x32_2).toNat * 2)).block, (ad172.add ((x32_2).toNat * 2)).off + 1, none⟩ = some (.string ((rd_T78 l1 x32_2).f1)) ∧ w23.cell? (ad172.add ((x32_2).toNat * 2)) = some (.string ((rd_T78 l1 x32_2).f0)) ∧ w23.cell? ⟨(ad172.add ((x32_2).toNat * 2)).block, (ad172.add ((x32_2).toNat * 2)).off + 1, none⟩ = some (.string ((rd_T78 l1 x32_2).f1)) ∧ w23.cell? (ad172.add ((x32_2).toNat * 2)) = some (.string ((rd_T78 l1 x32_2).f0)) ∧ w23.cell? ⟨(ad172.add ((x32_2).toNat * 2)).block, (ad172.add ((x32_2).toNat * 2)).off + 1, none⟩ = some (.string ((rd_T78 l1 x32_2).f1)) ∧ w23.cell? (ad172.add ((x32_2).toNat * 2)) = some (.string ((rd_T78 l1 x32_2).f0)) ∧ w23.cell? ⟨(ad172.add ((x32_2).toNat * 2)).block, (ad172.add ((x32_2).toNat * 2)).off + 1, none⟩ = some (.string ((rd_T78 l1 x32_2).f1)) := hS_
                                              refine norm_ (a' := ?_) ?_ ?_
                                              rotate_left
                                              · simp only [putAll, Act.put, List.setIfInBounds_toArray, List.set_cons_zero, List.set_cons_succ]
                                                rfl
                                              refine two_ (i := 8) (j := 24) (Ni := some 43) (Nj := some 59) #[true, true, true, true, true, true, true, true, true, false, true, true, true, true, true, false, true, true, true, true, true, true, true, true, false, false, true, true, true, true, true, false, false, false] #[true, true, true, true, true, true, true, true, false, false, true, true, true, true, true, false, true, true, true, true, true, true, true, true, true, false, true, true, true, true, true, false, false, false] rfl rfl rfl rfl (two_of HT_.out (by kernel_rfl)) (by decide) (by decide) (fun K hK => ?_) (fun K hK => ?_)
                                              · skip
                                                refine Kd.R_lit_step (Kd.int .u8) _ 5 ?hg (N := 43) ?hd (xs := ([((((rd_T78 l1 x32_2).f0).size : Int)) % 256] : List Int)) (inner := [.int .u8 (((((rd_T78 l1 x32_2).f0).size : Int)) % 256)]) (ok := fun _ => True) (okp := fun _ => True) ?hr ?hp (fun _ hk => hk) trivial (Below.refl _ _) (Nat.le_refl _) (by simp) ?_; (case hd => rfl); (case hg => rfl); (case hr => first | (go_simp; done) | (go_simp; rfl)); (case hp => exact (Reps.one (show Kd.M (Kd.int .u8) _ _ _ (((((rd_T78 l1 x32_2).f0).size : Int)) % 256) [.int .u8 (((((rd_T78 l1 x32_2).f0).size : Int)) % 256)] from rfl) (Reps.none _ _)))
                                                intro v174 w24 ho25 hb hg_ hnew_
                                                clear hg_ hnew_
                                                (first | rw [← Ny173.out] at ho25 | (simp only [Int.reduceToNat] at ho25; rw [← Ny173.out] at ho25))
                                                have n0_ := Aside0.mk (Kd.R_elder' (by (with_reducible repeat (first | apply Kd.R_alloc | apply Kd.R_drewN | apply Kd.R_drew)); exact HO180.out) (Kd.R_base ho25) hb)
                                                have n1_ := Aside0.mk (Kd.R_lower (Kd.R_new' ho25 (Kd.R_lt (by (with_reducible repeat (first | apply Kd.R_alloc | apply Kd.R_drewN | apply Kd.R_drew)); exact HO180.out))) (below_size (by repeat (first | (with_reducible first | exact HB.out | apply below_alloc | apply pw_below_drewN | apply below_drew1) | exact HB.out))))
                                                have n2_ := Aside0.mk (below_step (by repeat (first | (with_reducible first | exact HB.out | apply below_alloc | apply pw_below_drewN | apply below_drew1) | exact HB.out)) hb)
                                                clear HO180
                                                clear HB
                                                have HO180 := n0_
                                                have HO175 := n1_
                                                have HB := n2_
                                                clear n0_ n1_ n2_
                                                clear hb ho25
                                                refine hK.out _ _ ⟨((HB.out.cell (World.block_lt_of_cell? w _ hw172_0)).trans hw172_0), ((HB.out.cell (World.block_lt_of_cell? w _ hw172_1)).trans hw172_1), ((HB.out.cell (World.block_lt_of_cell? w _ hw176_0)).trans hw176_0), ((HB.out.cell (World.block_lt_of_cell? w _ hw176_1)).trans hw176_1), ((HB.out.cell (World.block_lt_of_cell? w _ hw177_0)).trans hw177_0), ((HB.out.cell (World.block_lt_of_cell? w _ hw177_1)).trans hw177_1), ((HB.out.cell (World.block_lt_of_cell? w _ hw181_0)).trans hw181_0), ((HB.out.cell (World.block_lt_of_cell? w _ hw181_1)).trans hw181_1)⟩ (fun hHeld => ?_)
                                                clear hK K
                                                refine norm_ (a' := ?_) ?_ ?_
                                                rotate_left
                                                · show Act.put _ (some 43) _ = _
                                                  simp only [Act.put, List.setIfInBounds_toArray, List.set_cons_zero, List.set_cons_succ, i64_w, i32_w]
                                                  rfl
                                                exact norm_ (by first | (simp only [putAll, Act.put, List.setIfInBounds_toArray, List.set_cons_zero, List.set_cons_succ]; done) | (simp only [putAll, Act.put, List.setIfInBounds_toArray, List.set_cons_zero, List.set_cons_succ]; rfl)) (hJ8_23 (v174, v179) _ ⟨hHeld, (by (with_reducible repeat (first | apply Kd.R_alloc | apply Kd.R_drewN | apply Kd.R_drew)); exact Kd.R_mono HO175.out (fun _ hk => hk.2)), (by (with_reducible repeat (first | apply Kd.R_alloc | apply Kd.R_drewN | apply Kd.R_drew)); exact Kd.R_mono HO180.out (fun _ hk => hk.2)), (by repeat (first | (with_reducible first | exact HB.out | apply below_alloc | apply pw_below_drewN | apply below_drew1) | exact HB.out))⟩)
                                              · skip
                                                have hcv24 := own_string (P := Try.prog) Try.underlying79 Try.underlying5 Try.underlying9 (Kd.own_of_R HO180.out)
                                                refine value_ (w1 := ?_) (v := ?_) (by rfl) rfl ?_ ?_
                                                rotate_left 2
                                                · go_simp
                                                  constructor
                                                  · rfl
                                                  · rfl
                                                clear hcv24
                                                refine hK.out _ _ ⟨((HB.out.cell (World.block_lt_of_cell? w _ hw172_0)).trans hw172_0), ((HB.out.cell (World.block_lt_of_cell? w _ hw172_1)).trans hw172_1), ((HB.out.cell (World.block_lt_of_cell? w _ hw176_0)).trans hw176_0), ((HB.out.cell (World.block_lt_of_cell? w _ hw176_1)).trans hw176_1), ((HB.out.cell (World.block_lt_of_cell? w _ hw177_0)).trans hw177_0), ((HB.out.cell (World.block_lt_of_cell? w _ hw177_1)).trans hw177_1), ((HB.out.cell (World.block_lt_of_cell? w _ hw181_0)).trans hw181_0), ((HB.out.cell (World.block_lt_of_cell? w _ hw181_1)).trans hw181_1)⟩ (fun hHeld => ?_)
                                                clear hK K
                                                refine norm_ (a' := ?_) ?_ ?_
                                                rotate_left
                                                · show Act.put _ (some 59) _ = _
                                                  simp only [Act.put, List.setIfInBounds_toArray, List.set_cons_zero, List.set_cons_succ, i64_w, i32_w]
                                                  rfl
                                                exact norm_ (by first | (simp only [putAll, Act.put, List.setIfInBounds_toArray, List.set_cons_zero, List.set_cons_succ]; done) | (simp only [putAll, Act.put, List.setIfInBounds_toArray, List.set_cons_zero, List.set_cons_succ]; rfl)) (hJ23_24 (v179) _ ⟨hHeld, (by (with_reducible repeat (first | apply Kd.R_alloc | apply Kd.R_drewN | apply Kd.R_drew)); exact HO180.out), (by repeat (first | (with_reducible first | exact HB.out | apply below_alloc | apply pw_below_drewN | apply below_drew1) | exact HB.out))⟩)
                                          · skip
                                            rintro v174 w23 ⟨hS_, h0_, h1_⟩
                                            have n0_ : Aside0 (Kd.R (Kd.int .u8) 5 w23 w.heap.size (fun _ => True) v174 y173) := ⟨h0_⟩
                                            have n1_ : Aside0 (Below w.heap.size w w23) := ⟨h1_⟩
                                            clear HB
                                            clear h0_ h1_
                                            have HO175 := n0_
                                            have HB := n1_
                                            clear n0_ n1_
                                            have hHeld : w23.cell? (ad172.add ((x32_2).toNat * 2)) = some (.string ((rd_T78 l1 x32_2).f0)) ∧ w23.cell? ⟨(ad172.add ((x32_2).toNat * 2)).block, (ad172.add ((x32_2).toNat * 2)).off + 1, none⟩ = some (.string ((rd_T78 l1 x32_2).f1)) ∧ w23.cell? (ad172.add ((x32_2).toNat * 2)) = some (.string ((rd_T78 l1 x32_2).f0)) ∧ w23.cell? ⟨(ad172.add ((x32_2).toNat * 2)).block, (ad172.add ((x32_2).toNat * 2)).off + 1, none⟩ = some (.string ((rd_T78 l1 x32_2).f1)) ∧ w23.cell? (ad172.add ((x32_2).toNat * 2)) = some (.string ((rd_T78 l1 x32_2).f0)) ∧ w23.cell? ⟨(ad172.add ((x32_2).toNat * 2)).block, (ad172.add ((x32_2).toNat * 2)).off + 1, none⟩ = some (.string ((rd_T78 l1 x32_2).f1)) ∧ w23.cell? (ad172.add ((x32_2).toNat * 2)) = some (.string ((rd_T78 l1 x32_2).f0)) ∧ w23.cell? ⟨(ad172.add ((x32_2).toNat * 2)).block, (ad172.add ((x32_2).toNat * 2)).off + 1, none⟩ = some (.string ((rd_T78 l1 x32_2).f1)) := hS_
                                            refine norm_ (a' := ?_) ?_ ?_
                                            rotate_left
                                            · simp only [putAll, Act.put, List.setIfInBounds_toArray, List.set_cons_zero, List.set_cons_succ]
                                              rfl
                                            refine two_ (i := 9) (j := 23) (Ni := some 44) (Nj := some 58) #[true, true, true, true, true, true, true, true, true, true, true, true, true, true, true, false, true, true, true, true, true, true, true, false, false, false, true, true, true, true, true, false, false, false] #[true, true, true, true, true, true, true, true, true, false, true, true, true, true, true, false, true, true, true, true, true, true, true, true, false, false, true, true, true, true, true, false, false, false] rfl rfl rfl rfl (two_of HT_.out (by kernel_rfl)) (by decide) (by decide) (fun K hK => ?_) (fun K hK => ?_)
                                            · skip
                                              have hcv24 := own_string (P := Try.prog) Try.underlying79 Try.underlying5 Try.underlying9 (Kd.own_of_R HO175.out)
                                              refine value_ (w1 := ?_) (v := ?_) (by rfl) rfl ?_ ?_
                                              rotate_left 2
                                              · go_simp
                                                constructor
                                                · rfl
                                                · rfl
                                              clear hcv24
                                              refine hK.out _ _ ⟨((HB.out.cell (World.block_lt_of_cell? w _ hw172_0)).trans hw172_0), ((HB.out.cell (World.block_lt_of_cell? w _ hw172_1)).trans hw172_1), ((HB.out.cell (World.block_lt_of_cell? w _ hw176_0)).trans hw176_0), ((HB.out.cell (World.block_lt_of_cell? w _ hw176_1)).trans hw176_1), ((HB.out.cell (World.block_lt_of_cell? w _ hw177_0)).trans hw177_0), ((HB.out.cell (World.block_lt_of_cell? w _ hw177_1)).trans hw177_1), ((HB.out.cell (World.block_lt_of_cell? w _ hw181_0)).trans hw181_0), ((HB.out.cell (World.block_lt_of_cell? w _ hw181_1)).trans hw181_1)⟩ (fun hHeld => ?_)
                                              clear hK K
                                              refine norm_ (a' := ?_) ?_ ?_
                                              rotate_left
                                              · show Act.put _ (some 44) _ = _
                                                simp only [Act.put, List.setIfInBounds_toArray, List.set_cons_zero, List.set_cons_succ, i64_w, i32_w]
                                                rfl
                                              refine pure_ (i := 15) (N := some 50) (v := ?_) (a' := ?_) #[true, true, true, true, true, true, true, true, true, true, true, true, true, true, true, true, true, true, true, true, true, true, true, false, false, false, true, true, true, true, true, false, false, false] rfl rfl (any_of HT_.out (by kernel_rfl)) (fun _ _ _ h => h) (Or.inl ⟨by rfl, ?_⟩) ?_ ?_
                                              rotate_left
                                              · intro w'
                                                go_simp
                                                with_reducible rfl
                                              rotate_left
                                              · simp only [Act.put, List.setIfInBounds_toArray, List.set_cons_zero, List.set_cons_succ, i64_w, i32_w]
                                                rfl
                                              exact norm_ (by first | (simp only [putAll, Act.put, List.setIfInBounds_toArray, List.set_cons_zero, List.set_cons_succ]; done) | (simp only [putAll, Act.put, List.setIfInBounds_toArray, List.set_cons_zero, List.set_cons_succ]; rfl)) (hJ8_9 (v174) _ ⟨hHeld, (by (with_reducible repeat (first | apply Kd.R_alloc | apply Kd.R_drewN | apply Kd.R_drew)); exact HO175.out), (by repeat (first | (with_reducible first | exact HB.out | apply below_alloc | apply pw_below_drewN | apply below_drew1) | exact HB.out))⟩)
                                            · skip
                                              refine Kd.R_lit_step (Kd.int .u8) _ 5 ?hg (N := 58) ?hd (xs := ([((((rd_T78 l1 x32_2).f1).size : Int)) % 256] : List Int)) (inner := [.int .u8 (((((rd_T78 l1 x32_2).f1).size : Int)) % 256)]) (ok := fun _ => True) (okp := fun _ => True) ?hr ?hp (fun _ hk => hk) trivial (Below.refl _ _) (Nat.le_refl _) (by simp) ?_; (case hd => rfl); (case hg => rfl); (case hr => first | (go_simp; done) | (go_simp; rfl)); (case hp => exact (Reps.one (show Kd.M (Kd.int .u8) _ _ _ (((((rd_T78 l1 x32_2).f1).size : Int)) % 256) [.int .u8 (((((rd_T78 l1 x32_2).f1).size : Int)) % 256)] from rfl) (Reps.none _ _)))
                                              intro v179 w24 ho25 hb hg_ hnew_
                                              clear hg_ hnew_
                                              (first | rw [← Ny178.out] at ho25 | (simp only [Int.reduceToNat] at ho25; rw [← Ny178.out] at ho25))
                                              have n0_ := Aside0.mk (Kd.R_elder' (by (with_reducible repeat (first | apply Kd.R_alloc | apply Kd.R_drewN | apply Kd.R_drew)); exact HO175.out) (Kd.R_base ho25) hb)
                                              have n1_ := Aside0.mk (Kd.R_lower (Kd.R_new' ho25 (Kd.R_lt (by (with_reducible repeat (first | apply Kd.R_alloc | apply Kd.R_drewN | apply Kd.R_drew)); exact HO175.out))) (below_size (by repeat (first | (with_reducible first | exact HB.out | apply below_alloc | apply pw_below_drewN | apply below_drew1) | exact HB.out))))
                                              have n2_ := Aside0.mk (below_step (by repeat (first | (with_reducible first | exact HB.out | apply below_alloc | apply pw_below_drewN | apply below_drew1) | exact HB.out)) hb)
                                              clear HO175
                                              clear HB
                                              have HO175 := n0_
                                              have HO180 := n1_
                                              have HB := n2_
                                              clear n0_ n1_ n2_
                                              clear hb ho25
                                              refine hK.out _ _ ⟨((HB.out.cell (World.block_lt_of_cell? w _ hw172_0)).trans hw172_0), ((HB.out.cell (World.block_lt_of_cell? w _ hw172_1)).trans hw172_1), ((HB.out.cell (World.block_lt_of_cell? w _ hw176_0)).trans hw176_0), ((HB.out.cell (World.block_lt_of_cell? w _ hw176_1)).trans hw176_1), ((HB.out.cell (World.block_lt_of_cell? w _ hw177_0)).trans hw177_0), ((HB.out.cell (World.block_lt_of_cell? w _ hw177_1)).trans hw177_1), ((HB.out.cell (World.block_lt_of_cell? w _ hw181_0)).trans hw181_0), ((HB.out.cell (World.block_lt_of_cell? w _ hw181_1)).trans hw181_1)⟩ (fun hHeld => ?_)
                                              clear hK K
                                              refine norm_ (a' := ?_) ?_ ?_
                                              rotate_left
                                              · show Act.put _ (some 58) _ = _
                                                simp only [Act.put, List.setIfInBounds_toArray, List.set_cons_zero, List.set_cons_succ, i64_w, i32_w]
                                                rfl
                                              exact norm_ (by first | (simp only [putAll, Act.put, List.setIfInBounds_toArray, List.set_cons_zero, List.set_cons_succ]; done) | (simp only [putAll, Act.put, List.setIfInBounds_toArray, List.set_cons_zero, List.set_cons_succ]; rfl)) (hJ8_23 (v174, v179) _ ⟨hHeld, (by (with_reducible repeat (first | apply Kd.R_alloc | apply Kd.R_drewN | apply Kd.R_drew)); exact Kd.R_mono HO175.out (fun _ hk => hk.2)), (by (with_reducible repeat (first | apply Kd.R_alloc | apply Kd.R_drewN | apply Kd.R_drew)); exact Kd.R_mono HO180.out (fun _ hk => hk.2)), (by repeat (first | (with_reducible first | exact HB.out | apply below_alloc | apply pw_below_drewN | apply below_drew1) | exact HB.out))⟩)
                                        · skip
                                          rintro v179 w24 ⟨hS_, h0_, h1_⟩
                                          have n0_ : Aside0 (Kd.R (Kd.int .u8) 5 w24 w.heap.size (fun _ => True) v179 y178) := ⟨h0_⟩
                                          have n1_ : Aside0 (Below w.heap.size w w24) := ⟨h1_⟩
                                          clear HB
                                          clear h0_ h1_
                                          have HO180 := n0_
                                          have HB := n1_
                                          clear n0_ n1_
                                          have hHeld : w24.cell? (ad172.add ((x32_2).toNat * 2)) = some (.string ((rd_T78 l1 x32_2).f0)) ∧ w24.cell? ⟨(ad172.add ((x32_2).toNat * 2)).block, (ad172.add ((x32_2).toNat * 2)).off + 1, none⟩ = some (.string ((rd_T78 l1 x32_2).f1)) ∧ w24.cell? (ad172.add ((x32_2).toNat * 2)) = some (.string ((rd_T78 l1 x32_2).f0)) ∧ w24.cell? ⟨(ad172.add ((x32_2).toNat * 2)).block, (ad172.add ((x32_2).toNat * 2)).off + 1, none⟩ = some (.string ((rd_T78 l1 x32_2).f1)) ∧ w24.cell? (ad172.add ((x32_2).toNat * 2)) = some (.string ((rd_T78 l1 x32_2).f0)) ∧ w24.cell? ⟨(ad172.add ((x32_2).toNat * 2)).block, (ad172.add ((x32_2).toNat * 2)).off + 1, none⟩ = some (.string ((rd_T78 l1 x32_2).f1)) ∧ w24.cell? (ad172.add ((x32_2).toNat * 2)) = some (.string ((rd_T78 l1 x32_2).f0)) ∧ w24.cell? ⟨(ad172.add ((x32_2).toNat * 2)).block, (ad172.add ((x32_2).toNat * 2)).off + 1, none⟩ = some (.string ((rd_T78 l1 x32_2).f1)) := hS_
                                          refine norm_ (a' := ?_) ?_ ?_
                                          rotate_left
                                          · simp only [putAll, Act.put, List.setIfInBounds_toArray, List.set_cons_zero, List.set_cons_succ]
                                            rfl
                                          refine one_ (i := 8) (N := some 43) #[true, true, true, true, true, true, true, true, true, false, true, true, true, true, true, false, true, true, true, true, true, true, true, true, true, false, true, true, true, true, true, false, false, false] rfl rfl (one_of HT_.out (by kernel_rfl)) (by decide) (fun K hK => ?_)
                                          refine Kd.R_lit_step (Kd.int .u8) _ 5 ?hg (N := 43) ?hd (xs := ([((((rd_T78 l1 x32_2).f0).size : Int)) % 256] : List Int)) (inner := [.int .u8 (((((rd_T78 l1 x32_2).f0).size : Int)) % 256)]) (ok := fun _ => True) (okp := fun _ => True) ?hr ?hp (fun _ hk => hk) trivial (Below.refl _ _) (Nat.le_refl _) (by simp) ?_; (case hd => rfl); (case hg => rfl); (case hr => first | (go_simp; done) | (go_simp; rfl)); (case hp => exact (Reps.one (show Kd.M (Kd.int .u8) _ _ _ (((((rd_T78 l1 x32_2).f0).size : Int)) % 256) [.int .u8 (((((rd_T78 l1 x32_2).f0).size : Int)) % 256)] from rfl) (Reps.none _ _)))
                                          intro v174 w25 ho26 hb hg_ hnew_
                                          clear hg_ hnew_
                                          (first | rw [← Ny173.out] at ho26 | (simp only [Int.reduceToNat] at ho26; rw [← Ny173.out] at ho26))
                                          have n0_ := Aside0.mk (Kd.R_elder' (by (with_reducible repeat (first | apply Kd.R_alloc | apply Kd.R_drewN | apply Kd.R_drew)); exact HO180.out) (Kd.R_base ho26) hb)
                                          have n1_ := Aside0.mk (Kd.R_lower (Kd.R_new' ho26 (Kd.R_lt (by (with_reducible repeat (first | apply Kd.R_alloc | apply Kd.R_drewN | apply Kd.R_drew)); exact HO180.out))) (below_size (by repeat (first | (with_reducible first | exact HB.out | apply below_alloc | apply pw_below_drewN | apply below_drew1) | exact HB.out))))
                                          have n2_ := Aside0.mk (below_step (by repeat (first | (with_reducible first | exact HB.out | apply below_alloc | apply pw_below_drewN | apply below_drew1) | exact HB.out)) hb)
                                          clear HO180
                                          clear HB
                                          have HO180 := n0_
                                          have HO175 := n1_
                                          have HB := n2_
                                          clear n0_ n1_ n2_
                                          clear hb ho26
                                          refine hK.out _ _ ⟨((HB.out.cell (World.block_lt_of_cell? w _ hw172_0)).trans hw172_0), ((HB.out.cell (World.block_lt_of_cell? w _ hw172_1)).trans hw172_1), ((HB.out.cell (World.block_lt_of_cell? w _ hw176_0)).trans hw176_0), ((HB.out.cell (World.block_lt_of_cell? w _ hw176_1)).trans hw176_1), ((HB.out.cell (World.block_lt_of_cell? w _ hw177_0)).trans hw177_0), ((HB.out.cell (World.block_lt_of_cell? w _ hw177_1)).trans hw177_1), ((HB.out.cell (World.block_lt_of_cell? w _ hw181_0)).trans hw181_0), ((HB.out.cell (World.block_lt_of_cell? w _ hw181_1)).trans hw181_1)⟩ (fun hHeld => ?_)
                                          clear hK K
                                          refine norm_ (a' := ?_) ?_ ?_
                                          rotate_left
                                          · show Act.put _ (some 43) _ = _
                                            simp only [Act.put, List.setIfInBounds_toArray, List.set_cons_zero, List.set_cons_succ, i64_w, i32_w]
                                            rfl
                                          exact norm_ (by first | (simp only [putAll, Act.put, List.setIfInBounds_toArray, List.set_cons_zero, List.set_cons_succ]; done) | (simp only [putAll, Act.put, List.setIfInBounds_toArray, List.set_cons_zero, List.set_cons_succ]; rfl)) (hJ8_23_24 (v174, v179) _ ⟨hHeld, (by (with_reducible repeat (first | apply Kd.R_alloc | apply Kd.R_drewN | apply Kd.R_drew)); exact Kd.R_mono HO175.out (fun _ hk => hk.2)), (by (with_reducible repeat (first | apply Kd.R_alloc | apply Kd.R_drewN | apply Kd.R_drew)); exact Kd.R_mono HO180.out (fun _ hk => hk.2)), (by repeat (first | (with_reducible first | exact HB.out | apply below_alloc | apply pw_below_drewN | apply below_drew1) | exact HB.out))⟩)
                                      · skip
                                        rintro ⟨v174, v179⟩ w25 ⟨hS_, h0_, h1_, h2_⟩
                                        have n0_ : Aside0 (Kd.R (Kd.int .u8) 5 w25 w.heap.size (fun k_ => some k_ ≠ (v179 : Value).ownBlock) v174 y173) := ⟨h0_⟩
                                        have n1_ : Aside0 (Kd.R (Kd.int .u8) 5 w25 w.heap.size (fun k_ => some k_ ≠ (v174 : Value).ownBlock) v179 y178) := ⟨h1_⟩
                                        have n2_ : Aside0 (Below w.heap.size w w25) := ⟨h2_⟩
                                        clear HB
                                        clear h0_ h1_ h2_
                                        have HO175 := n0_
                                        have HO180 := n1_
                                        have HB := n2_
                                        clear n0_ n1_ n2_
                                        have hHeld : w25.cell? (ad172.add ((x32_2).toNat * 2)) = some (.string ((rd_T78 l1 x32_2).f0)) ∧ w25.cell? ⟨(ad172.add ((x32_2).toNat * 2)).block, (ad172.add ((x32_2).toNat * 2)).off + 1, none⟩ = some (.string ((rd_T78 l1 x32_2).f1)) ∧ w25.cell? (ad172.add ((x32_2).toNat * 2)) = some (.string ((rd_T78 l1 x32_2).f0)) ∧ w25.cell? ⟨(ad172.add ((x32_2).toNat * 2)).block, (ad172.add ((x32_2).toNat * 2)).off + 1, none⟩ = some (.string ((rd_T78 l1 x32_2).f1)) ∧ w25.cell? (ad172.add ((x32_2).toNat * 2)) = some (.string ((rd_T78 l1 x32_2).f0)) ∧ w25.cell? ⟨(ad172.add ((x32_2).toNat * 2)).block, (ad172.add ((x32_2).toNat * 2)).off + 1, none⟩ = some (.string ((rd_T78 l1 x32_2).f1)) ∧ w25.cell? (ad172.add ((x32_2).toNat * 2)) = some (.string ((rd_T78 l1 x32_2).f0)) ∧ w25.cell? ⟨(ad172.add ((x32_2).toNat * 2)).block, (ad172.add ((x32_2).toNat * 2)).off + 1, none⟩ = some (.string ((rd_T78 l1 x32_2).f1)) := hS_
                                        refine norm_ (a' := ?_) ?_ ?_
                                        rotate_left
                                        · simp only [putAll, Act.put, List.setIfInBounds_toArray, List.set_cons_zero, List.set_cons_succ]
                                          rfl
                                        refine two_ (i := 9) (j := 24) (Ni := some 44) (Nj := some 59) #[true, true, true, true, true, true, true, true, true, true, true, true, true, true, true, false, true, true, true, true, true, true, true, true, false, false, true, true, true, true, true, false, false, false] #[true, true, true, true, true, true, true, true, true, false, true, true, true, true, true, false, true, true, true, true, true, true, true, true, true, false, true, true, true, true, true, false, false, false] rfl rfl rfl rfl (two_of HT_.out (by kernel_rfl)) (by decide) (by decide) (fun K hK => ?_) (fun K hK => ?_)
                                        · skip
                                          have hcv26 := own_string (P := Try.prog) Try.underlying79 Try.underlying5 Try.underlying9 (Kd.own_of_R HO175.out)
                                          refine value_ (w1 := ?_) (v := ?_) (by rfl) rfl ?_ ?_
                                          rotate_left 2
                                          · go_simp
                                            constructor
                                            · rfl
                                            · rfl
                                          clear hcv26
                                          refine hK.out _ _ ⟨((HB.out.cell (World.block_lt_of_cell? w _ hw172_0)).trans hw172_0), ((HB.out.cell (World.block_lt_of_cell? w _ hw172_1)).trans hw172_1), ((HB.out.cell (World.block_lt_of_cell? w _ hw176_0)).trans hw176_0), ((HB.out.cell (World.block_lt_of_cell? w _ hw176_1)).trans hw176_1), ((HB.out.cell (World.block_lt_of_cell? w _ hw177_0)).trans hw177_0), ((HB.out.cell (World.block_lt_of_cell? w _ hw177_1)).trans hw177_1), ((HB.out.cell (World.block_lt_of_cell? w _ hw181_0)).trans hw181_0), ((HB.out.cell (World.block_lt_of_cell? w _ hw181_1)).trans hw181_1)⟩ (fun hHeld => ?_)
                                          clear hK K
                                          refine norm_ (a' := ?_) ?_ ?_
                                          rotate_left
                                          · show Act.put _ (some 44) _ = _
                                            simp only [Act.put, List.setIfInBounds_toArray, List.set_cons_zero, List.set_cons_succ, i64_w, i32_w]
                                            rfl
                                          refine pure_ (i := 15) (N := some 50) (v := ?_) (a' := ?_) #[true, true, true, true, true, true, true, true, true, true, true, true, true, true, true, true, true, true, true, true, true, true, true, true, false, false, true, true, true, true, true, false, false, false] rfl rfl (any_of HT_.out (by kernel_rfl)) (fun _ _ _ h => h) (Or.inl ⟨by rfl, ?_⟩) ?_ ?_
                                          rotate_left
                                          · intro w'
                                            go_simp
                                            with_reducible rfl
                                          rotate_left
                                          · simp only [Act.put, List.setIfInBounds_toArray, List.set_cons_zero, List.set_cons_succ, i64_w, i32_w]
                                            rfl
                                          exact norm_ (by first | (simp only [putAll, Act.put, List.setIfInBounds_toArray, List.set_cons_zero, List.set_cons_succ]; done) | (simp only [putAll, Act.put, List.setIfInBounds_toArray, List.set_cons_zero, List.set_cons_succ]; rfl)) (hJ8_9_23 (v174, v179) _ ⟨hHeld, (by (with_reducible repeat (first | apply Kd.R_alloc | apply Kd.R_drewN | apply Kd.R_drew)); exact HO175.out), (by (with_reducible repeat (first | apply Kd.R_alloc | apply Kd.R_drewN | apply Kd.R_drew)); exact HO180.out), (by repeat (first | (with_reducible first | exact HB.out | apply below_alloc | apply pw_below_drewN | apply below_drew1) | exact HB.out))⟩)
                                        · skip
                                          have hcv26 := own_string (P := Try.prog) Try.underlying79 Try.underlying5 Try.underlying9 (Kd.own_of_R HO180.out)
                                          refine value_ (w1 := ?_) (v := ?_) (by rfl) rfl ?_ ?_
                                          rotate_left 2
                                          · go_simp
                                            constructor
                                            · rfl
                                            · rfl
                                          clear hcv26
                                          refine hK.out _ _ ⟨((HB.out.cell (World.block_lt_of_cell? w _ hw172_0)).trans hw172_0), ((HB.out.cell (World.block_lt_of_cell? w _ hw172_1)).trans hw172_1), ((HB.out.cell (World.block_lt_of_cell? w _ hw176_0)).trans hw176_0), ((HB.out.cell (World.block_lt_of_cell? w _ hw176_1)).trans hw176_1), ((HB.out.cell (World.block_lt_of_cell? w _ hw177_0)).trans hw177_0), ((HB.out.cell (World.block_lt_of_cell? w _ hw177_1)).trans hw177_1), ((HB.out.cell (World.block_lt_of_cell? w _ hw181_0)).trans hw181_0), ((HB.out.cell (World.block_lt_of_cell? w _ hw181_1)).trans hw181_1)⟩ (fun hHeld => ?_)
                                          clear hK K
                                          refine norm_ (a' := ?_) ?_ ?_
                                          rotate_left
                                          · show Act.put _ (some 59) _ = _
                                            simp only [Act.put, List.setIfInBounds_toArray, List.set_cons_zero, List.set_cons_succ, i64_w, i32_w]
                                            rfl
                                          exact norm_ (by first | (simp only [putAll, Act.put, List.setIfInBounds_toArray, List.set_cons_zero, List.set_cons_succ]; done) | (simp only [putAll, Act.put, List.setIfInBounds_toArray, List.set_cons_zero, List.set_cons_succ]; rfl)) (hJ8_23_24 (v174, v179) _ ⟨hHeld, (by (with_reducible repeat (first | apply Kd.R_alloc | apply Kd.R_drewN | apply Kd.R_drew)); exact HO175.out), (by (with_reducible repeat (first | apply Kd.R_alloc | apply Kd.R_drewN | apply Kd.R_drew)); exact HO180.out), (by repeat (first | (with_reducible first | exact HB.out | apply below_alloc | apply pw_below_drewN | apply below_drew1) | exact HB.out))⟩)
                                    · skip
                                      rintro v174 w24 ⟨hS_, h0_, h1_⟩
                                      have n0_ : Aside0 (Kd.R (Kd.int .u8) 5 w24 w.heap.size (fun _ => True) v174 y173) := ⟨h0_⟩
                                      have n1_ : Aside0 (Below w.heap.size w w24) := ⟨h1_⟩
                                      clear HB
                                      clear h0_ h1_
                                      have HO175 := n0_
                                      have HB := n1_
                                      clear n0_ n1_
                                      have hHeld : w24.cell? (ad172.add ((x32_2).toNat * 2)) = some (.string ((rd_T78 l1 x32_2).f0)) ∧ w24.cell? ⟨(ad172.add ((x32_2).toNat * 2)).block, (ad172.add ((x32_2).toNat * 2)).off + 1, none⟩ = some (.string ((rd_T78 l1 x32_2).f1)) ∧ w24.cell? (ad172.add ((x32_2).toNat * 2)) = some (.string ((rd_T78 l1 x32_2).f0)) ∧ w24.cell? ⟨(ad172.add ((x32_2).toNat * 2)).block, (ad172.add ((x32_2).toNat * 2)).off + 1, none⟩ = some (.string ((rd_T78 l1 x32_2).f1)) ∧ w24.cell? (ad172.add ((x32_2).toNat * 2)) = some (.string ((rd_T78 l1 x32_2).f0)) ∧ w24.cell? ⟨(ad172.add ((x32_2).toNat * 2)).block, (ad172.add ((x32_2).toNat * 2)).off + 1, none⟩ = some (.string ((rd_T78 l1 x32_2).f1)) ∧ w24.cell? (ad172.add ((x32_2).toNat * 2)) = some (.string ((rd_T78 l1 x32_2).f0)) ∧ w24.cell? ⟨(ad172.add ((x32_2).toNat * 2)).block, (ad172.add ((x32_2).toNat * 2)).off + 1, none⟩ = some (.string ((rd_T78 l1 x32_2).f1)) := hS_
                                      refine norm_ (a' := ?_) ?_ ?_
                                      rotate_left
                                      · simp only [putAll, Act.put, List.setIfInBounds_toArray, List.set_cons_zero, List.set_cons_succ]
                                        rfl
                                      refine one_ (i := 23) (N := some 58) #[true, true, true, true, true, true, true, true, true, true, true, true, true, true, true, true, true, true, true, true, true, true, true, true, false, false, true, true, true, true, true, false, false, false] rfl rfl (one_of HT_.out (by kernel_rfl)) (by decide) (fun K hK => ?_)
                                      refine Kd.R_lit_step (Kd.int .u8) _ 5 ?hg (N := 58) ?hd (xs := ([((((rd_T78 l1 x32_2).f1).size : Int)) % 256] : List Int)) (inner := [.int .u8 (((((rd_T78 l1 x32_2).f1).size : Int)) % 256)]) (ok := fun _ => True) (okp := fun _ => True) ?hr ?hp (fun _ hk => hk) trivial (Below.refl _ _) (Nat.le_refl _) (by simp) ?_; (case hd => rfl); (case hg => rfl); (case hr => first | (go_simp; done) | (go_simp; rfl)); (case hp => exact (Reps.one (show Kd.M (Kd.int .u8) _ _ _ (((((rd_T78 l1 x32_2).f1).size : Int)) % 256) [.int .u8 (((((rd_T78 l1 x32_2).f1).size : Int)) % 256)] from rfl) (Reps.none _ _)))
                                      intro v179 w25 ho26 hb hg_ hnew_
                                      clear hg_ hnew_
                                      (first | rw [← Ny178.out] at ho26 | (simp only [Int.reduceToNat] at ho26; rw [← Ny178.out] at ho26))
                                      have n0_ := Aside0.mk (Kd.R_elder' (by (with_reducible repeat (first | apply Kd.R_alloc | apply Kd.R_drewN | apply Kd.R_drew)); exact HO175.out) (Kd.R_base ho26) hb)
                                      have n1_ := Aside0.mk (Kd.R_lower (Kd.R_new' ho26 (Kd.R_lt (by (with_reducible repeat (first | apply Kd.R_alloc | apply Kd.R_drewN | apply Kd.R_drew)); exact HO175.out))) (below_size (by repeat (first | (with_reducible first | exact HB.out | apply below_alloc | apply pw_below_drewN | apply below_drew1) | exact HB.out))))
                                      have n2_ := Aside0.mk (below_step (by repeat (first | (with_reducible first | exact HB.out | apply below_alloc | apply pw_below_drewN | apply below_drew1) | exact HB.out)) hb)
                                      clear HO175
                                      clear HB
                                      have HO175 := n0_
                                      have HO180 := n1_
                                      have HB := n2_
                                      clear n0_ n1_ n2_
                                      clear hb ho26
                                      refine hK.out _ _ ⟨((HB.out.cell (World.block_lt_of_cell? w _ hw172_0)).trans hw172_0), ((HB.out.cell (World.block_lt_of_cell? w _ hw172_1)).trans hw172_1), ((HB.out.cell (World.block_lt_of_cell? w _ hw176_0)).trans hw176_0), ((HB.out.cell (World.block_lt_of_cell? w _ hw176_1)).trans hw176_1), ((HB.out.cell (World.block_lt_of_cell? w _ hw177_0)).trans hw177_0), ((HB.out.cell (World.block_lt_of_cell? w _ hw177_1)).trans hw177_1), ((HB.out.cell (World.block_lt_of_cell? w _ hw181_0)).trans hw181_0), ((HB.out.cell (World.block_lt_of_cell? w _ hw181_1)).trans hw181_1)⟩ (fun hHeld => ?_)
                                      clear hK K
                                      refine norm_ (a' := ?_) ?_ ?_
                                      rotate_left
                                      · show Act.put _ (some 58) _ = _
                                        simp only [Act.put, List.setIfInBounds_toArray, List.set_cons_zero, List.set_cons_succ, i64_w, i32_w]
                                        rfl
                                      exact norm_ (by first | (simp only [putAll, Act.put, List.setIfInBounds_toArray, List.set_cons_zero, List.set_cons_succ]; done) | (simp only [putAll, Act.put, List.setIfInBounds_toArray, List.set_cons_zero, List.set_cons_succ]; rfl)) (hJ8_9_23 (v174, v179) _ ⟨hHeld, (by (with_reducible repeat (first | apply Kd.R_alloc | apply Kd.R_drewN | apply Kd.R_drew)); exact Kd.R_mono HO175.out (fun _ hk => hk.2)), (by (with_reducible repeat (first | apply Kd.R_alloc | apply Kd.R_drewN | apply Kd.R_drew)); exact Kd.R_mono HO180.out (fun _ hk => hk.2)), (by repeat (first | (with_reducible first | exact HB.out | apply below_alloc | apply pw_below_drewN | apply below_drew1) | exact HB.out))⟩)
                                  · skip
                                    rintro ⟨v174, v179⟩ w26 ⟨hS_, h0_, h1_, h2_⟩
                                    have n0_ : Aside0 (Kd.R (Kd.int .u8) 5 w26 w.heap.size (fun k_ => some k_ ≠ (v179 : Value).ownBlock) v174 y173) := ⟨h0_⟩
                                    have n1_ : Aside0 (Kd.R (Kd.int .u8) 5 w26 w.heap.size (fun k_ => some k_ ≠ (v174 : Value).ownBlock) v179 y178) := ⟨h1_⟩
                                    have n2_ : Aside0 (Below w.heap.size w w26) := ⟨h2_⟩
                                    clear HB
                                    clear h0_ h1_ h2_
                                    have HO175 := n0_
                                    have HO180 := n1_
                                    have HB := n2_
                                    clear n0_ n1_ n2_
                                    have hHeld : w26.cell? (ad172.add ((x32_2).toNat * 2)) = some (.string ((rd_T78 l1 x32_2).f0)) ∧ w26.cell? ⟨(ad172.add ((x32_2).toNat * 2)).block, (ad172.add ((x32_2).toNat * 2)).off + 1, none⟩ = some (.string ((rd_T78 l1 x32_2).f1)) ∧ w26.cell? (ad172.add ((x32_2).toNat * 2)) = some (.string ((rd_T78 l1 x32_2).f0)) ∧ w26.cell? ⟨(ad172.add ((x32_2).toNat * 2)).block, (ad172.add ((x32_2).toNat * 2)).off + 1, none⟩ = some (.string ((rd_T78 l1 x32_2).f1)) ∧ w26.cell? (ad172.add ((x32_2).toNat * 2)) = some (.string ((rd_T78 l1 x32_2).f0)) ∧ w26.cell? ⟨(ad172.add ((x32_2).toNat * 2)).block, (ad172.add ((x32_2).toNat * 2)).off + 1, none⟩ = some (.string ((rd_T78 l1 x32_2).f1)) ∧ w26.cell? (ad172.add ((x32_2).toNat * 2)) = some (.string ((rd_T78 l1 x32_2).f0)) ∧ w26.cell? ⟨(ad172.add ((x32_2).toNat * 2)).block, (ad172.add ((x32_2).toNat * 2)).off + 1, none⟩ = some (.string ((rd_T78 l1 x32_2).f1)) := hS_
                                    refine norm_ (a' := ?_) ?_ ?_
                                    rotate_left
                                    · simp only [putAll, Act.put, List.setIfInBounds_toArray, List.set_cons_zero, List.set_cons_succ]
                                      rfl
                                    refine one_ (i := 9) (N := some 44) #[true, true, true, true, true, true, true, true, true, true, true, true, true, true, true, false, true, true, true, true, true, true, true, true, true, false, true, true, true, true, true, false, false, false] rfl rfl (one_of HT_.out (by kernel_rfl)) (by decide) (fun K hK => ?_)
                                    have hcv27 := own_string (P := Try.prog) Try.underlying79 Try.underlying5 Try.underlying9 (Kd.own_of_R HO175.out)
                                    refine value_ (w1 := ?_) (v := ?_) (by rfl) rfl ?_ ?_
                                    rotate_left 2
                                    · go_simp
                                      constructor
                                      · rfl
                                      · rfl
                                    clear hcv27
                                    refine hK.out _ _ ⟨((HB.out.cell (World.block_lt_of_cell? w _ hw172_0)).trans hw172_0), ((HB.out.cell (World.block_lt_of_cell? w _ hw172_1)).trans hw172_1), ((HB.out.cell (World.block_lt_of_cell? w _ hw176_0)).trans hw176_0), ((HB.out.cell (World.block_lt_of_cell? w _ hw176_1)).trans hw176_1), ((HB.out.cell (World.block_lt_of_cell? w _ hw177_0)).trans hw177_0), ((HB.out.cell (World.block_lt_of_cell? w _ hw177_1)).trans hw177_1), ((HB.out.cell (World.block_lt_of_cell? w _ hw181_0)).trans hw181_0), ((HB.out.cell (World.block_lt_of_cell? w _ hw181_1)).trans hw181_1)⟩ (fun hHeld => ?_)
                                    clear hK K
                                    refine norm_ (a' := ?_) ?_ ?_
                                    rotate_left
                                    · show Act.put _ (some 44) _ = _
                                      simp only [Act.put, List.setIfInBounds_toArray, List.set_cons_zero, List.set_cons_succ, i64_w, i32_w]
                                      rfl
                                    refine pure_ (i := 15) (N := some 50) (v := ?_) (a' := ?_) #[true, true, true, true, true, true, true, true, true, true, true, true, true, true, true, true, true, true, true, true, true, true, true, true, true, false, true, true, true, true, true, false, false, false] rfl rfl (any_of HT_.out (by kernel_rfl)) (fun _ _ _ h => h) (Or.inl ⟨by rfl, ?_⟩) ?_ ?_
                                    rotate_left
                                    · intro w'
                                      go_simp
                                      with_reducible rfl
                                    rotate_left
                                    · simp only [Act.put, List.setIfInBounds_toArray, List.set_cons_zero, List.set_cons_succ, i64_w, i32_w]
                                      rfl
                                    exact norm_ (by first | (simp only [putAll, Act.put, List.setIfInBounds_toArray, List.set_cons_zero, List.set_cons_succ]; done) | (simp only [putAll, Act.put, List.setIfInBounds_toArray, List.set_cons_zero, List.set_cons_succ]; rfl)) (hJ8_9_23_24 (v174, v179) _ ⟨hHeld, (by (with_reducible repeat (first | apply Kd.R_alloc | apply Kd.R_drewN | apply Kd.R_drew)); exact HO175.out), (by (with_reducible repeat (first | apply Kd.R_alloc | apply Kd.R_drewN | apply Kd.R_drew)); exact HO180.out), (by repeat (first | (with_reducible first | exact HB.out | apply below_alloc | apply pw_below_drewN | apply below_drew1) | exact HB.out))⟩)
                                · skip
                                  rintro ⟨v174, v179⟩ w26 ⟨hS_, h0_, h1_, h2_⟩
                                  have n0_ : Aside0 (Kd.R (Kd.int .u8) 5 w26 w.heap.size (fun k_ => some k_ ≠ (v179 : Value).ownBlock) v174 y173) := ⟨h0_⟩
                                  have n1_ : Aside0 (Kd.R (Kd.int .u8) 5 w26 w.heap.size (fun k_ => some k_ ≠ (v174 : Value).ownBlock) v179 y178) := ⟨h1_⟩
                                  have n2_ : Aside0 (Below w.heap.size w w26) := ⟨h2_⟩
                                  clear HB
                                  clear h0_ h1_ h2_
                                  have HO175 := n0_
                                  have HO180 := n1_
                                  have HB := n2_
                                  clear n0_ n1_ n2_
                                  have hHeld : w26.cell? (ad172.add ((x32_2).toNat * 2)) = some (.string ((rd_T78 l1 x32_2).f0)) ∧ w26.cell? ⟨(ad172.add ((x32_2).toNat * 2)).block, (ad172.add ((x32_2).toNat * 2)).off + 1, none⟩ = some (.string ((rd_T78 l1 x32_2).f1)) ∧ w26.cell? (ad172.add ((x32_2).toNat * 2)) = some (.string ((rd_T78 l1 x32_2).f0)) ∧ w26.cell? ⟨(ad172.add ((x32_2).toNat * 2)).block, (ad172.add ((x32_2).toNat * 2)).off + 1, none⟩ = some (.string ((rd_T78 l1 x32_2).f1)) ∧ w26.cell? (ad172.add ((x32_2).toNat * 2)) = some (.string ((rd_T78 l1 x32_2).f0)) ∧ w26.cell? ⟨(ad172.add ((x32_2).toNat * 2)).block, (ad172.add ((x32_2).toNat * 2)).off + 1, none⟩ = some (.string ((rd_T78 l1 x32_2).f1)) ∧ w26.cell? (ad172.add ((x32_2).toNat * 2)) = some (.string ((rd_T78 l1 x32_2).f0)) ∧ w26.cell? ⟨(ad172.add ((x32_2).toNat * 2)).block, (ad172.add ((x32_2).toNat * 2)).off + 1, none⟩ = some (.string ((rd_T78 l1 x32_2).f1)) := hS_
                                  refine norm_ (a' := ?_) ?_ ?_
                                  rotate_left
                                  · simp only [putAll, Act.put, List.setIfInBounds_toArray, List.set_cons_zero, List.set_cons_succ]
                                    rfl
                                  refine one_ (i := 24) (N := some 59) #[true, true, true, true, true, true, true, true, true, true, true, true, true, true, true, true, true, true, true, true, true, true, true, true, true, false, true, true, true, true, true, false, false, false] rfl rfl (one_of HT_.out (by kernel_rfl)) (by decide) (fun K hK => ?_)
                                  have hcv27 := own_string (P := Try.prog) Try.underlying79 Try.underlying5 Try.underlying9 (Kd.own_of_R HO180.out)
                                  refine value_ (w1 := ?_) (v := ?_) (by rfl) rfl ?_ ?_
                                  rotate_left 2
                                  · go_simp
                                    constructor
                                    · rfl
                                    · rfl
                                  clear hcv27
                                  refine hK.out _ _ ⟨((HB.out.cell (World.block_lt_of_cell? w _ hw172_0)).trans hw172_0), ((HB.out.cell (World.block_lt_of_cell? w _ hw172_1)).trans hw172_1), ((HB.out.cell (World.block_lt_of_cell? w _ hw176_0)).trans hw176_0), ((HB.out.cell (World.block_lt_of_cell? w _ hw176_1)).trans hw176_1), ((HB.out.cell (World.block_lt_of_cell? w _ hw177_0)).trans hw177_0), ((HB.out.cell (World.block_lt_of_cell? w _ hw177_1)).trans hw177_1), ((HB.out.cell (World.block_lt_of_cell? w _ hw181_0)).trans hw181_0), ((HB.out.cell (World.block_lt_of_cell? w _ hw181_1)).trans hw181_1)⟩ (fun hHeld => ?_)
                                  clear hK K
                                  refine norm_ (a' := ?_) ?_ ?_
                                  rotate_left
                                  · show Act.put _ (some 59) _ = _
                                    simp only [Act.put, List.setIfInBounds_toArray, List.set_cons_zero, List.set_cons_succ, i64_w, i32_w]
                                    rfl
                                  exact norm_ (by first | (simp only [putAll, Act.put, List.setIfInBounds_toArray, List.set_cons_zero, List.set_cons_succ]; done) | (simp only [putAll, Act.put, List.setIfInBounds_toArray, List.set_cons_zero, List.set_cons_succ]; rfl)) (hJ8_9_23_24 (v174, v179) _ ⟨hHeld, (by (with_reducible repeat (first | apply Kd.R_alloc | apply Kd.R_drewN | apply Kd.R_drew)); exact HO175.out), (by (with_reducible repeat (first | apply Kd.R_alloc | apply Kd.R_drewN | apply Kd.R_drew)); exact HO180.out), (by repeat (first | (with_reducible first | exact HB.out | apply below_alloc | apply pw_below_drewN | apply below_drew1) | exact HB.out))⟩)
                              rintro ⟨v174, v179⟩ w27 ⟨hS_, h0_, h1_, h2_⟩
                              have n0_ : Aside0 (Kd.R (Kd.int .u8) 5 w27 w.heap.size (fun k_ => some k_ ≠ (v179 : Value).ownBlock) v174 y173) := ⟨h0_⟩
                              have n1_ : Aside0 (Kd.R (Kd.int .u8) 5 w27 w.heap.size (fun k_ => some k_ ≠ (v174 : Value).ownBlock) v179 y178) := ⟨h1_⟩
                              have n2_ : Aside0 (Below w.heap.size w w27) := ⟨h2_⟩
                              clear HB
                              clear h0_ h1_ h2_
                              have HO175 := n0_
                              have HO180 := n1_
                              have HB := n2_
                              clear n0_ n1_ n2_
                              have hHeld : w27.cell? (ad172.add ((x32_2).toNat * 2)) = some (.string ((rd_T78 l1 x32_2).f0)) ∧ w27.cell? ⟨(ad172.add ((x32_2).toNat * 2)).block, (ad172.add ((x32_2).toNat * 2)).off + 1, none⟩ = some (.string ((rd_T78 l1 x32_2).f1)) ∧ w27.cell? (ad172.add ((x32_2).toNat * 2)) = some (.string ((rd_T78 l1 x32_2).f0)) ∧ w27.cell? ⟨(ad172.add ((x32_2).toNat * 2)).block, (ad172.add ((x32_2).toNat * 2)).off + 1, none⟩ = some (.string ((rd_T78 l1 x32_2).f1)) ∧ w27.cell? (ad172.add ((x32_2).toNat * 2)) = some (.string ((rd_T78 l1 x32_2).f0)) ∧ w27.cell? ⟨(ad172.add ((x32_2).toNat * 2)).block, (ad172.add ((x32_2).toNat * 2)).off + 1, none⟩ = some (.string ((rd_T78 l1 x32_2).f1)) ∧ w27.cell? (ad172.add ((x32_2).toNat * 2)) = some (.string ((rd_T78 l1 x32_2).f0)) ∧ w27.cell? ⟨(ad172.add ((x32_2).toNat * 2)).block, (ad172.add ((x32_2).toNat * 2)).off + 1, none⟩ = some (.string ((rd_T78 l1 x32_2).f1)) := hS_
                              refine norm_ (a' := ?_) ?_ ?_
                              rotate_left
                              · simp only [putAll, Act.put, List.setIfInBounds_toArray, List.set_cons_zero, List.set_cons_succ]
                                rfl
                              refine pure_ (i := 25) (N := some 60) (v := ?_) (a' := ?_) #[true, true, true, true, true, true, true, true, true, true, true, true, true, true, true, true, true, true, true, true, true, true, true, true, true, true, true, true, true, true, true, false, false, false] rfl rfl (any_of HT_.out (by kernel_rfl)) (fun _ _ _ h => h) (Or.inl ⟨by rfl, ?_⟩) ?_ ?_
                              rotate_left
                              · intro w'
                                go_simp
                                with_reducible rfl
                              rotate_left
                              · simp only [Act.put, List.setIfInBounds_toArray, List.set_cons_zero, List.set_cons_succ, i64_w, i32_w]
                                rfl
                              refine pure_ (i := 31) (N := some 66) (v := ?_) (a' := ?_) #[true, true, true, true, true, true, true, true, true, true, true, true, true, true, true, true, true, true, true, true, true, true, true, true, true, true, true, true, true, true, true, true, false, false] rfl rfl (any_of HT_.out (by kernel_rfl)) (fun _ _ _ h => h) (Or.inl ⟨by rfl, ?_⟩) ?_ ?_
                              rotate_left
                              · intro w'
                                go_simp
                                with_reducible rfl
                              rotate_left
                              · simp only [Act.put, List.setIfInBounds_toArray, List.set_cons_zero, List.set_cons_succ, i64_w, i32_w]
                                rfl
                              refine pure_ (i := 32) (N := some 67) (v := ?_) (a' := ?_) #[true, true, true, true, true, true, true, true, true, true, true, true, true, true, true, true, true, true, true, true, true, true, true, true, true, true, true, true, true, true, true, true, true, false] rfl rfl (any_of HT_.out (by kernel_rfl)) (fun _ _ _ h => h) (Or.inl ⟨by rfl, ?_⟩) ?_ ?_
                              rotate_left
                              · intro w'
                                go_simp
                                with_reducible rfl
                              rotate_left
                              · simp only [Act.put, List.setIfInBounds_toArray, List.set_cons_zero, List.set_cons_succ, i64_w, i32_w]
                                rfl
                              refine pure_ (i := 33) (N := some 7) (v := ?_) (a' := ?_) #[true, true, true, true, true, true, true, true, true, true, true, true, true, true, true, true, true, true, true, true, true, true, true, true, true, true, true, true, true, true, true, true, true, true] rfl rfl (any_of HT_.out (by kernel_rfl)) (fun _ _ _ h => h) (Or.inl ⟨by rfl, ?_⟩) ?_ ?_
                              rotate_left
                              · intro w'
                                go_simp
                                with_reducible rfl
                              rotate_left
                              · simp only [Act.put, List.setIfInBounds_toArray, List.set_cons_zero, List.set_cons_succ, i64_w, i32_w]
                                rfl
                              refine done_ (done_of HT_.out (by kernel_rfl)) ?_
                              try go_wp2
                              go_roundg k2
                              case measure => have := HJ2.out; have := HK2.out; omega
                              case rel => exact ⟨(x7_2 ++ ((((strOfNums y173) ++ ((rd_T78 l1 x32_2).f0)) ++ (strOfNums y178)) ++ ((rd_T78 l1 x32_2).f1))), (wrap64 (x32_2 + 1)), (by first | rfl | (simp; done) | (simp [*]; done)), (by first | rfl | (simp; done) | (simp [*]; done)), H', ⟨by have := HJ2.out; have := HK2.out; omega⟩, ⟨by repeat (first | (with_reducible first | exact HB.out | apply below_alloc | apply pw_below_drewN | apply below_drew1) | exact HB.out)⟩⟩
                            · rw [if_neg c19] at H
                              exact absurd H (by simp)
                          · rw [if_neg c18] at H
                            exact absurd H (by simp)
                        · rw [if_neg c17] at H
                          exact absurd H (by simp)
                      · rw [if_neg c16] at H
                        exact absurd H (by simp)
                    · rw [if_neg c15] at H
                      exact absurd H (by simp)
                  · rw [if_neg c14] at H
                    exact absurd H (by simp)
                · rw [if_neg c13] at H
                  have c13b0 : decide (x32_2 < (l1.length : Int)) = false := decide_eq_false c13
                  clear c13
                  replace H := Option.bind_eq_some_iff.mp H
                  obtain ⟨t182, A280, H⟩ := H
                  replace H : (if x7_2.size + t182.size ≤ 9223372036854775807 then (some (x7_2 ++ t182, 0)) else (none)) = some (r1, r2) := H
                  have A28 := Aside0.mk A280
                  clear A280
                  by_cases c29 : x7_2.size + t182.size ≤ 9223372036854775807
                  · rw [if_pos c29] at H
                    have c29b0 := eq_true c29
                    have c29b1 : decide (x7_2.size + t182.size ≤ 9223372036854775807) = true := decide_eq_true c29
                    try have c29b2 : (9223372036854775807 < x7_2.size + t182.size) = False := eq_false (Nat.not_lt.2 c29)
                    try (have c29b3 : (9223372036854775807 < x7_2.size + t182.size) = False := eq_false (Nat.not_lt.2 c29); simp only [ByteArray.size_append] at c29b3)
                    clear c29
                    simp only [Option.some.injEq, Prod.mk.injEq] at H
                    obtain ⟨rfl, rfl⟩ := H
                    go_wp2_with (first | ((with_reducible refine gate_callee (f := 43) rfl ?_); refine goesL_ (some 73) rfl rfl Try.func43 (by kernel_rfl) rfl #[.int .i64 (wrap64 (256 - (x7_2.size : Int)))] rfl (by (try simp only [List.map_toArray, List.map_cons, List.map_nil]); first | done | rfl | (simp only [List.length_drop, List.length_take]; rfl)) ?_; (with_reducible refine (aumbryref01_Zeros.calls (wrap64 (256 - (x7_2.size : Int))) t182 _ A28.out).mono ?_); rintro e w30 ⟨rfl, hb⟩; refine ⟨_, rfl, ?_⟩; have n0_ := Aside0.mk (below_step (by repeat (first | (with_reducible first | exact HB.out | apply below_alloc | apply pw_below_drewN | apply below_drew1) | exact HB.out)) hb); clear HB; have HB := n0_; clear n0_; (try clear hb); (try clear hb2); (try clear hk); (try clear hi)))
                    go_ret2
                    exact ⟨by first | rfl | (simp [errW_none, errW_some] <;> rfl) | (simp [*, errW_none, errW_some] <;> rfl), by repeat (first | (with_reducible first | exact HB.out | apply below_alloc | apply pw_below_drewN | apply below_drew1) | exact HB.out)⟩
                  · rw [if_neg c29] at H
                    exact absurd H (by simp)
        · rw [if_neg c7] at H
          have c7b0 : (t167 == 0) = false := beq_eq_false_iff_ne.mpr c7
          have c7b1 : (t167 != 0) = true := bne_iff_ne.mpr c7
          simp only [Option.some.injEq, Prod.mk.injEq] at H
          obtain ⟨rfl, rfl⟩ := H
          go_wp2_with (first | ((with_reducible refine gate_callee (f := 24) rfl ?_); refine goesL_ (some 16) rfl rfl Try.func24 (by kernel_rfl) rfl #[.slice A1 l1.length c1] rfl (by (try simp only [List.map_toArray, List.map_cons, List.map_nil]); first | done | rfl | (simp only [List.length_drop, List.length_take]; rfl)) ?_; (with_reducible refine (aumbryref13_Right.calls kj2 _ _ l1 t167 _ ?side1 ?side2 A6.out).mono ?_); (case side1 => repeat (first | exact (Kd.C_below HR1.out HB.out) | (with_reducible refine Kd.C_alloc ?_ _) | (with_reducible refine Kd.C_drewN ?_ _) | (with_reducible refine Kd.C_drew ?_))); (case side2 => exact HC1.out); rintro e w' ⟨rfl, ⟨nd, rfl⟩⟩; refine ⟨_, rfl, ?_⟩))
          go_ret2
          exact ⟨by first | rfl | (simp [errW_none, errW_some] <;> rfl) | (simp [*, errW_none, errW_some] <;> rfl), by repeat (first | (with_reducible first | exact HB.out | apply below_alloc | apply pw_below_drewN | apply below_drew1) | exact HB.out)⟩

end Go.Proofs.Ytdieanikopjbjaa.QLeafU
