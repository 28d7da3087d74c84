/- Written by a program of this session out of the translation: Lean functions with the same answers as the Go functions, and the walks that show it. -/
import Derived.Test.YtgageigcjeaenaaGQJourx0
import Derived.Test.YtgageigcjeaenaaGQJourx2
namespace Go.Proofs.Ytgageigcjeaenaa.QJour
open Go.RowKit Go.Proofs.YtgageigcjeaenaaW.PrintWords Go.Proofs.YtgageigcjeaenaaW.PrintLast Go.Proofs.YtgageigcjeaenaaW.PrintMore
attribute [local go_sem] max2_int min2_int max_two min_two max_three min_three max_four min_four
attribute [local go_sem high] StepStr.leq_str StepStr.gtr_str
set_option linter.unusedVariables false
set_option linter.unusedSimpArgs false

/-! ### num_fits: function 95 -/
def num_fits.f (a0 : Int) (a1 : Int) : Option (Bool) := if a1 ≥ 1 then (if a1 ≤ 8 then (if a1 = 8 then (some true) else (if 0 ≤ (wrap64 (8 * a1)) then (some ((shr .u64 a0 (wrap64 (8 * a1))) == 0)) else (none))) else (some false)) else (some false)
set_option maxHeartbeats 8000000 in
set_option maxRecDepth 100000 in
theorem num_fits.calls (a0 : Int) (a1 : Int) (r : Bool) (w : World) (h : num_fits.f a0 a1 = some r) :
    Calls Try.prog 95 #[.int .u64 a0, .int .i64 a1] w fun e w' => e = .returned (.bool r) ∧ Drawn0 w w' := by
  have H : (if a1 ≥ 1 then (if a1 ≤ 8 then (if a1 = 8 then (some true) else (if 0 ≤ (wrap64 (8 * a1)) then (some ((shr .u64 a0 (wrap64 (8 * a1))) == 0)) else (none))) else (some false)) else (some false)) = some r := h
  clear h
  by_cases c3 : a1 ≥ 1
  · rw [if_pos c3] at H
    have c3b0 : decide (1 ≤ a1) = true := decide_eq_true c3
    clear c3
    by_cases c4 : a1 ≤ 8
    · rw [if_pos c4] at H
      have c4b0 : decide (a1 ≤ 8) = true := decide_eq_true c4
      clear c4
      by_cases c5 : a1 = 8
      · rw [if_pos c5] at H
        have c5b0 : (a1 == 8) = true := beq_iff_eq.mpr c5
        have c5b1 : (a1 != 8) = false := bne_eq_false_iff_eq.mpr c5
        clear c5
        obtain rfl := Option.some.inj H
        go_enter Try.func95, Try.ntmps95
        go_wp2
        go_ret
        exact ⟨by first | rfl | (simp; done) | (simp [*]; done), by repeat (first | exact Drawn0.refl _ | apply Drawn0.step)⟩
      · rw [if_neg c5] at H
        have c5b0 : (a1 == 8) = false := beq_eq_false_iff_ne.mpr c5
        have c5b1 : (a1 != 8) = true := bne_iff_ne.mpr c5
        obtain ⟨ji6, hji6⟩ : ∃ j_ : Int, (wrap64 (8 * a1)) = j_ := ⟨_, rfl⟩
        replace H : (if 0 ≤ (ji6) then (some ((shr .u64 a0 (ji6)) == 0)) else (none)) = some r := by first | (rw [hji6] at H; exact H) | (simp only [hji6] at H ⊢; exact H)
        have hji6w : (IntKind.i64.wrap (8 * a1)) = ji6 := (i64_w _).trans hji6
        by_cases c7 : 0 ≤ (ji6)
        · rw [if_pos c7] at H
          have c7b0 := eq_true c7
          have c7b1 : decide (0 ≤ (ji6)) = true := decide_eq_true c7
          clear c7
          obtain ⟨ji8, hji8⟩ : ∃ j_ : Int, (shr .u64 a0 (ji6)) = j_ := ⟨_, rfl⟩
          replace H : (some ((ji8) == 0)) = some r := by first | (rw [hji8] at H; exact H) | (simp only [hji8] at H ⊢; exact H)
          have hji8_ : (a0 / 2 ^ min (ji6).toNat 64) = ji8 := hji8
          have hji8z : (ji6) ≤ 64 → (a0 / 2 ^ (ji6).toNat) = ji8 := shr_small hji8
          obtain rfl := Option.some.inj H
          go_enter Try.func95, Try.ntmps95
          go_wp2
          go_ret
          exact ⟨by first | rfl | (simp; done) | (simp only [← hji6, ← hji8] <;> (first | rfl | simp)) | (simp [*]; done), by repeat (first | exact Drawn0.refl _ | apply Drawn0.step)⟩
        · rw [if_neg c7] at H
          exact absurd H (by simp)
    · rw [if_neg c4] at H
      have c4b0 : decide (a1 ≤ 8) = false := decide_eq_false c4
      clear c4
      obtain rfl := Option.some.inj H
      go_enter Try.func95, Try.ntmps95
      go_wp2
      go_ret
      exact ⟨by first | rfl | (simp; done) | (simp [*]; done), by repeat (first | exact Drawn0.refl _ | apply Drawn0.step)⟩
  · rw [if_neg c3] at H
    have c3b0 : decide (1 ≤ a1) = false := decide_eq_false c3
    clear c3
    obtain rfl := Option.some.inj H
    go_enter Try.func95, Try.ntmps95
    go_wp2
    go_ret
    exact ⟨by first | rfl | (simp; done) | (simp [*]; done), by repeat (first | exact Drawn0.refl _ | apply Drawn0.step)⟩

/-! ### num_Put: function 84 -/
def num_Put.l0 : Nat → Int → Int → List Int → Int → Int → Option (ByteArray × Int)
  | 0, _, _, _, _, _ => none
  | k + 1, x0, x1, x6, x14, x15 => if x15 < x14 then (if 0 ≤ (wrap64 (8 * x15)) then (if 0 ≤ (wrap64 ((wrap64 (x1 - 1)) - x15)) then (if (wrap64 ((wrap64 (x1 - 1)) - x15)) < (x6.length : Int) then (num_Put.l0 k x0 x1 (x6.set ((wrap64 ((wrap64 (x1 - 1)) - x15)) : Int).toNat ((shr .u64 x0 (wrap64 (8 * x15))) % 256)) x14 (wrap64 (x15 + 1))) else (none)) else (none)) else (none)) else (some (strOfNums x6, 0))
def num_Put.f (k : Nat) (a0 : Int) (a1 : Int) : Option (ByteArray × Int) := (num_fits.f a0 a1).bind fun t117 => (if t117 = true then (if 0 ≤ a1 then (if (a1 : Int).toNat ≤ 281474976710656 then (num_Put.l0 k a0 a1 (List.replicate (a1 : Int).toNat 0) a1 0) else (none)) else (none)) else (some ((⟨#[]⟩ : ByteArray), 1)))
theorem num_Put.mono_l : ∀ k, (∀ y0 y1 y2 y3 y4, LeO (num_Put.l0 k y0 y1 y2 y3 y4) (num_Put.l0 (k + 1) y0 y1 y2 y3 y4))
  | 0 => fun _ _ _ _ _ r h => by simp [num_Put.l0] at h
  | k + 1 => by
    have ih0 := num_Put.mono_l k
    · intro y0 y1 y2 y3 y4
      unfold num_Put.l0
      repeat' first
      | (with_reducible exact ih0 _ _ _ _ _)
      | (with_reducible exact LeO.refl _)
      | (with_reducible exact LeO.none _)
      | (with_reducible refine LeO.ite ?_ ?_)
      | (with_reducible refine LeO.bind ?_ (fun _ => ?_))
      | exact ih0 _ _ _ _ _
      | exact LeO.none _
      | refine LeO.ite ?_ ?_
      | refine LeO.bind ?_ (fun _ => ?_)
theorem num_Put.mono : ∀ a0 a1 k, LeO (num_Put.f k a0 a1) (num_Put.f (k + 1) a0 a1) := by
  intro a0 a1 k
  have ih0 := num_Put.mono_l k
  unfold num_Put.f
  repeat' first
      | (with_reducible exact ih0 _ _ _ _ _)
      | (with_reducible exact LeO.refl _)
      | (with_reducible exact LeO.none _)
      | (with_reducible refine LeO.ite ?_ ?_)
      | (with_reducible refine LeO.bind ?_ (fun _ => ?_))
      | exact ih0 _ _ _ _ _
      | exact LeO.none _
      | refine LeO.ite ?_ ?_
      | refine LeO.bind ?_ (fun _ => ?_)
set_option maxHeartbeats 8000000 in
set_option maxRecDepth 100000 in
theorem num_Put.calls (k : Nat) (a0 : Int) (a1 : Int) (r1 : ByteArray) (r2 : Int) (w : World) (h : num_Put.f k a0 a1 = some (r1, r2)) :
    Calls Try.prog 84 #[.int .u64 a0, .int .i64 a1] w fun e w' => e = .returned (.tuple #[.string r1, .int .i64 r2]) ∧ Below w.heap.size w w' := by
  have HB := Aside0.mk (Below.refl w.heap.size w)
  have H : ((num_fits.f a0 a1).bind fun t117 => (if t117 = true then (if 0 ≤ a1 then (if (a1 : Int).toNat ≤ 281474976710656 then (num_Put.l0 k a0 a1 (List.replicate (a1 : Int).toNat 0) a1 0) else (none)) else (none)) else (some ((⟨#[]⟩ : ByteArray), 1)))) = some (r1, r2) := h
  clear h
  replace H := Option.bind_eq_some_iff.mp H
  obtain ⟨t117, A30, H⟩ := H
  replace H : (if t117 = true then (if 0 ≤ a1 then (if (a1 : Int).toNat ≤ 281474976710656 then (num_Put.l0 k a0 a1 (List.replicate (a1 : Int).toNat 0) a1 0) else (none)) else (none)) else (some ((⟨#[]⟩ : ByteArray), 1))) = some (r1, r2) := H
  have A3 := Aside0.mk A30
  clear A30
  by_cases c4 : t117 = true
  · subst c4
    have H1 : (if 0 ≤ a1 then (if (a1 : Int).toNat ≤ 281474976710656 then (num_Put.l0 k a0 a1 (List.replicate (a1 : Int).toNat 0) a1 0) else (none)) else (none)) = some (r1, r2) := by rw [if_pos rfl] at H; exact H
    clear H
    have H := H1
    clear H1
    by_cases c5 : 0 ≤ a1
    · rw [if_pos c5] at H
      have c5b0 := eq_true c5
      have c5b1 : decide (0 ≤ a1) = true := decide_eq_true c5
      clear c5
      by_cases c6 : (a1 : Int).toNat ≤ 281474976710656
      · rw [if_pos c6] at H
        have c6b0 := eq_true c6
        have c6b1 : decide ((a1 : Int).toNat ≤ 281474976710656) = true := decide_eq_true c6
        clear c6
        obtain ⟨y118, hy118⟩ : ∃ y_ : List Int, y_ = (List.replicate (a1 : Int).toNat 0) := ⟨_, rfl⟩
        replace H : (num_Put.l0 k a0 a1 y118 a1 0) = some (r1, r2) := by first | (rw [hy118]; with_reducible exact H) | (have H2_ := (Option.bind_some _ _).symm.trans H; rw [hy118]; with_reducible exact H2_) | (have H2_ := (Option.bind_some _ _).symm.trans H; with_reducible exact H2_) | with_reducible exact H | (rw [hy118]; exact H) | exact H
        have Ny118 := Aside0.mk hy118
        clear hy118
        have H' := Aside0.mk H
        clear H
        go_enter Try.func84, Try.ntmps84
        go_wp2_with (first | ((with_reducible refine gate_callee (f := 95) rfl ?_); refine goesL_ (some 10) rfl rfl Try.func95 (by kernel_rfl) rfl #[.int .u64 a0, .int .i64 a1] rfl (by (try simp only [List.map_toArray, List.map_cons, List.map_nil]); first | done | rfl | (simp only [List.length_drop, List.length_take]; rfl)) ?_; (with_reducible refine (num_fits.calls a0 a1 true _ A3.out).mono ?_); rintro e w' ⟨rfl, ⟨nd, rfl⟩⟩; refine ⟨_, rfl, ?_⟩) | ((with_reducible refine gate_dst (N := 13) rfl ?_); refine Kd.R_make (Kd.int .u8) _ 5 rfl (N := 13) rfl 97 _ _ rfl a1 rfl rfl Try.underlying97 (.int .u8 0) 1 info5 rfl (by decide) (by omega) 0 (ok := fun _ => True) (okp := fun _ => True) rfl (fun _ hk => hk) trivial (of_decide_eq_true (by first | (with_reducible assumption) | assumption)) (Nat.le_trans (Nat.mul_le_mul_right _ (of_decide_eq_true (by first | (with_reducible assumption) | assumption) : a1.toNat ≤ 281474976710656)) (by omega)) (Below.refl _ _) (Nat.le_refl _) ?_; intro v119 w7 ho8 hb hg_ hnew_; clear hg_ hnew_; (first | rw [← Ny118.out] at ho8 | (simp only [Int.reduceToNat] at ho8; rw [← Ny118.out] at ho8)); have n0_ := Aside0.mk (Kd.R_lower ho8 (below_size (by repeat (first | (with_reducible first | exact HB.out | apply below_alloc | apply pw_below_drewN | apply below_drew1) | exact HB.out)))); have n1_ := Aside0.mk (below_step (by repeat (first | (with_reducible first | exact HB.out | apply below_alloc | apply pw_below_drewN | apply below_drew1) | exact HB.out)) hb); clear HB; have HO120 := n0_; have HB := n1_; clear n0_ n1_; clear hb ho8))
        go_loopg [15] k (fun kq v15 w' => ∃ (x6_1 : List Int) (x15_1 : Int), v15 = .int .i64 x15_1 ∧ Aside0 (num_Put.l0 kq a0 a1 x6_1 a1 x15_1 = some (r1, r2)) ∧ Aside0 (kq ≤ k) ∧ Aside0 (Kd.R (Kd.int .u8) 5 w' w.heap.size (fun _ => True) v119 x6_1) ∧ Aside0 (Below w.heap.size w w'))
        case atStart => exact ⟨(y118), (0), (by first | rfl | (simp; done) | (simp [*]; done)), H', ⟨Nat.le_refl _⟩, ⟨by (with_reducible repeat (first | apply Kd.R_alloc | apply Kd.R_drewN | apply Kd.R_drew)); exact HO120.out⟩, ⟨by repeat (first | (with_reducible first | exact HB.out | apply below_alloc | apply pw_below_drewN | apply below_drew1) | exact HB.out)⟩⟩
        case round =>
          clear H'
          try clear p2
          try clear c4
          try clear c5
          try clear c5b0
          try clear c5b1
          try clear c6
          try clear c6b0
          try clear c6b1
          try clear c8
          obtain ⟨x6_1, x15_1, rfl, HA, HK1, HO_6, HB⟩ := hrel
          cases gk with
          | zero => exact absurd HA.out (by simp [num_Put.l0])
          | succ k1 =>
            have H := HA.out
            clear HA
            simp only [num_Put.l0] at H
            by_cases c9 : x15_1 < a1
            · rw [if_pos c9] at H
              have c9b0 : decide (x15_1 < a1) = true := decide_eq_true c9
              clear c9
              obtain ⟨ji10, hji10⟩ : ∃ j_ : Int, (wrap64 (8 * x15_1)) = j_ := ⟨_, rfl⟩
              replace H : (if 0 ≤ (ji10) then (if 0 ≤ (wrap64 ((wrap64 (a1 - 1)) - x15_1)) then (if (wrap64 ((wrap64 (a1 - 1)) - x15_1)) < (x6_1.length : Int) then (num_Put.l0 k1 a0 a1 (x6_1.set ((wrap64 ((wrap64 (a1 - 1)) - x15_1)) : Int).toNat ((shr .u64 a0 (ji10)) % 256)) a1 (wrap64 (x15_1 + 1))) else (none)) else (none)) else (none)) = some (r1, r2) := by first | (rw [hji10] at H; exact H) | (simp only [hji10] at H ⊢; exact H)
              have hji10w : (IntKind.i64.wrap (8 * x15_1)) = ji10 := (i64_w _).trans hji10
              by_cases c11 : 0 ≤ (ji10)
              · rw [if_pos c11] at H
                have c11b0 := eq_true c11
                have c11b1 : decide (0 ≤ (ji10)) = true := decide_eq_true c11
                clear c11
                obtain ⟨ji12, hji12⟩ : ∃ j_ : Int, (shr .u64 a0 (ji10)) = j_ := ⟨_, rfl⟩
                replace H : (if 0 ≤ (wrap64 ((wrap64 (a1 - 1)) - x15_1)) then (if (wrap64 ((wrap64 (a1 - 1)) - x15_1)) < (x6_1.length : Int) then (num_Put.l0 k1 a0 a1 (x6_1.set ((wrap64 ((wrap64 (a1 - 1)) - x15_1)) : Int).toNat ((ji12) % 256)) a1 (wrap64 (x15_1 + 1))) else (none)) else (none)) = some (r1, r2) := by first | (rw [hji12] at H; exact H) | (simp only [hji12] at H ⊢; exact H)
                have hji12_ : (a0 / 2 ^ min (ji10).toNat 64) = ji12 := hji12
                have hji12z : (ji10) ≤ 64 → (a0 / 2 ^ (ji10).toNat) = ji12 := shr_small hji12
                obtain ⟨ji13, hji13⟩ : ∃ j_ : Int, (wrap64 ((wrap64 (a1 - 1)) - x15_1)) = j_ := ⟨_, rfl⟩
                replace H : (if 0 ≤ (ji13) then (if (ji13) < (x6_1.length : Int) then (num_Put.l0 k1 a0 a1 (x6_1.set ((ji13) : Int).toNat ((ji12) % 256)) a1 (wrap64 (x15_1 + 1))) else (none)) else (none)) = some (r1, r2) := by first | (rw [hji13] at H; exact H) | (simp only [hji13] at H ⊢; exact H)
                have hji13w : (IntKind.i64.wrap ((wrap64 (a1 - 1)) - x15_1)) = ji13 := (i64_w _).trans hji13
                by_cases c14 : 0 ≤ (ji13)
                · rw [if_pos c14] at H
                  have c14b0 : decide (0 ≤ (ji13)) = true := decide_eq_true c14
                  clear c14
                  by_cases c15 : (ji13) < (x6_1.length : Int)
                  · rw [if_pos c15] at H
                    have c15b0 : decide ((ji13) < (x6_1.length : Int)) = true := decide_eq_true c15
                    clear c15
                    obtain ⟨y121, hy121⟩ : ∃ y_ : List Int, y_ = (x6_1.set ((ji13) : Int).toNat ((ji12) % 256)) := ⟨_, rfl⟩
                    replace H : (num_Put.l0 k1 a0 a1 y121 a1 (wrap64 (x15_1 + 1))) = some (r1, r2) := by first | (rw [hy121]; with_reducible exact H) | (have H2_ := (Option.bind_some _ _).symm.trans H; rw [hy121]; with_reducible exact H2_) | (have H2_ := (Option.bind_some _ _).symm.trans H; with_reducible exact H2_) | with_reducible exact H | (rw [hy121]; exact H) | exact H
                    have Ny121 := Aside0.mk hy121
                    clear hy121
                    have H' := Aside0.mk H
                    clear H
                    have p16 : 0 ≤ ((ji13) : Int) := of_decide_eq_true (by first | (with_reducible assumption) | assumption)
                    have q16 : ((ji13) : Int) < ((x6_1.length : Int) : Int) := of_decide_eq_true (by first | (with_reducible assumption) | assumption)
                    obtain ⟨go16, co16, eo16, gb16, gl16, cl16, HG16⟩ := Kd.R_form HO_6.out (by omega)
                    (first | cases eo16 | (injection eo16 with ea_ en_ ec_; (first | subst ea_ | (injection ea_ with ea_; subst ea_)); subst ec_; clear en_))
                    have GB16 := Aside0.mk gb16
                    have GG16 := Aside0.mk HG16
                    clear gb16 gl16 HG16
                    obtain ⟨hx16_0, hf16_0⟩ := Kd.R_celln 0 HO_6.out ((ji13) : Int) p16 q16
                    replace p16 := eq_true p16
                    replace q16 := eq_true q16
                    have HP17 := Kd.R_putg HO_6.out ((ji13) : Int) ((ji12) % 256)
                    go_wp2_with (first | ((with_reducible refine gate_store (t := 5) (p := 28) rfl ?_); refine store_event (t := 5) (p := 28) (v := ?vo_w18) (w1 := (wr.setCell ⟨go16, ((ji13) : Int).toNat, none⟩ (.int .u8 ((ji12) % 256)))) ?hg ?ho ?hn ?hr ?_; (case ho => rfl); (case hg => rfl); (case hn => rfl); (case hr => first | (go_simp; done) | (go_simp; rfl)); intro w18 hw; have hg : wr.grownBy w18 (some go16) := (by rw [hw]; exact HP17.2); have hp_ : Kd.R (Kd.int .u8) 5 w18 w.heap.size (fun _ => True) (.slice (some ⟨go16, 0, none⟩) x6_1.length co16) y121 := (by rw [hw, Ny121.out]; exact HP17.1); clear HP17; have n0_ := Aside0.mk (hp_); have n1_ := Aside0.mk ((by rw [hw]; exact below_set (HB.out) GB16.out : Below w.heap.size w w18)); clear HO_6; clear HB; have HO_6 := n0_; have HB := n1_; clear n0_ n1_; clear hg hw hp_))
                    go_roundg k1
                    case measure => have := HK1.out; omega
                    case rel => exact ⟨(y121), (wrap64 (x15_1 + 1)), (by first | rfl | (simp; done) | (simp [*]; done)), H', ⟨by have := HK1.out; omega⟩, ⟨by (with_reducible repeat (first | apply Kd.R_alloc | apply Kd.R_drewN | apply Kd.R_drew)); exact HO_6.out⟩, ⟨by repeat (first | (with_reducible first | exact HB.out | apply below_alloc | apply pw_below_drewN | apply below_drew1) | exact HB.out)⟩⟩
                  · rw [if_neg c15] at H
                    exact absurd H (by simp)
                · rw [if_neg c14] at H
                  exact absurd H (by simp)
              · rw [if_neg c11] at H
                exact absurd H (by simp)
            · rw [if_neg c9] at H
              have c9b0 : decide (x15_1 < a1) = false := decide_eq_false c9
              clear c9
              simp only [Option.some.injEq, Prod.mk.injEq] at H
              obtain ⟨rfl, rfl⟩ := H
              have hcv19 := own_string (P := Try.prog) Try.underlying97 Try.underlying5 Try.underlying9 (Kd.own_of_R HO_6.out)
              go_wp2
              go_ret2
              exact ⟨by first | rfl | (simp [errW_none, errW_some] <;> rfl) | (simp [*, errW_none, errW_some] <;> rfl), by repeat (first | (with_reducible first | exact HB.out | apply below_alloc | apply pw_below_drewN | apply below_drew1) | exact HB.out)⟩
      · rw [if_neg c6] at H
        exact absurd H (by simp)
    · rw [if_neg c5] at H
      exact absurd H (by simp)
  · replace c4 := Bool.eq_false_iff.mpr c4
    subst c4
    have H1 : (some ((⟨#[]⟩ : ByteArray), 1)) = some (r1, r2) := by rw [if_neg (show ¬ (false = true) by decide)] at H; exact H
    clear H
    have H := H1
    clear H1
    simp only [Option.some.injEq, Prod.mk.injEq] at H
    obtain ⟨rfl, rfl⟩ := H
    go_enter Try.func84, Try.ntmps84
    go_wp2_with (first | ((with_reducible refine gate_callee (f := 95) rfl ?_); refine goesL_ (some 10) rfl rfl Try.func95 (by kernel_rfl) rfl #[.int .u64 a0, .int .i64 a1] rfl (by (try simp only [List.map_toArray, List.map_cons, List.map_nil]); first | done | rfl | (simp only [List.length_drop, List.length_take]; rfl)) ?_; (with_reducible refine (num_fits.calls a0 a1 false _ A3.out).mono ?_); rintro e w' ⟨rfl, ⟨nd, rfl⟩⟩; refine ⟨_, rfl, ?_⟩))
    go_ret2
    exact ⟨by first | rfl | (simp [errW_none, errW_some] <;> rfl) | (simp [*, errW_none, errW_some] <;> rfl), by repeat (first | (with_reducible first | exact HB.out | apply below_alloc | apply pw_below_drewN | apply below_drew1) | exact HB.out)⟩

/-! ### journal_list: function 67 -/
def jl_add (acc : List ByteArray) (t : ByteArray) : List ByteArray := acc.set (acc.length - 1) (acc.getD (acc.length - 1) ⟨#[]⟩ ++ t)
def jl_pre (acc : List ByteArray) (i : Nat) : List ByteArray := if i % 128 = 0 then acc ++ [(⟨#[]⟩ : ByteArray)] else acc
def jl_l0 (k : Nat) : List S62 → Nat → List ByteArray → Option (List ByteArray)
  | [], _, acc => some acc
  | p :: l, i, acc => (num_Put.f k (IntKind.u64.wrap p.f0) 2).bind fun t => (if ((jl_pre acc i).getD ((jl_pre acc i).length - 1) ⟨#[]⟩).size + t.1.size ≤ 1000000 then jl_l0 k l (i + 1) (jl_add (jl_pre acc i) t.1) else none)
def jl_l1 (k : Nat) : List ByteArray → Option (List ByteArray)
  | [] => some []
  | s :: l => (journal_filled.f k s).bind fun t => (jl_l1 k l).bind fun r => some (t :: r)
def journal_list.f (k : Nat) (l0 : List S62) : Option (List ByteArray) := if l0.length ≤ 4096 then (jl_l0 k l0 0 []).bind (jl_l1 k) else none
theorem jl_l0_mono (k : Nat) : ∀ (l : List S62) (i : Nat) (acc : List ByteArray), LeO (jl_l0 k l i acc) (jl_l0 (k + 1) l i acc)
  | [], _, _ => LeO.refl _
  | p :: l, i, acc => LeO.bind (num_Put.mono _ _ _) (fun t => LeO.ite (jl_l0_mono k l _ _) (LeO.refl _))
theorem jl_l1_mono (k : Nat) : ∀ (l : List ByteArray), LeO (jl_l1 k l) (jl_l1 (k + 1) l)
  | [] => LeO.refl _
  | s :: l => LeO.bind (journal_filled.mono _ _) (fun t => LeO.bind (jl_l1_mono k l) (fun r => LeO.refl _))
theorem journal_list.mono (l0 : List S62) (k : Nat) : LeO (journal_list.f k l0) (journal_list.f (k + 1) l0) := LeO.ite (LeO.bind (jl_l0_mono k _ _ _) (fun r => jl_l1_mono k r)) (LeO.refl _)
theorem jl_strs_set (l : List ByteArray) (i : Nat) (s : ByteArray) : Disk.strs (l.set i s) = (Disk.strs l).set i (.string s) := by simp [Disk.strs, List.map_set]
theorem jl_l1_length {k : Nat} : ∀ {l r : List ByteArray}, jl_l1 k l = some r → r.length = l.length
  | [], r, h => by cases h; rfl
  | s :: l, r, h => by
    simp only [jl_l1] at h
    obtain ⟨t, _, h⟩ := Option.bind_eq_some_iff.mp h
    obtain ⟨q, hq, h⟩ := Option.bind_eq_some_iff.mp h
    cases h
    rw [List.length_cons, List.length_cons, jl_l1_length hq]
theorem jl_add_eq {acc : List ByteArray} {m : Nat} (h : acc.length = m + 1) {x : ByteArray} (hx : acc.getD m ⟨#[]⟩ = x) (t : ByteArray) : jl_add acc t = acc.set m (x ++ t) := by
  unfold jl_add
  rw [h, show m + 1 - 1 = m by omega, hx]
theorem jl_own {w : World} {base bb c m : Nat} {acc : List ByteArray} (h : acc.length = m + 1) (HO : w.ownsRow base 9 1 (.slice (some ⟨bb, 0, none⟩) (m + 1) c) (m + 1) (Disk.strs acc)) (y : ByteArray) :
    (w.setCell ⟨bb, m, none⟩ (.string y)).ownsRow base 9 1 (.slice (some ⟨bb, 0, none⟩) (m + 1) c) (acc.set m y).length (Disk.strs (acc.set m y)) := by
  rw [List.length_set, h, jl_strs_set]
  exact (World.ownsRow.stored HO m (.string y)).1
set_option maxRecDepth 100000 in
set_option maxHeartbeats 4000000 in
theorem journal_list.calls (k : Nat) (A0 : Option Addr) (c0 : Nat) (l0 : List (S62)) (r : List ByteArray) (w : World) (hr0 : Kd.C k62 w A0 l0.length l0) (hc0 : l0.length ≤ c0) (h : journal_list.f k l0 = some r) :
    Calls Try.prog 67 #[.slice A0 l0.length c0] w fun e w' => ∃ v0_ : Value, e = .returned (v0_) ∧ Kd.R Kd.string 9 w' w.heap.size (fun _ => True) v0_ r ∧ Below w.heap.size w w' := by
  have hu62 := Try.underlying62
  have HR := Aside0.mk hr0
  have HC := Aside0.mk hc0
  unfold journal_list.f at h
  by_cases h4 : l0.length ≤ 4096
  case neg => rw [if_neg h4] at h; cases h
  rw [if_pos h4] at h
  obtain ⟨mid, hl0, hl1⟩ := Option.bind_eq_some_iff.mp h
  have H0 := Aside0.mk hl0
  have H1 := Aside0.mk hl1
  have H4 := Aside0.mk h4
  have HB := Aside0.mk (Below.refl w.heap.size w)
  clear h hr0 hc0 hl0 hl1 h4
  go_enter Try.func67, Try.ntmps67
  go_wp2
  go_loopg [12, 3] l0.length (fun kq v12 v3 wr => ∃ (i : Nat) (acc : List ByteArray), v12 = .int .i64 (i : Int) ∧ i ≤ l0.length ∧ Aside0 (kq = l0.length - i) ∧ Aside0 (jl_l0 k (l0.drop i) i acc = some mid) ∧ Aside0 (acc.length ≤ i) ∧ Aside0 (0 < i → 0 < acc.length) ∧ Aside0 (wr.ownsRow w.heap.size 9 1 v3 acc.length (Disk.strs acc)) ∧ Aside0 (Below w.heap.size w wr))
  case atStart => exact ⟨0, [], rfl, Nat.zero_le _, ⟨rfl⟩, ⟨H0.out⟩, ⟨Nat.zero_le _⟩, ⟨fun h => absurd h (by omega)⟩, ⟨Disk.own_none _ _ _⟩, HB⟩
  case round =>
    clear H0 HB
    obtain ⟨i, acc, rfl, hi, hkq, HF, HA, HP, HO, HB⟩ := hrel
    by_cases hil : i < l0.length
    · have hd : l0.drop i = rd_T62 l0 (i : Int) :: l0.drop (i + 1) := by
        rw [List.drop_eq_getElem_cons hil]
        congr 1
        simp [rd_T62, hil]
      have HH := HF.out
      rw [hd] at HH
      simp only [jl_l0] at HH
      obtain ⟨t, hput, HH⟩ := Option.bind_eq_some_iff.mp HH
      by_cases hsz : ((jl_pre acc i).getD ((jl_pre acc i).length - 1) ⟨#[]⟩).size + t.1.size ≤ 1000000
      case neg => rw [if_neg hsz] at HH; cases HH
      rw [if_pos hsz] at HH
      have HNext := Aside0.mk HH
      have HPut := Aside0.mk hput
      have HSz := Aside0.mk hsz
      clear HH HF hput hsz hd
      obtain ⟨ad, rfl, g0, g1⟩ := at_T62 HR.out (i : Int) (by omega) (by omega)
      rw [show ((i : Int)).toNat = i by omega] at g0 g1
      replace g0 := (HB.out.cell (World.block_lt_of_cell? w _ g0)).trans g0
      replace g1 := (HB.out.cell (World.block_lt_of_cell? w _ g1)).trans g1
      have hi0 : 0 ≤ (i : Int) := by omega
      have hiz : (i : Int) < (l0.length : Int) := by omega
      have hic : (i : Int) ≤ (c0 : Int) := by have := HC.out; omega
      generalize rd_T62 l0 (i : Int) = p at g0 g1 HPut
      have HU := fun W : World => num_Put.calls k (IntKind.u64.wrap p.f0) 2 t.1 t.2 W HPut.out
      have HPutC := Aside0.mk HU
      clear HU HPut
      by_cases hm : i % 128 = 0
      · have hrem : ((i : Int) % 128 == 0) = true := beq_iff_eq.2 (by omega)
        have hpre : jl_pre acc i = acc ++ [(⟨#[]⟩ : ByteArray)] := if_pos hm
        rw [hpre] at HNext HSz
        obtain ⟨A7, c7, hv3, _⟩ := Disk.own_slice HO.out
        subst hv3
        clear hm hpre
        go_upto_region 7 with (first
          | ((with_reducible refine gate_builtin (b := .append) (xs := #[.tmp 20, .tmp 21]) rfl ?_); at_builtin; refine print_append_cells (w0 := w) w.heap.size rfl (.tmp 20) (.tmp 21) 37 9 (.string ⟨#[]⟩) 1 16 rfl Try.underlying37 Disk.info9 rfl (by decide) (by decide) (.slice A7 acc.length c7) acc.length (Disk.strs acc) [.string ⟨#[]⟩] rfl (by first | rfl | (simp; done) | (show Value.slice (some ⟨wr.heap.size + 1, 0, none⟩) 1 1 = _; rw [World.size_alloc])) rfl (by intro u hu; simp at hu; subst hu; rfl) (own_alloc HO.out _) (below_alloc HB.out _) (below_size (below_alloc HB.out _)) (by have := HA.out; have := H4.out; omega) ?_; intro v1 w3 ho hb hg _))
        clear hrem
        have BX4 := Aside0.mk (show w3.heap[wr.heap.size]? = some (.cells #[.int .i64 p.f0, .string p.f1] 62 (0, 0)) from (hg.block wr.heap.size (by rw [World.size_alloc]; omega) (fun e => by have := own_lt HO.out wr.heap.size e.symm; omega)).trans (blk_new _ _))
        have HO4 := Aside0.mk (show w3.ownsRow w.heap.size 9 1 v1 (acc.length + 1) (Disk.strs (acc ++ [(⟨#[]⟩ : ByteArray)])) from by rw [show Disk.strs (acc ++ [(⟨#[]⟩ : ByteArray)]) = Disk.strs acc ++ [.string ⟨#[]⟩] by simp [Disk.strs]]; exact ho)
        have HB4 := Aside0.mk hb
        clear ho hb hg HO HB
        obtain ⟨bb, c4, cur, hv4, hbb, hh4, hc4, hat4⟩ := Disk.own_form HO4.out (Nat.succ_pos _)
        subst hv4
        have q := (blk_cell hh4 acc.length).trans ((hat4 acc.length (by omega)).trans (Disk.strs_at (acc ++ [(⟨#[]⟩ : ByteArray)]) acc.length (by simp)))
        have fq := blk_frozen hh4 acc.length
        have hlen : (acc ++ [(⟨#[]⟩ : ByteArray)]).length - 1 = acc.length := by simp
        have HSz' := Aside0.mk HSz.out
        rw [hlen] at HSz
        have HBb := Aside0.mk hbb
        have HM : acc.length + 1 ≤ 4097 := by have := HA.out; have := H4.out; first | omega | (simp at this; omega)
        obtain ⟨x, hx⟩ : ∃ x, (acc ++ [(⟨#[]⟩ : ByteArray)]).getD acc.length ⟨#[]⟩ = x := ⟨_, rfl⟩
        rw [hx] at q HSz
        have HX := Aside0.mk hx
        have hs1 : (9223372036854775807 < x.size + t.1.size) = False := eq_false (by have := HSz.out; omega)
        have hs2 : ¬ 9223372036854775807 < x.size + t.1.size := by have := HSz.out; omega
        have y0 := (blk_cell BX4.out 0).trans rfl
        have y1 := (blk_cell BX4.out 1).trans rfl
        clear hh4 hat4 hbb hx hlen
        go_wp2_with (go_at_call 84; refine (HPutC.out _).mono ?_; rintro e w5 ⟨rfl, hb5⟩; have HO5 := Aside0.mk (own_move HO4.out (fun k hk => hb5.block k (own_lt HO4.out k hk))); have HB5 := Aside0.mk (below_step HB4.out hb5); have q5 := (hb5.cell (World.block_lt_of_cell? _ _ q)).trans q; have fq5 := (hb5.frozen (World.block_lt_of_cell? _ _ q)).trans fq; clear hb5)
        have hst := jl_own (by simp) HO5.out (x ++ t.1)
        have hje := jl_add_eq (acc := acc ++ [(⟨#[]⟩ : ByteArray)]) (m := acc.length) (by simp) HX.out t.1
        go_roundg (l0.length - (i + 1))
        case measure => have := hkq.out; omega
        case rel =>
          refine ⟨i + 1, jl_add (acc ++ [(⟨#[]⟩ : ByteArray)]) t.1, by have := H4.out; first | rfl | (rw [MixBase.wrap64_small (by omega) (by omega)]; rfl), by omega, ⟨rfl⟩, HNext, ⟨?_⟩, ⟨fun _ => ?_⟩, ⟨?_⟩, ⟨HB5.out.setCell (p := ⟨_, _, none⟩) HBb.out _⟩⟩
          · rw [hje, List.length_set, List.length_append, List.length_singleton]; have := HA.out; omega
          · rw [hje, List.length_set, List.length_append, List.length_singleton]; omega
          · rw [hje]; exact hst
      · have hrem : ((i : Int) % 128 == 0) = false := beq_eq_false_iff_ne.2 (by omega)
        have hpre : jl_pre acc i = acc := if_neg hm
        rw [hpre] at HNext HSz
        have hi1 : 0 < i := by omega
        obtain ⟨m, hmm⟩ : ∃ m, acc.length = m + 1 := ⟨acc.length - 1, by have := HP.out hi1; omega⟩
        have HMM := Aside0.mk hmm
        have HO4 := HO.out
        rw [hmm] at HO4
        obtain ⟨bb, c4, cur, hv4, hbb, hh4, hc4, hat4⟩ := Disk.own_form HO4 (Nat.succ_pos _)
        subst hv4
        replace HO4 := Aside0.mk HO4
        have q := (blk_cell (blk_alloc hh4 (.cells #[.int .i64 p.f0, .string p.f1] 62)) m).trans ((hat4 m (by omega)).trans (Disk.strs_at acc m (by omega)))
        have fq := blk_frozen (blk_alloc hh4 (.cells #[.int .i64 p.f0, .string p.f1] 62)) m
        rw [hmm, show m + 1 - 1 = m by omega] at HSz
        have HBb := Aside0.mk hbb
        have HM : m + 1 ≤ 4097 := by have := HA.out; have := H4.out; omega
        obtain ⟨x, hx⟩ : ∃ x, acc.getD m ⟨#[]⟩ = x := ⟨_, rfl⟩
        rw [hx] at q HSz
        have HX := Aside0.mk hx
        have hs1 : (9223372036854775807 < x.size + t.1.size) = False := eq_false (by have := HSz.out; omega)
        have hs2 : ¬ 9223372036854775807 < x.size + t.1.size := by have := HSz.out; omega
        clear hh4 hat4 hbb hx hm hpre hmm
        go_wp2_with (go_at_call 84; refine (HPutC.out _).mono ?_; rintro e w5 ⟨rfl, hb5⟩; have HO5 := Aside0.mk (own_move (own_alloc HO4.out (.cells #[.int .i64 p.f0, .string p.f1] 62)) (fun k hk => hb5.block k (own_lt (own_alloc HO4.out _) k hk))); have HB5 := Aside0.mk (below_step (below_alloc HB.out _) hb5); have q5 := (hb5.cell (World.block_lt_of_cell? _ _ q)).trans q; have fq5 := (hb5.frozen (World.block_lt_of_cell? _ _ q)).trans fq; clear hb5)
        have hst := jl_own HMM.out HO5.out (x ++ t.1)
        have hje := jl_add_eq HMM.out HX.out t.1
        go_roundg (l0.length - (i + 1))
        case measure => have := hkq.out; omega
        case rel =>
          refine ⟨i + 1, jl_add acc t.1, by have := H4.out; first | rfl | (rw [MixBase.wrap64_small (by omega) (by omega)]; rfl), by omega, ⟨rfl⟩, HNext, ⟨?_⟩, ⟨fun _ => ?_⟩, ⟨?_⟩, ⟨HB5.out.setCell (p := ⟨_, _, none⟩) HBb.out _⟩⟩
          · rw [hje, List.length_set]; have := HA.out; omega
          · rw [hje, List.length_set]; have := HMM.out; omega
          · rw [hje]; exact hst
    · obtain rfl : i = l0.length := by omega
      have hmid : acc = mid := by
        have := HF.out
        rw [List.drop_length] at this
        exact Option.some.inj this
      subst hmid
      clear hil hi HF
      have HAc : acc.length ≤ 4096 := by have := HA.out; have := H4.out; omega
      obtain ⟨A7, c7, hv3, _⟩ := Disk.own_slice HO.out
      subst hv3
      clear HP HA
      go_wp2
      go_loopg [42] acc.length (fun kq v42 wr2 => ∃ (j : Nat) (done rest rr : List ByteArray), v42 = .int .i64 (j : Int) ∧ j ≤ acc.length ∧ Aside0 (kq = acc.length - j) ∧ Aside0 (done.length = j) ∧ Aside0 ((done ++ rest).length = acc.length) ∧ Aside0 (jl_l1 k rest = some rr) ∧ Aside0 (r = done ++ rr) ∧ Aside0 (wr2.ownsRow w.heap.size 9 1 (.slice A7 acc.length c7) acc.length (Disk.strs (done ++ rest))) ∧ Aside0 (Below w.heap.size w wr2))
      case atStart => exact ⟨0, [], acc, r, rfl, Nat.zero_le _, ⟨rfl⟩, ⟨rfl⟩, ⟨rfl⟩, H1, ⟨rfl⟩, HO, HB⟩
      case round =>
        clear H1 HO HB
        obtain ⟨j, done, rest, rr, rfl, hj, hkq, HD, HL, HF, HRR, HO, HB⟩ := hrel
        by_cases hjl : j < acc.length
        · cases rest with
          | nil => exact absurd HL.out (by have := HD.out; simp; omega)
          | cons y rest =>
            have HH := HF.out
            simp only [jl_l1] at HH
            obtain ⟨t, hfil, HH⟩ := Option.bind_eq_some_iff.mp HH
            obtain ⟨r2, hr2, HH⟩ := Option.bind_eq_some_iff.mp HH
            have hrr := Option.some.inj HH
            subst hrr
            have HFil := Aside0.mk hfil
            have HR2 := Aside0.mk hr2
            clear HH hfil hr2 HF
            obtain ⟨bb, c4, cur, hv4, hbb, hh4, hc4, hat4⟩ := Disk.own_form HO.out (by omega)
            injection hv4 with e1 e2 e3
            subst e1 e3
            have hgy : (done ++ y :: rest).getD j ⟨#[]⟩ = y := by
              rw [List.getD_eq_getElem?_getD, List.getElem?_append_right (by have := HD.out; omega), HD.out, Nat.sub_self]
              rfl
            have q := (blk_cell hh4 j).trans ((hat4 j (by omega)).trans (Disk.strs_at (done ++ y :: rest) j (by rw [HL.out]; exact hjl)))
            rw [hgy] at q
            have fq := blk_frozen hh4 j
            have HBb := Aside0.mk hbb
            have hj0 : 0 ≤ (j : Int) := by omega
            have hjz : (j : Int) < (acc.length : Int) := by omega
            have hjc : (j : Int) ≤ (c7 : Int) := by omega
            clear hh4 hat4 hbb hgy
            go_wp2_with (go_at_call 70; refine (journal_filled.calls k y t _ HFil.out).mono ?_; rintro e w5 ⟨rfl, hb5⟩; have HO5 := Aside0.mk (own_move HO.out (fun k hk => hb5.block k (own_lt HO.out k hk))); have HB5 := Aside0.mk (below_step HB.out hb5); have q5 := (hb5.cell (World.block_lt_of_cell? _ _ q)).trans q; have fq5 := (hb5.frozen (World.block_lt_of_cell? _ _ q)).trans fq; clear hb5)
            have hst := (World.ownsRow.stored HO5.out j (.string t)).1
            rw [← jl_strs_set, List.set_append_right _ _ (by have := HD.out; omega), HD.out, Nat.sub_self, List.set_cons_zero, show done ++ t :: rest = (done ++ [t]) ++ rest by simp] at hst
            go_roundg (acc.length - (j + 1))
            case measure => have := hkq.out; omega
            case rel =>
              exact ⟨j + 1, done ++ [t], rest, r2, by have := HAc; first | rfl | (rw [MixBase.wrap64_small (by omega) (by omega)]; rfl), by omega, ⟨rfl⟩, ⟨by rw [List.length_append, List.length_singleton, HD.out]⟩, ⟨by have := HL.out; simp at this ⊢; omega⟩, HR2, ⟨by rw [HRR.out]; simp⟩, ⟨hst⟩, ⟨HB5.out.setCell (p := ⟨_, _, none⟩) HBb.out _⟩⟩
        · obtain rfl : j = acc.length := by omega
          have hrn : rest = [] := List.eq_nil_of_length_eq_zero (by have := HL.out; have := HD.out; rw [List.length_append] at *; omega)
          subst hrn
          have hrr : rr = [] := by have := HF.out; simp only [jl_l1] at this; exact (Option.some.inj this).symm
          subst hrr
          have hr := HRR.out
          rw [List.append_nil] at hr
          subst hr
          go_wp2
          go_ret
          refine ⟨_, rfl, ?_, HB.out⟩
          have ho := HO.out
          rw [List.append_nil] at ho
          show Kd.R Kd.string 9 wr w.heap.size (fun _ => True) (.slice A7 acc.length c7) r
          exact Kd.R_of_own (enc := Value.string) (h1 := fun _ => rfl) (ok := fun _ => True) (by rw [HD.out]; exact ho) (fun _ _ => trivial)

/-! ### mix_More: function 85 -/
def mix_More.l0 : Nat → ByteArray → Int → Int → Int → Int → Option (Int)
  | 0, _, _, _, _, _ => none
  | k + 1, x1, x5, x6, x15, x16 => if x16 < x15 then (if 0 ≤ x16 then (if x16 < (x1.size : Int) then (mix_More.l0 k x1 (((x5 + ((bt x1 x16) % 4294967296)) % 4294967296) % 65521) (((x6 + (((x5 + ((bt x1 x16) % 4294967296)) % 4294967296) % 65521)) % 4294967296) % 65521) x15 (wrap64 (x16 + 1))) else (none)) else (none)) else (some (Go.bits .or .u32 ((x6 * 65536) % 4294967296) x5))
def mix_More.f (k : Nat) (a0 : Int) (a1 : ByteArray) : Option (Int) := mix_More.l0 k a1 (Int.tmod (Go.bits .and .u32 a0 65535) 65521) (Int.tmod (a0 / 65536) 65521) (a1.size : Int) 0
theorem mix_More.mono_l : ∀ k, (∀ y0 y1 y2 y3 y4, LeO (mix_More.l0 k y0 y1 y2 y3 y4) (mix_More.l0 (k + 1) y0 y1 y2 y3 y4))
  | 0 => fun _ _ _ _ _ r h => by simp [mix_More.l0] at h
  | k + 1 => by
    have ih0 := mix_More.mono_l k
    · intro y0 y1 y2 y3 y4
      unfold mix_More.l0
      repeat' first
      | (with_reducible exact ih0 _ _ _ _ _)
      | (with_reducible exact LeO.refl _)
      | (with_reducible exact LeO.none _)
      | (with_reducible refine LeO.ite ?_ ?_)
      | (with_reducible refine LeO.bind ?_ (fun _ => ?_))
      | exact ih0 _ _ _ _ _
      | exact LeO.none _
      | refine LeO.ite ?_ ?_
      | refine LeO.bind ?_ (fun _ => ?_)
theorem mix_More.mono : ∀ a0 a1 k, LeO (mix_More.f k a0 a1) (mix_More.f (k + 1) a0 a1) := by
  intro a0 a1 k
  have ih0 := mix_More.mono_l k
  unfold mix_More.f
  repeat' first
      | (with_reducible exact ih0 _ _ _ _ _)
      | (with_reducible exact LeO.refl _)
      | (with_reducible exact LeO.none _)
      | (with_reducible refine LeO.ite ?_ ?_)
      | (with_reducible refine LeO.bind ?_ (fun _ => ?_))
      | exact ih0 _ _ _ _ _
      | exact LeO.none _
      | refine LeO.ite ?_ ?_
      | refine LeO.bind ?_ (fun _ => ?_)
set_option maxHeartbeats 8000000 in
set_option maxRecDepth 100000 in
theorem mix_More.calls (k : Nat) (a0 : Int) (a1 : ByteArray) (r : Int) (w : World) (h : mix_More.f k a0 a1 = some r) :
    Calls Try.prog 85 #[.int .u32 a0, .string a1] w fun e w' => e = .returned (.int .u32 r) ∧ Drawn0 w w' := by
  have H : (mix_More.l0 k a1 (Int.tmod (Go.bits .and .u32 a0 65535) 65521) (Int.tmod (a0 / 65536) 65521) (a1.size : Int) 0) = some r := h
  clear h
  have H' := Aside0.mk H
  clear H
  go_enter Try.func85, Try.ntmps85
  go_wp2
  go_loopg [5, 6, 16] k (fun kq v5 v6 v16 w' => ∃ (x5_1 : Int) (x6_1 : Int) (x16_1 : Int), v5 = .int .u32 x5_1 ∧ v6 = .int .u32 x6_1 ∧ v16 = .int .i64 x16_1 ∧ Aside0 (mix_More.l0 kq a1 x5_1 x6_1 (a1.size : Int) x16_1 = some r) ∧ Aside0 (kq ≤ k) ∧ Drawn0 w w')
  case atStart => exact ⟨(Int.tmod (Go.bits .and .u32 a0 65535) 65521), (Int.tmod (a0 / 65536) 65521), (0), (by first | rfl | (simp; done) | (simp [*]; done)), (by first | rfl | (simp; done) | (simp [*]; done)), (by first | rfl | (simp; done) | (simp [*]; done)), H', ⟨Nat.le_refl _⟩, by repeat (first | exact Drawn0.refl _ | apply Drawn0.step)⟩
  case round =>
    clear H'
    try clear p2
    obtain ⟨x5_1, x6_1, x16_1, rfl, rfl, rfl, HA, HK1, ⟨m1, rfl⟩⟩ := hrel
    cases gk with
    | zero => exact absurd HA.out (by simp [mix_More.l0])
    | succ k1 =>
      have H := HA.out
      clear HA
      simp only [mix_More.l0] at H
      by_cases c3 : x16_1 < (a1.size : Int)
      · rw [if_pos c3] at H
        have c3b0 : decide (x16_1 < (a1.size : Int)) = true := decide_eq_true c3
        clear c3
        by_cases c4 : 0 ≤ x16_1
        · rw [if_pos c4] at H
          have c4b0 : decide (0 ≤ x16_1) = true := decide_eq_true c4
          clear c4
          by_cases c5 : x16_1 < (a1.size : Int)
          · rw [if_pos c5] at H
            have c5b0 : decide (x16_1 < (a1.size : Int)) = true := decide_eq_true c5
            clear c5
            have H' := Aside0.mk H
            clear H
            have p6 : 0 ≤ (x16_1 : Int) := of_decide_eq_true (by first | (with_reducible assumption) | assumption)
            have q6 : x16_1 < (a1.size : Int) := of_decide_eq_true (by first | (with_reducible assumption) | assumption)
            have hx6 := bt_at a1 x16_1
            replace p6 := eq_true p6
            replace q6 := eq_true q6
            go_wp2
            go_roundg k1
            case measure => have := HK1.out; omega
            case rel => exact ⟨(((x5_1 + ((bt a1 x16_1) % 4294967296)) % 4294967296) % 65521), (((x6_1 + (((x5_1 + ((bt a1 x16_1) % 4294967296)) % 4294967296) % 65521)) % 4294967296) % 65521), (wrap64 (x16_1 + 1)), (by first | rfl | (simp; done) | (simp [*]; done)), (by first | rfl | (simp; done) | (simp [*]; done)), (by first | rfl | (simp; done) | (simp [*]; done)), H', ⟨by have := HK1.out; omega⟩, by repeat (first | exact Drawn0.refl _ | apply Drawn0.step)⟩
          · rw [if_neg c5] at H
            exact absurd H (by simp)
        · rw [if_neg c4] at H
          exact absurd H (by simp)
      · rw [if_neg c3] at H
        have c3b0 : decide (x16_1 < (a1.size : Int)) = false := decide_eq_false c3
        clear c3
        obtain rfl := Option.some.inj H
        go_wp2
        go_ret
        exact ⟨by first | rfl | (simp; done) | (simp [*]; done), by repeat (first | exact Drawn0.refl _ | apply Drawn0.step)⟩

/-! ### journal_top: function 68 -/
mutual
def journal_top.l0 : Nat → List (S62) → Int → List ByteArray → Int → Int → Option (ByteArray)
  | 0, _, _, _, _, _ => none
  | k + 1, x0, x3, x13, x14, x15 => if x15 < x14 then (if 0 ≤ x15 then (if x15 < (x13.length : Int) then ((mix_More.f k x3 (rdOf ByteArray.empty x13 x15)).bind fun t126 => (journal_top.l0 k x0 t126 x13 x14 (wrap64 (x15 + 1)))) else (none)) else (none)) else (journal_top.l1 k x0 x3 x0 (x0.length : Int) 0)
def journal_top.l1 : Nat → List (S62) → Int → List (S62) → Int → Int → Option (ByteArray)
  | 0, _, _, _, _, _ => none
  | k + 1, x0, x3, x23, x24, x25 => if x25 < x24 then (if 0 ≤ x25 then (if x25 < (x23.length : Int) then ((mix_More.f k x3 ((rd_T62 x23 x25).f1)).bind fun t129 => (journal_top.l1 k x0 t129 x23 x24 (wrap64 (x25 + 1)))) else (none)) else (none)) else ((num_Put.f k (IntKind.u64.wrap ((x0.length : Int))) 2).bind fun bt130 => ((num_Put.f k (IntKind.u64.wrap (x3)) 4).bind fun bt132 => (if 4 + bt130.1.size ≤ 9223372036854775807 then (if ((⟨#[106, 114, 110, 108]⟩ : ByteArray) ++ bt130.1).size + bt132.1.size ≤ 9223372036854775807 then ((journal_filled.f k (((⟨#[106, 114, 110, 108]⟩ : ByteArray) ++ bt130.1) ++ bt132.1)).bind fun t134 => (some t134)) else (none)) else (none))))
end
def journal_top.f (k : Nat) (l0 : List (S62)) : Option (ByteArray) := (journal_list.f k l0).bind fun t122 => (journal_top.l0 k l0 1 t122 (t122.length : Int) 0)
theorem journal_top.mono_l : ∀ k, (∀ y0 y1 y2 y3 y4, LeO (journal_top.l0 k y0 y1 y2 y3 y4) (journal_top.l0 (k + 1) y0 y1 y2 y3 y4)) ∧ (∀ y0 y1 y2 y3 y4, LeO (journal_top.l1 k y0 y1 y2 y3 y4) (journal_top.l1 (k + 1) y0 y1 y2 y3 y4))
  | 0 => ⟨fun _ _ _ _ _ r h => by simp [journal_top.l0] at h, fun _ _ _ _ _ r h => by simp [journal_top.l1] at h⟩
  | k + 1 => by
    obtain ⟨ih0, ih1⟩ := journal_top.mono_l k
    refine ⟨?_, ?_⟩
    · intro y0 y1 y2 y3 y4
      unfold journal_top.l0
      repeat' first
      | (with_reducible exact ih0 _ _ _ _ _)
      | (with_reducible exact ih1 _ _ _ _ _)
      | (with_reducible exact journal_filled.mono _ _)
      | (with_reducible exact journal_list.mono _ _)
      | (with_reducible exact mix_More.mono _ _ _)
      | (with_reducible exact num_Put.mono _ _ _)
      | (with_reducible exact LeO.refl _)
      | (with_reducible exact LeO.none _)
      | (with_reducible refine LeO.ite ?_ ?_)
      | (with_reducible refine LeO.bind ?_ (fun _ => ?_))
      | exact ih0 _ _ _ _ _
      | exact ih1 _ _ _ _ _
      | exact journal_filled.mono _ _
      | exact journal_list.mono _ _
      | exact mix_More.mono _ _ _
      | exact num_Put.mono _ _ _
      | exact LeO.none _
      | refine LeO.ite ?_ ?_
      | refine LeO.bind ?_ (fun _ => ?_)
    · intro y0 y1 y2 y3 y4
      unfold journal_top.l1
      repeat' first
      | (with_reducible exact ih0 _ _ _ _ _)
      | (with_reducible exact ih1 _ _ _ _ _)
      | (with_reducible exact journal_filled.mono _ _)
      | (with_reducible exact journal_list.mono _ _)
      | (with_reducible exact mix_More.mono _ _ _)
      | (with_reducible exact num_Put.mono _ _ _)
      | (with_reducible exact LeO.refl _)
      | (with_reducible exact LeO.none _)
      | (with_reducible refine LeO.ite ?_ ?_)
      | (with_reducible refine LeO.bind ?_ (fun _ => ?_))
      | exact ih0 _ _ _ _ _
      | exact ih1 _ _ _ _ _
      | exact journal_filled.mono _ _
      | exact journal_list.mono _ _
      | exact mix_More.mono _ _ _
      | exact num_Put.mono _ _ _
      | exact LeO.none _
      | refine LeO.ite ?_ ?_
      | refine LeO.bind ?_ (fun _ => ?_)
theorem journal_top.mono : ∀ a0 k, LeO (journal_top.f k a0) (journal_top.f (k + 1) a0) := by
  intro a0 k
  obtain ⟨ih0, ih1⟩ := journal_top.mono_l k
  unfold journal_top.f
  repeat' first
      | (with_reducible exact ih0 _ _ _ _ _)
      | (with_reducible exact ih1 _ _ _ _ _)
      | (with_reducible exact journal_filled.mono _ _)
      | (with_reducible exact journal_list.mono _ _)
      | (with_reducible exact mix_More.mono _ _ _)
      | (with_reducible exact num_Put.mono _ _ _)
      | (with_reducible exact LeO.refl _)
      | (with_reducible exact LeO.none _)
      | (with_reducible refine LeO.ite ?_ ?_)
      | (with_reducible refine LeO.bind ?_ (fun _ => ?_))
      | exact ih0 _ _ _ _ _
      | exact ih1 _ _ _ _ _
      | exact journal_filled.mono _ _
      | exact journal_list.mono _ _
      | exact mix_More.mono _ _ _
      | exact num_Put.mono _ _ _
      | exact LeO.none _
      | refine LeO.ite ?_ ?_
      | refine LeO.bind ?_ (fun _ => ?_)
set_option maxHeartbeats 8000000 in
set_option maxRecDepth 100000 in
theorem journal_top.calls (k : Nat) (A0 : Option Addr) (c0 : Nat) (l0 : List (S62)) (r : ByteArray) (w : World) (hr0 : Kd.C k62 w A0 l0.length l0) (hc0 : l0.length ≤ c0) (h : journal_top.f k l0 = some r) :
    Calls Try.prog 68 #[.slice A0 l0.length c0] w fun e w' => e = .returned (.string r) ∧ Below w.heap.size w w' := by
  have hu62 := Try.underlying62
  have HR0 := Aside0.mk hr0
  have HC0 := Aside0.mk hc0
  clear hr0 hc0
  have HB := Aside0.mk (Below.refl w.heap.size w)
  have H : ((journal_list.f k l0).bind fun t122 => (journal_top.l0 k l0 1 t122 (t122.length : Int) 0)) = some r := h
  clear h
  replace H := Option.bind_eq_some_iff.mp H
  obtain ⟨t122, A20, H⟩ := H
  replace H : (journal_top.l0 k l0 1 t122 (t122.length : Int) 0) = some r := H
  have A2 := Aside0.mk A20
  clear A20
  have H' := Aside0.mk H
  clear H
  go_enter Try.func68, Try.ntmps68
  go_wp2_with (first | ((with_reducible refine gate_callee (f := 67) rfl ?_); refine goesL_ (some 13) rfl rfl Try.func67 (by kernel_rfl) rfl #[.slice A0 l0.length c0] rfl (by (try simp only [List.map_toArray, List.map_cons, List.map_nil]); first | done | rfl | (simp only [List.length_drop, List.length_take]; rfl)) ?_; (with_reducible refine (journal_list.calls k _ _ l0 t122 _ ?side1 ?side2 A2.out).mono ?_); (case side1 => repeat (first | exact HR0.out | (with_reducible refine Kd.C_alloc ?_ _) | (with_reducible refine Kd.C_drewN ?_ _) | (with_reducible refine Kd.C_drew ?_))); (case side2 => exact HC0.out); rintro e w3 ⟨v123, rfl, ho0, hb⟩; refine ⟨_, rfl, ?_⟩; have n0_ := Aside0.mk (Kd.R_lower ho0 (below_size (by repeat (first | (with_reducible first | exact HB.out | apply below_alloc | apply pw_below_drewN | apply below_drew1) | exact HB.out)))); have n1_ := Aside0.mk (below_step (by repeat (first | (with_reducible first | exact HB.out | apply below_alloc | apply pw_below_drewN | apply below_drew1) | exact HB.out)) hb); clear HB; have HO124 := n0_; have HB := n1_; clear n0_ n1_; (try clear hb); (try clear hb2); (try clear hk); (try clear hi); (try clear ho0); obtain ⟨Ao4, co4, eo4⟩ := Kd.R_slice HO124.out; subst eo4))
  go_loopg [3, 15] k (fun kq v3 v15 w' => ∃ (x3_1 : Int) (x15_1 : Int), v3 = .int .u32 x3_1 ∧ v15 = .int .i64 x15_1 ∧ Aside0 (journal_top.l0 kq l0 x3_1 t122 (t122.length : Int) x15_1 = some r) ∧ Aside0 (kq ≤ k) ∧ Aside0 (Kd.R Kd.string 9 w' w.heap.size (fun _ => True) (.slice Ao4 t122.length co4) t122) ∧ Aside0 (Below w.heap.size w w'))
  case atStart => exact ⟨(1), (0), (by first | rfl | (simp; done) | (simp [*]; done)), (by first | rfl | (simp; done) | (simp [*]; done)), H', ⟨Nat.le_refl _⟩, ⟨by (with_reducible repeat (first | apply Kd.R_alloc | apply Kd.R_drewN | apply Kd.R_drew)); exact HO124.out⟩, ⟨by repeat (first | (with_reducible first | exact HB.out | apply below_alloc | apply pw_below_drewN | apply below_drew1) | exact HB.out)⟩⟩
  case round =>
    clear H'
    try clear p2
    obtain ⟨x3_1, x15_1, rfl, rfl, HA, HK1, HO_13, HB⟩ := hrel
    cases gk with
    | zero => exact absurd HA.out (by simp [journal_top.l0])
    | succ k1 =>
      have H := HA.out
      clear HA
      simp only [journal_top.l0] at H
      by_cases c5 : x15_1 < (t122.length : Int)
      · rw [if_pos c5] at H
        have c5b0 : decide (x15_1 < (t122.length : Int)) = true := decide_eq_true c5
        clear c5
        by_cases c6 : 0 ≤ x15_1
        · rw [if_pos c6] at H
          have c6b0 : decide (0 ≤ x15_1) = true := decide_eq_true c6
          clear c6
          by_cases c7 : x15_1 < (t122.length : Int)
          · rw [if_pos c7] at H
            have c7b0 : decide (x15_1 < (t122.length : Int)) = true := decide_eq_true c7
            clear c7
            replace H := Option.bind_eq_some_iff.mp H
            obtain ⟨t126, A80, H⟩ := H
            replace H : (journal_top.l0 k1 l0 t126 t122 (t122.length : Int) (wrap64 (x15_1 + 1))) = some r := H
            have A8 := Aside0.mk A80
            clear A80
            have H' := Aside0.mk H
            clear H
            have p125 : 0 ≤ (x15_1 : Int) := of_decide_eq_true (by first | (with_reducible assumption) | assumption)
            have q125 : x15_1 < (t122.length : Int) := of_decide_eq_true (by first | (with_reducible assumption) | assumption)
            obtain ⟨ad125, e125, hx125_0⟩ := Kd.at_string (Kd.R_reads' HO_13.out).2.2 x15_1 p125 q125
            cases e125
            replace p125 := eq_true p125
            replace q125 := eq_true q125
            go_wp2_with (first | ((with_reducible refine gate_callee (f := 85) rfl ?_); refine goesL_ (some 21) rfl rfl Try.func85 (by kernel_rfl) rfl #[.int .u32 x3_1, .string (rdOf ByteArray.empty t122 x15_1)] rfl (by (try simp only [List.map_toArray, List.map_cons, List.map_nil]); first | done | rfl | (simp only [List.length_drop, List.length_take]; rfl)) ?_; (with_reducible refine (mix_More.calls k1 x3_1 (rdOf ByteArray.empty t122 x15_1) t126 _ A8.out).mono ?_); rintro e w' ⟨rfl, ⟨nd, rfl⟩⟩; refine ⟨_, rfl, ?_⟩))
            go_roundg k1
            case measure => have := HK1.out; omega
            case rel => exact ⟨(t126), (wrap64 (x15_1 + 1)), (by first | rfl | (simp; done) | (simp [*]; done)), (by first | rfl | (simp; done) | (simp [*]; done)), H', ⟨by have := HK1.out; omega⟩, ⟨by (with_reducible repeat (first | apply Kd.R_alloc | apply Kd.R_drewN | apply Kd.R_drew)); exact HO_13.out⟩, ⟨by repeat (first | (with_reducible first | exact HB.out | apply below_alloc | apply pw_below_drewN | apply below_drew1) | exact HB.out)⟩⟩
          · rw [if_neg c7] at H
            exact absurd H (by simp)
        · rw [if_neg c6] at H
          exact absurd H (by simp)
      · rw [if_neg c5] at H
        have c5b0 : decide (x15_1 < (t122.length : Int)) = false := decide_eq_false c5
        clear c5
        have H' := Aside0.mk H
        clear H
        go_wp2
        go_loopg [3, 25] k1 (fun kq v3 v25 w' => ∃ (x3_2 : Int) (x25_2 : Int), v3 = .int .u32 x3_2 ∧ v25 = .int .i64 x25_2 ∧ Aside0 (journal_top.l1 kq l0 x3_2 l0 (l0.length : Int) x25_2 = some r) ∧ Aside0 (kq ≤ k1) ∧ Aside0 (Below w.heap.size w w'))
        case atStart => exact ⟨(x3_1), (0), (by first | rfl | (simp; done) | (simp [*]; done)), (by first | rfl | (simp; done) | (simp [*]; done)), H', ⟨Nat.le_refl _⟩, ⟨by repeat (first | (with_reducible first | exact HB.out | apply below_alloc | apply pw_below_drewN | apply below_drew1) | exact HB.out)⟩⟩
        case round =>
          clear H'
          try clear p1
          try clear q1
          try clear hx1
          try clear p2
          try clear c5
          try clear c5b0
          try clear c6
          try clear c6b0
          try clear p6
          try clear c7
          try clear c7b0
          try clear c8
          try clear hx125_0
          try clear p125
          try clear p2
          try clear q125
          obtain ⟨x3_2, x25_2, rfl, rfl, HA, HK2, HB⟩ := hrel
          cases gk with
          | zero => exact absurd HA.out (by simp [journal_top.l1])
          | succ k2 =>
            have H := HA.out
            clear HA
            simp only [journal_top.l1] at H
            by_cases c9 : x25_2 < (l0.length : Int)
            · rw [if_pos c9] at H
              have c9b0 : decide (x25_2 < (l0.length : Int)) = true := decide_eq_true c9
              clear c9
              by_cases c10 : 0 ≤ x25_2
              · rw [if_pos c10] at H
                have c10b0 : decide (0 ≤ x25_2) = true := decide_eq_true c10
                clear c10
                by_cases c11 : x25_2 < (l0.length : Int)
                · rw [if_pos c11] at H
                  have c11b0 : decide (x25_2 < (l0.length : Int)) = true := decide_eq_true c11
                  clear c11
                  replace H := Option.bind_eq_some_iff.mp H
                  obtain ⟨t129, A120, H⟩ := H
                  replace H : (journal_top.l1 k2 l0 t129 l0 (l0.length : Int) (wrap64 (x25_2 + 1))) = some r := H
                  have A12 := Aside0.mk A120
                  clear A120
                  have H' := Aside0.mk H
                  clear H
                  have p127 : 0 ≤ (x25_2 : Int) := of_decide_eq_true (by first | (with_reducible assumption) | assumption)
                  have q127 : x25_2 < (l0.length : Int) := of_decide_eq_true (by first | (with_reducible assumption) | assumption)
                  obtain ⟨ad127, e127, hx127_0, hx127_1⟩ := at_T62 HR0.out x25_2 p127 q127
                  cases e127
                  replace hx127_0 := (HB.out.cell (World.block_lt_of_cell? w _ hx127_0)).trans hx127_0
                  replace hx127_1 := (HB.out.cell (World.block_lt_of_cell? w _ hx127_1)).trans hx127_1
                  replace p127 := eq_true p127
                  replace q127 := eq_true q127
                  go_wp2_with (first | ((with_reducible refine gate_dst (N := 7) rfl ?_); refine box_event ?hg (N := 7) ?hd (cs := #[.int .i64 0, .string (⟨#[]⟩ : ByteArray)]) (t := 62) ?hr ?_; (case hd => rfl); (case hg => rfl); (case hr => first | (go_simp; done) | (go_simp; rfl)); intro gb128 hg w13 hbox hb; have n0_ := Aside0.mk (below_step (by repeat (first | (with_reducible first | exact HB.out | apply below_alloc | apply pw_below_drewN | apply below_drew1) | exact HB.out)) hb); have n1_ := Aside0.mk (hbox); have n2_ := Aside0.mk ((by rw [hg]; exact (below_size (by repeat (first | (with_reducible first | exact HB.out | apply below_alloc | apply pw_below_drewN | apply below_drew1) | exact HB.out))) : w.heap.size ≤ gb128)); have n3_ := Aside0.mk ((by rw [hg]; exact (below_size (by repeat (first | (with_reducible first | exact HB.out | apply below_alloc | apply pw_below_drewN | apply below_drew1) | exact HB.out))) : w.heap.size ≤ gb128)); clear HB; have HB := n0_; have BK128 := n1_; have GW128 := n2_; have GE128 := n3_; clear n0_ n1_ n2_ n3_; clear hb hbox hg; have hcz14_0 : w13.cell? ⟨gb128, 0, none⟩ = some (.int .i64 0) := (blk_cell BK128.out 0).trans rfl; have hcz14_1 : w13.cell? ⟨gb128, 1, none⟩ = some (.string (⟨#[]⟩ : ByteArray)) := (blk_cell BK128.out 1).trans rfl; have hfz14_0 := blk_frozen BK128.out 0; have hfz14_1 := blk_frozen BK128.out 1) | ((with_reducible refine gate_callee (f := 85) rfl ?_); refine goesL_ (some 32) rfl rfl Try.func85 (by kernel_rfl) rfl #[.int .u32 x3_2, .string ((rd_T62 l0 x25_2).f1)] rfl (by (try simp only [List.map_toArray, List.map_cons, List.map_nil]); first | done | rfl | (simp only [List.length_drop, List.length_take]; rfl)) ?_; (with_reducible refine (mix_More.calls k2 x3_2 ((rd_T62 l0 x25_2).f1) t129 _ A12.out).mono ?_); rintro e w' ⟨rfl, ⟨nd, rfl⟩⟩; refine ⟨_, rfl, ?_⟩))
                  go_roundg k2
                  case measure => have := HK1.out; have := HK2.out; omega
                  case rel => exact ⟨(t129), (wrap64 (x25_2 + 1)), (by first | rfl | (simp; done) | (simp [*]; done)), (by first | rfl | (simp; done) | (simp [*]; done)), H', ⟨by have := HK1.out; have := HK2.out; omega⟩, ⟨by repeat (first | (with_reducible first | exact HB.out | apply below_alloc | apply pw_below_drewN | apply below_drew1 | refine below_set ?_ GE128.out) | exact HB.out)⟩⟩
                · rw [if_neg c11] at H
                  exact absurd H (by simp)
              · rw [if_neg c10] at H
                exact absurd H (by simp)
            · rw [if_neg c9] at H
              have c9b0 : decide (x25_2 < (l0.length : Int)) = false := decide_eq_false c9
              clear c9
              replace H := Option.bind_eq_some_iff.mp H
              obtain ⟨⟨t130, t131⟩, A150, H⟩ := H
              replace H : ((num_Put.f k2 (IntKind.u64.wrap (x3_2)) 4).bind fun bt132 => (if 4 + t130.size ≤ 9223372036854775807 then (if ((⟨#[106, 114, 110, 108]⟩ : ByteArray) ++ t130).size + bt132.1.size ≤ 9223372036854775807 then ((journal_filled.f k2 (((⟨#[106, 114, 110, 108]⟩ : ByteArray) ++ t130) ++ bt132.1)).bind fun t134 => (some t134)) else (none)) else (none))) = some r := H
              have A15 := Aside0.mk A150
              clear A150
              replace H := Option.bind_eq_some_iff.mp H
              obtain ⟨⟨t132, t133⟩, A160, H⟩ := H
              replace H : (if 4 + t130.size ≤ 9223372036854775807 then (if ((⟨#[106, 114, 110, 108]⟩ : ByteArray) ++ t130).size + t132.size ≤ 9223372036854775807 then ((journal_filled.f k2 (((⟨#[106, 114, 110, 108]⟩ : ByteArray) ++ t130) ++ t132)).bind fun t134 => (some t134)) else (none)) else (none)) = some r := H
              have A16 := Aside0.mk A160
              clear A160
              by_cases c17 : 4 + t130.size ≤ 9223372036854775807
              · rw [if_pos c17] at H
                have c17b0 := eq_true c17
                have c17b1 : decide (4 + t130.size ≤ 9223372036854775807) = true := decide_eq_true c17
                try have c17b2 : (9223372036854775807 < 4 + t130.size) = False := eq_false (Nat.not_lt.2 c17)
                try (have c17b3 : (9223372036854775807 < 4 + t130.size) = False := eq_false (Nat.not_lt.2 c17); simp only [ByteArray.size_append] at c17b3)
                clear c17
                by_cases c18 : ((⟨#[106, 114, 110, 108]⟩ : ByteArray) ++ t130).size + t132.size ≤ 9223372036854775807
                · rw [if_pos c18] at H
                  have c18b0 := eq_true c18
                  have c18b1 : decide (((⟨#[106, 114, 110, 108]⟩ : ByteArray) ++ t130).size + t132.size ≤ 9223372036854775807) = true := decide_eq_true c18
                  have c18b4 : (9223372036854775807 < 4 + t130.size + t132.size) = False := eq_false (by have h4 : (⟨#[106, 114, 110, 108]⟩ : ByteArray).size = 4 := rfl; rw [ByteArray.size_append, h4] at c18; omega)
                  try have c18b2 : (9223372036854775807 < ((⟨#[106, 114, 110, 108]⟩ : ByteArray) ++ t130).size + t132.size) = False := eq_false (Nat.not_lt.2 c18)
                  try (have c18b3 : (9223372036854775807 < ((⟨#[106, 114, 110, 108]⟩ : ByteArray) ++ t130).size + t132.size) = False := eq_false (Nat.not_lt.2 c18); simp only [ByteArray.size_append] at c18b3)
                  clear c18
                  replace H := Option.bind_eq_some_iff.mp H
                  obtain ⟨t134, A190, H⟩ := H
                  replace H : (some t134) = some r := H
                  have A19 := Aside0.mk A190
                  clear A190
                  obtain rfl := Option.some.inj H
                  go_wp2_with (first | ((with_reducible refine gate_callee (f := 84) rfl ?_); refine goesL_ (some 38) rfl rfl Try.func84 (by kernel_rfl) rfl #[.int .u64 (IntKind.u64.wrap ((l0.length : Int))), .int .i64 2] rfl (by (try simp only [List.map_toArray, List.map_cons, List.map_nil]); first | done | rfl | (simp only [List.length_drop, List.length_take]; rfl)) ?_; (with_reducible refine (num_Put.calls k2 (IntKind.u64.wrap ((l0.length : Int))) 2 t130 t131 _ A15.out).mono ?_); rintro e w20 ⟨rfl, hb⟩; refine ⟨_, rfl, ?_⟩; have n0_ := Aside0.mk (below_step (by repeat (first | (with_reducible first | exact HB.out | apply below_alloc | apply pw_below_drewN | apply below_drew1) | exact HB.out)) hb); clear HB; have HB := n0_; clear n0_; (try clear hb); (try clear hb2); (try clear hk); (try clear hi)) | ((with_reducible refine gate_callee (f := 84) rfl ?_); refine goesL_ (some 44) rfl rfl Try.func84 (by kernel_rfl) rfl #[.int .u64 (IntKind.u64.wrap (x3_2)), .int .i64 4] rfl (by (try simp only [List.map_toArray, List.map_cons, List.map_nil]); first | done | rfl | (simp only [List.length_drop, List.length_take]; rfl)) ?_; (with_reducible refine (num_Put.calls k2 (IntKind.u64.wrap (x3_2)) 4 t132 t133 _ A16.out).mono ?_); rintro e w21 ⟨rfl, hb⟩; refine ⟨_, rfl, ?_⟩; have n0_ := Aside0.mk (below_step (by repeat (first | (with_reducible first | exact HB.out | apply below_alloc | apply pw_below_drewN | apply below_drew1) | exact HB.out)) hb); clear HB; have HB := n0_; clear n0_; (try clear hb); (try clear hb2); (try clear hk); (try clear hi)) | ((with_reducible refine gate_callee (f := 70) rfl ?_); refine goesL_ (some 51) rfl rfl Try.func70 (by kernel_rfl) rfl #[.string (((⟨#[106, 114, 110, 108]⟩ : ByteArray) ++ t130) ++ t132)] rfl (by (try simp only [List.map_toArray, List.map_cons, List.map_nil]); first | done | rfl | (simp only [List.length_drop, List.length_take]; rfl)) ?_; (with_reducible refine (journal_filled.calls k2 (((⟨#[106, 114, 110, 108]⟩ : ByteArray) ++ t130) ++ t132) t134 _ A19.out).mono ?_); rintro e w22 ⟨rfl, hb⟩; refine ⟨_, rfl, ?_⟩; have n0_ := Aside0.mk (below_step (by repeat (first | (with_reducible first | exact HB.out | apply below_alloc | apply pw_below_drewN | apply below_drew1) | exact HB.out)) hb); clear HB; have HB := n0_; clear n0_; (try clear hb); (try clear hb2); (try clear hk); (try clear hi)))
                  go_ret
                  exact ⟨by first | rfl | (simp [errW_none, errW_some] <;> rfl) | (simp [*, errW_none, errW_some] <;> rfl), by repeat (first | (with_reducible first | exact HB.out | apply below_alloc | apply pw_below_drewN | apply below_drew1) | exact HB.out)⟩
                · rw [if_neg c18] at H
                  exact absurd H (by simp)
              · rw [if_neg c17] at H
                exact absurd H (by simp)

-- NOT PRINTED: function 45 (journal_told)

-- NOT PRINTED: function 30 (disk_Disk_Write)

-- NOT PRINTED: function 46 (journal_write)

-- NOT PRINTED: function 47 (journal_home)

-- NOT PRINTED: function 16 (journal_Recover)

-- NOT PRINTED: function 19 (disk_Disk_Log)

-- NOT PRINTED: function 52 (journal_all)

-- NOT PRINTED: function 21 (journal_Commit)

/-! ### disk_many: function 55 -/
def disk_many.f (a0 : Int) : Option (Bool) := if a0 ≥ 64 then (some (decide (a0 ≤ 2048))) else (some false)
set_option maxHeartbeats 8000000 in
set_option maxRecDepth 100000 in
theorem disk_many.calls (a0 : Int) (r : Bool) (w : World) (h : disk_many.f a0 = some r) :
    Calls Try.prog 55 #[.int .i64 a0] w fun e w' => e = .returned (.bool r) ∧ Drawn0 w w' := by
  have H : (if a0 ≥ 64 then (some (decide (a0 ≤ 2048))) else (some false)) = some r := h
  clear h
  by_cases c2 : a0 ≥ 64
  · rw [if_pos c2] at H
    have c2b0 : decide (64 ≤ a0) = true := decide_eq_true c2
    clear c2
    obtain rfl := Option.some.inj H
    go_enter Try.func55, Try.ntmps55
    go_wp2
    go_ret
    exact ⟨by first | rfl | (simp; done) | (simp [*]; done), by repeat (first | exact Drawn0.refl _ | apply Drawn0.step)⟩
  · rw [if_neg c2] at H
    have c2b0 : decide (64 ≤ a0) = false := decide_eq_false c2
    clear c2
    obtain rfl := Option.some.inj H
    go_enter Try.func55, Try.ntmps55
    go_wp2
    go_ret
    exact ⟨by first | rfl | (simp; done) | (simp [*]; done), by repeat (first | exact Drawn0.refl _ | apply Drawn0.step)⟩

-- NOT PRINTED: function 57 (slices_Repeat_string_string)

-- NOT PRINTED: function 27 (disk_New)

/-! ### aumbryref01_Zeros: function 37 -/
def aumbryref01_Zeros.f (a0 : Int) : Option (ByteArray) := if 0 ≤ a0 then (if (a0 : Int).toNat ≤ 281474976710656 then (some (strOfNums (List.replicate (a0 : Int).toNat 0))) else (none)) else (none)
set_option maxHeartbeats 8000000 in
set_option maxRecDepth 100000 in
theorem aumbryref01_Zeros.calls (a0 : Int) (r : ByteArray) (w : World) (h : aumbryref01_Zeros.f a0 = some r) :
    Calls Try.prog 37 #[.int .i64 a0] w fun e w' => e = .returned (.string r) ∧ Below w.heap.size w w' := by
  have HB := Aside0.mk (Below.refl w.heap.size w)
  have H : (if 0 ≤ a0 then (if (a0 : Int).toNat ≤ 281474976710656 then (some (strOfNums (List.replicate (a0 : Int).toNat 0))) else (none)) else (none)) = some r := h
  clear h
  by_cases c2 : 0 ≤ a0
  · rw [if_pos c2] at H
    have c2b0 := eq_true c2
    have c2b1 : decide (0 ≤ a0) = true := decide_eq_true c2
    clear c2
    by_cases c3 : (a0 : Int).toNat ≤ 281474976710656
    · rw [if_pos c3] at H
      have c3b0 := eq_true c3
      have c3b1 : decide ((a0 : Int).toNat ≤ 281474976710656) = true := decide_eq_true c3
      clear c3
      obtain ⟨y138, hy138⟩ : ∃ y_ : List Int, y_ = (List.replicate (a0 : Int).toNat 0) := ⟨_, rfl⟩
      replace H : (some (strOfNums y138)) = some r := by first | (rw [hy138]; with_reducible exact H) | (have H2_ := (Option.bind_some _ _).symm.trans H; rw [hy138]; with_reducible exact H2_) | (have H2_ := (Option.bind_some _ _).symm.trans H; with_reducible exact H2_) | with_reducible exact H | (rw [hy138]; exact H) | exact H
      have Ny138 := Aside0.mk hy138
      clear hy138
      obtain rfl := Option.some.inj H
      go_enter Try.func37, Try.ntmps37
      go_wp2_with (first | ((with_reducible refine gate_dst (N := 4) rfl ?_); refine Kd.R_make (Kd.int .u8) _ 5 rfl (N := 4) rfl 97 _ _ rfl a0 rfl rfl Try.underlying97 (.int .u8 0) 1 info5 rfl (by decide) (by omega) 0 (ok := fun _ => True) (okp := fun _ => True) rfl (fun _ hk => hk) trivial (of_decide_eq_true (by first | (with_reducible assumption) | assumption)) (Nat.le_trans (Nat.mul_le_mul_right _ (of_decide_eq_true (by first | (with_reducible assumption) | assumption) : a0.toNat ≤ 281474976710656)) (by omega)) (Below.refl _ _) (Nat.le_refl _) ?_; intro v139 w4 ho5 hb hg_ hnew_; clear hg_ hnew_; (first | rw [← Ny138.out] at ho5 | (simp only [Int.reduceToNat] at ho5; rw [← Ny138.out] at ho5)); have n0_ := Aside0.mk (Kd.R_lower ho5 (below_size (by repeat (first | (with_reducible first | exact HB.out | apply below_alloc | apply pw_below_drewN | apply below_drew1) | exact HB.out)))); have n1_ := Aside0.mk (below_step (by repeat (first | (with_reducible first | exact HB.out | apply below_alloc | apply pw_below_drewN | apply below_drew1) | exact HB.out)) hb); clear HB; have HO140 := n0_; have HB := n1_; clear n0_ n1_; clear hb ho5; have hcv6 := own_string (P := Try.prog) Try.underlying97 Try.underlying5 Try.underlying9 (Kd.own_of_R HO140.out)))
      go_ret
      exact ⟨by first | rfl | (simp [errW_none, errW_some] <;> rfl) | (simp [*, errW_none, errW_some] <;> rfl), by repeat (first | (with_reducible first | exact HB.out | apply below_alloc | apply pw_below_drewN | apply below_drew1) | exact HB.out)⟩
    · rw [if_neg c3] at H
      exact absurd H (by simp)
  · rw [if_neg c2] at H
    exact absurd H (by simp)

end Go.Proofs.Ytgageigcjeaenaa.QJour
