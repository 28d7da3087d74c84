/- Written by a program of this session out of the translation: Lean functions with the same answers as the Go functions, and the walks that show it. -/
import Derived.Test.YtdieanikopjbjaaQLeafUx0
import Derived.Test.YtdieanikopjbjaaQLeafUx1
import Derived.Test.YtdieanikopjbjaaQLeafUx4
import Derived.Test.YtdieanikopjbjaaQLeafUx6
namespace Go.Proofs.Ytdieanikopjbjaa.QLeafU
open Go.RowKit Go.Proofs.YtdieanikopjbjaaW.PrintWords Go.Proofs.YtdieanikopjbjaaW.PrintLast Go.Proofs.YtdieanikopjbjaaW.PrintMore
attribute [local go_sem] max2_int min2_int max_two min_two max_three min_three max_four min_four
attribute [local go_sem high] StepStr.leq_str StepStr.gtr_str
set_option linter.unusedVariables false
set_option linter.unusedSimpArgs false

attribute [local go_sem high] eqA78
/-! ### aumbryref13_Unpack: function 21 -/
def aumbryref13_Unpack.piece (s : ByteArray) (at_ : Int) : Option (ByteArray × Int) := if at_ ≥ 256 then none else (if bt s at_ > 255 - at_ then none else some (s.extract (at_ + 1).toNat (at_ + 1 + bt s at_).toNat, at_ + 1 + bt s at_))
def aumbryref13_Unpack.l0 : Nat → ByteArray → List S78 → Int → Int → Option (Int × (List S78) × Int)
  | 0, _, _, _, _ => none
  | k + 1, s, l, at_, i => if i < bt s 1 then ((aumbryref13_Unpack.piece s at_).elim (some (0, ([] : List S78), 3)) fun p => (aumbryref13_Unpack.piece s p.2).elim (some (0, ([] : List S78), 3)) fun q => (if l.length < 4398046511104 then (aumbryref13_Unpack.l0 k s (l ++ [(⟨p.1, q.1⟩ : S78)]) q.2 (i + 1)) else (none)))
      else ((aumbryref13_Pack.f k (bt s 0) l).bind fun b => (if b.2 = 0 then (if b.1.toList = s.toList then (some (bt s 0, l, 0)) else (some (0, ([] : List S78), 3))) else (some (0, ([] : List S78), 3))))
def aumbryref13_Unpack.f (k : Nat) (a0 : ByteArray) : Option (Int × (List S78) × Int) := if a0.size = 256 then (aumbryref13_Unpack.l0 k a0 ([] : List S78) 2 0) else (some (0, ([] : List S78), 3))
theorem aumbryref13_Unpack.mono_l : ∀ k, ∀ y0 y1 y2 y3, LeO (aumbryref13_Unpack.l0 k y0 y1 y2 y3) (aumbryref13_Unpack.l0 (k + 1) y0 y1 y2 y3)
  | 0 => fun _ _ _ _ r h => by simp [aumbryref13_Unpack.l0] at h
  | k + 1 => by
    have ih := aumbryref13_Unpack.mono_l k
    intro y0 y1 y2 y3
    unfold aumbryref13_Unpack.l0
    refine LeO.ite ?_ (LeO.bind (aumbryref13_Pack.mono _ _ _) (fun _ => LeO.refl _))
    cases aumbryref13_Unpack.piece y0 y2 with
    | none => exact LeO.refl _
    | some p =>
      simp only [Option.elim_some]
      cases aumbryref13_Unpack.piece y0 p.2 with
      | none => exact LeO.refl _
      | some q =>
        simp only [Option.elim_some]
        exact LeO.ite (ih _ _ _ _) (LeO.none _)
theorem aumbryref13_Unpack.mono : ∀ a0 k, LeO (aumbryref13_Unpack.f k a0) (aumbryref13_Unpack.f (k + 1) a0) := by
  intro a0 k
  unfold aumbryref13_Unpack.f
  exact LeO.ite (aumbryref13_Unpack.mono_l k _ _ _ _) (LeO.refl _)
set_option maxHeartbeats 2000000 in
set_option maxRecDepth 100000 in
theorem aumbryref13_Unpack.calls (k : Nat) (a0 : ByteArray) (r1 : Int) (r2 : List S78) (r3 : Int) (w : World) (h : aumbryref13_Unpack.f k a0 = some (r1, r2, r3)) :
    Calls Try.prog 21 #[.string a0] w fun e w' => ∃ v1_ : Value, e = .returned (.tuple #[.int .i64 r1, v1_, .int .i64 r3]) ∧ Kd.R k78 78 w' w.heap.size (fun _ => True) v1_ r2 ∧ Below w.heap.size w w' := by
  have HB := Aside0.mk (Below.refl w.heap.size w)
  unfold aumbryref13_Unpack.f at h
  by_cases hs : a0.size = 256
  · rw [if_pos hs] at h
    have H' := Aside0.mk h
    have hs1 : ((a0.size : Int) == 256) = true := beq_iff_eq.2 (by omega)
    have hs2 : ((a0.size : Int) != 256) = false := bne_eq_false_iff_eq.2 (by omega)
    have q0 : 0 < a0.size := by omega
    have q1 : 1 < a0.size := by omega
    have hx0 : ∀ h : 0 < a0.size, ((a0[0]'h).toNat : Int) = bt a0 0 := bt_at a0 0
    have hx1 : ∀ h : 1 < a0.size, ((a0[1]'h).toNat : Int) = bt a0 1 := bt_at a0 1
    have b0 := bt_range a0 0
    have b1 := bt_range a0 1
    have HS := Aside0.mk hs
    have qi0 : (0 < (a0.size : Int)) = True := eq_true (by omega)
    have qi1 : (1 < (a0.size : Int)) = True := eq_true (by omega)
    replace q0 := eq_true q0
    replace q1 := eq_true q1
    clear h hs
    go_enter Try.func21, Try.ntmps21
    go_wp2
    go_loopg [5, 6, 7] k (fun kq v5 v6 v7 w' => ∃ (l : List S78) (at_ i : Int), v6 = .int .i64 at_ ∧ v7 = .int .i64 i ∧ Aside0 (aumbryref13_Unpack.l0 kq a0 l at_ i = some (r1, r2, r3)) ∧ Aside0 (kq ≤ k) ∧ 0 ≤ at_ ∧ at_ ≤ 256 ∧ 0 ≤ i ∧ i ≤ 256 ∧ Aside0 (Kd.R k78 78 w' w.heap.size (fun _ => True) v5 l) ∧ Aside0 (Below w.heap.size w w'))
    case atStart => exact ⟨[], 2, 0, rfl, rfl, H', ⟨Nat.le_refl _⟩, by omega, by omega, by omega, by omega, ⟨Kd.R_nil _ _ _ _ _⟩, HB⟩
    case round =>
      clear H'
      obtain ⟨l, at_, i, rfl, rfl, HA, HK1, ha0, ha1, hi0, hi1, HO_5, HB⟩ := hrel
      cases gk with
      | zero => exact absurd HA.out (by simp [aumbryref13_Unpack.l0])
      | succ k1 =>
        have H := HA.out
        clear HA
        simp only [aumbryref13_Unpack.l0] at H
        by_cases c5 : i < bt a0 1
        · rw [if_pos c5] at H
          have c5b : decide (i < bt a0 1) = true := decide_eq_true c5
          have ba := bt_range a0 at_
          have hxa : ∀ h : at_.toNat < a0.size, ((a0[at_.toNat]'h).toNat : Int) = bt a0 at_ := bt_at a0 at_
          by_cases c6 : at_ ≥ 256
          · have hp : aumbryref13_Unpack.piece a0 at_ = none := by
              unfold aumbryref13_Unpack.piece
              rw [if_pos c6]
            rw [hp] at H
            simp only [Option.elim_none, Option.some.injEq, Prod.mk.injEq] at H
            obtain ⟨rfl, rfl, rfl⟩ := H
            have c6b : decide (256 ≤ at_) = true := decide_eq_true c6
            clear c6 hp hxa
            go_wp2
            refine wp_loop_rounds 3 ?_
            rw [rounds_succ]
            go_wp2
            go_ret3
            exact ⟨_, rfl, Kd.R_nil _ _ _ _ _, by repeat (first | (with_reducible first | exact HB.out | apply below_alloc | apply pw_below_drewN | apply below_drew1) | exact HB.out)⟩
          · by_cases c7 : bt a0 at_ > 255 - at_
            · have hp : aumbryref13_Unpack.piece a0 at_ = none := by
                unfold aumbryref13_Unpack.piece
                rw [if_neg c6, if_pos c7]
              rw [hp] at H
              simp only [Option.elim_none, Option.some.injEq, Prod.mk.injEq] at H
              obtain ⟨rfl, rfl, rfl⟩ := H
              have HSo := HS.out
              have c6b : decide (256 ≤ at_) = false := decide_eq_false (by omega)
              have c7b : decide (255 - at_ < bt a0 at_) = true := decide_eq_true (by omega)
              have qa : (at_ < (a0.size : Int)) = True := eq_true (by omega)
              have pa : (0 ≤ at_) = True := eq_true ha0
              clear HSo c6 c7 hp
              go_wp2
              refine wp_loop_rounds 3 ?_
              rw [rounds_succ]
              go_wp2
              go_ret3
              exact ⟨_, rfl, Kd.R_nil _ _ _ _ _, by repeat (first | (with_reducible first | exact HB.out | apply below_alloc | apply pw_below_drewN | apply below_drew1) | exact HB.out)⟩
            · have hp : aumbryref13_Unpack.piece a0 at_ = some (a0.extract (at_ + 1).toNat (at_ + 1 + bt a0 at_).toNat, at_ + 1 + bt a0 at_) := by
                unfold aumbryref13_Unpack.piece
                rw [if_neg c6, if_neg c7]
              rw [hp] at H
              simp only [Option.elim_some] at H
              have HSo := HS.out
              have c6b : decide (256 ≤ at_) = false := decide_eq_false (by omega)
              have c7b : decide (255 - at_ < bt a0 at_) = false := decide_eq_false (by omega)
              have qa : (at_ < (a0.size : Int)) = True := eq_true (by omega)
              have pa : (0 ≤ at_) = True := eq_true ha0
              have pa1 : 0 ≤ at_ + 1 := by omega
              have pa2 : at_ + 1 ≤ at_ + 1 + bt a0 at_ := by omega
              have pa3 : at_ + 1 + bt a0 at_ ≤ (a0.size : Int) := by omega
              have hn : ∃ at1, at1 = at_ + (1 + bt a0 at_) ∧ 0 ≤ at1 ∧ at1 ≤ 256 := ⟨_, rfl, by omega, by omega⟩
              clear HSo c6 c7 hp
              have HH := Aside0.mk H
              clear H
              go_wp2
              refine wp_loop_rounds 3 ?_
              rw [rounds_succ]
              go_wp2
              obtain ⟨at1, hat1, ha10, ha11⟩ := hn
              have H := HH.out
              clear HH
              rw [show at_ + 1 + bt a0 at_ = at1 by omega] at H
              rw [← hat1]
              rw [show at_ + 1 + bt a0 at_ = at1 by omega]
              clear pa2 pa3 c7b
              generalize a0.extract (at_ + 1).toNat at1.toNat = key at *
              clear hat1 hxa ba c6b qa pa pa1
              have ba := bt_range a0 at1
              have hxa : ∀ h : at1.toNat < a0.size, ((a0[at1.toNat]'h).toNat : Int) = bt a0 at1 := bt_at a0 at1
              by_cases c6 : at1 ≥ 256
              · have hp : aumbryref13_Unpack.piece a0 at1 = none := by
                  unfold aumbryref13_Unpack.piece
                  rw [if_pos c6]
                rw [hp] at H
                simp only [Option.elim_none, Option.some.injEq, Prod.mk.injEq] at H
                obtain ⟨rfl, rfl, rfl⟩ := H
                have c6b : decide (256 ≤ at1) = true := decide_eq_true c6
                clear c6 hp hxa
                rw [rounds_succ]
                go_wp2
                go_ret3
                exact ⟨_, rfl, Kd.R_nil _ _ _ _ _, by repeat (first | (with_reducible first | exact HB.out | apply below_alloc | apply pw_below_drewN | apply below_drew1) | exact HB.out)⟩
              · by_cases c7 : bt a0 at1 > 255 - at1
                · have hp : aumbryref13_Unpack.piece a0 at1 = none := by
                    unfold aumbryref13_Unpack.piece
                    rw [if_neg c6, if_pos c7]
                  rw [hp] at H
                  simp only [Option.elim_none, Option.some.injEq, Prod.mk.injEq] at H
                  obtain ⟨rfl, rfl, rfl⟩ := H
                  have HSo := HS.out
                  have c6b : decide (256 ≤ at1) = false := decide_eq_false (by omega)
                  have c7b : decide (255 - at1 < bt a0 at1) = true := decide_eq_true (by omega)
                  have qa : (at1 < (a0.size : Int)) = True := eq_true (by omega)
                  have pa : (0 ≤ at1) = True := eq_true ha10
                  clear HSo c6 c7 hp
                  rw [rounds_succ]
                  go_wp2
                  go_ret3
                  exact ⟨_, rfl, Kd.R_nil _ _ _ _ _, by repeat (first | (with_reducible first | exact HB.out | apply below_alloc | apply pw_below_drewN | apply below_drew1) | exact HB.out)⟩
                · have hp : aumbryref13_Unpack.piece a0 at1 = some (a0.extract (at1 + 1).toNat (at1 + 1 + bt a0 at1).toNat, at1 + 1 + bt a0 at1) := by
                    unfold aumbryref13_Unpack.piece
                    rw [if_neg c6, if_neg c7]
                  rw [hp] at H
                  simp only [Option.elim_some] at H
                  have HSo := HS.out
                  have c6b : decide (256 ≤ at1) = false := decide_eq_false (by omega)
                  have c7b : decide (255 - at1 < bt a0 at1) = false := decide_eq_false (by omega)
                  have qa : (at1 < (a0.size : Int)) = True := eq_true (by omega)
                  have pa : (0 ≤ at1) = True := eq_true ha10
                  have pa1 : 0 ≤ at1 + 1 := by omega
                  have pa2 : at1 + 1 ≤ at1 + 1 + bt a0 at1 := by omega
                  have pa3 : at1 + 1 + bt a0 at1 ≤ (a0.size : Int) := by omega
                  have hn : ∃ at2, at2 = at1 + (1 + bt a0 at1) ∧ 0 ≤ at2 ∧ at2 ≤ 256 := ⟨_, rfl, by omega, by omega⟩
                  clear HSo c6 c7 hp
                  have HH := Aside0.mk H
                  clear H
                  rw [rounds_succ]
                  go_wp2
                  obtain ⟨at2, hat2, ha20, ha21⟩ := hn
                  have H := HH.out
                  clear HH
                  rw [show at1 + 1 + bt a0 at1 = at2 by omega] at H
                  rw [← hat2]
                  rw [show at1 + 1 + bt a0 at1 = at2 by omega]
                  clear pa2 pa3 c7b
                  generalize a0.extract (at1 + 1).toNat at2.toNat = val at *
                  clear hat2 hxa ba c6b qa pa pa1
                  by_cases c10 : l.length < 4398046511104
                  · rw [if_pos c10] at H
                    have LM := Aside0.mk c10
                    have H' := Aside0.mk H
                    clear H c10
                    rw [rounds_succ]
                    go_wp2_with ((with_reducible refine gate_builtin (b := .append) (xs := #[.tmp 57, .tmp 63]) rfl ?_); at_builtin; refine Kd.R_append k78 (w0 := w) w.heap.size rfl (.tmp 57) (.tmp 63) 22 78 (.agg #[(.string ⟨#[]⟩), (.string ⟨#[]⟩)]) 32 rfl Try.underlying22 info78 rfl (by decide) (by omega) u5 l (⟨key, val⟩ : S78) [.string key, .string val] (fun _ => True) (fun _ => False) rfl ?aX ?aP (fun _ hk => hk.elim) ?aF ?aO ?aB ?aS ?aL ?_; (case aX => rw [World.size_alloc]; rfl); (case aP => exact k78_mkM _ _ _ (⟨key, val⟩ : S78)); (case aB => exact (by repeat (first | (with_reducible first | exact HB.out | apply below_alloc | apply pw_below_drewN | apply below_drew1) | exact HB.out))); (case aF => exact (fun _ _ => trivial)); (case aO => exact (by (with_reducible repeat (first | apply Kd.R_alloc | apply Kd.R_drewN | apply Kd.R_drew)); exact HO_5.out)); (case aS => exact (below_size (by repeat (first | (with_reducible first | exact HB.out | apply below_alloc | apply pw_below_drewN | apply below_drew1) | exact HB.out)))); (case aL => have := LM.out; omega); intro v139 w11 ho hb hg hat; have n0_ := Aside0.mk (hb); have n1_ := Aside0.mk (ho); clear HB; clear HO_5; have HB := n0_; have HO140 := n1_; clear n0_ n1_; clear ho hb hg hat)
                    go_roundg k1
                    case measure => have := HK1.out; omega
                    case rel => exact ⟨l ++ [(⟨key, val⟩ : S78)], at2, i + 1, rfl, rfl, H', ⟨by have := HK1.out; omega⟩, ha20, ha21, by omega, by omega, HO140, HB⟩
                  · rw [if_neg c10] at H
                    cases H
        · rw [if_neg c5] at H
          have c5b : decide (i < bt a0 1) = false := decide_eq_false c5
          clear c5
          replace H := Option.bind_eq_some_iff.mp H
          obtain ⟨⟨t1, t2⟩, A0, H⟩ := H
          replace H : (if t2 = 0 then (if t1.toList = a0.toList then (some (bt a0 0, l, 0)) else (some (0, ([] : List S78), 3))) else (some (0, ([] : List S78), 3))) = some (r1, r2, r3) := H
          have A1 := Aside0.mk A0
          clear A0
          obtain ⟨Ao, co, eo⟩ := Kd.R_slice HO_5.out
          subst eo
          have HC := fun W => aumbryref13_Pack.calls k1 (bt a0 0) Ao co l t1 t2 W
          by_cases c8 : t2 = 0
          · rw [if_pos c8] at H
            subst c8
            by_cases c9 : t1.toList = a0.toList
            · rw [if_pos c9] at H
              have c9b : (t1.toList == a0.toList) = true := beq_iff_eq.2 c9
              have c9c : (t1.toList != a0.toList) = false := bne_eq_false_iff_eq.2 c9
              simp only [Option.some.injEq, Prod.mk.injEq] at H
              obtain ⟨rfl, rfl, rfl⟩ := H
              clear c9
              go_wp2_with (go_at_call 17; refine (HC _ (Kd.R_reads' HO_5.out).2.2 (Kd.R_reads' HO_5.out).2.1 A1.out).mono ?_; rintro e w19 ⟨rfl, hb⟩; have n0_ := Aside0.mk (Kd.R_below HO_5.out hb); have n1_ := Aside0.mk (below_step HB.out hb); clear HO_5; clear HB; have HO_5 := n0_; have HB := n1_; clear n0_ n1_ hb)
              go_ret3
              exact ⟨_, rfl, HO_5.out, HB.out⟩
            · rw [if_neg c9] at H
              have c9b : (t1.toList == a0.toList) = false := beq_eq_false_iff_ne.2 c9
              have c9c : (t1.toList != a0.toList) = true := bne_iff_ne.2 c9
              simp only [Option.some.injEq, Prod.mk.injEq] at H
              obtain ⟨rfl, rfl, rfl⟩ := H
              clear c9
              go_wp2_with (go_at_call 17; refine (HC _ (Kd.R_reads' HO_5.out).2.2 (Kd.R_reads' HO_5.out).2.1 A1.out).mono ?_; rintro e w19 ⟨rfl, hb⟩; have n0_ := Aside0.mk (Kd.R_below HO_5.out hb); have n1_ := Aside0.mk (below_step HB.out hb); clear HO_5; clear HB; have HO_5 := n0_; have HB := n1_; clear n0_ n1_ hb)
              go_ret3
              exact ⟨_, rfl, Kd.R_nil _ _ _ _ _, HB.out⟩
          · rw [if_neg c8] at H
            have c8b : (t2 == 0) = false := beq_eq_false_iff_ne.2 c8
            have c8c : (t2 != 0) = true := bne_iff_ne.2 c8
            simp only [Option.some.injEq, Prod.mk.injEq] at H
            obtain ⟨rfl, rfl, rfl⟩ := H
            clear c8
            go_wp2_with (go_at_call 17; refine (HC _ (Kd.R_reads' HO_5.out).2.2 (Kd.R_reads' HO_5.out).2.1 A1.out).mono ?_; rintro e w19 ⟨rfl, hb⟩; have n0_ := Aside0.mk (Kd.R_below HO_5.out hb); have n1_ := Aside0.mk (below_step HB.out hb); clear HO_5; clear HB; have HO_5 := n0_; have HB := n1_; clear n0_ n1_ hb)
            go_ret3
            exact ⟨_, rfl, Kd.R_nil _ _ _ _ _, HB.out⟩
  · rw [if_neg hs] at h
    have hs1 : ((a0.size : Int) == 256) = false := beq_eq_false_iff_ne.2 (by omega)
    have hs2 : ((a0.size : Int) != 256) = true := bne_iff_ne.2 (by omega)
    simp only [Option.some.injEq, Prod.mk.injEq] at h
    obtain ⟨rfl, rfl, rfl⟩ := h
    clear hs
    go_enter Try.func21, Try.ntmps21
    go_wp2
    go_ret3
    exact ⟨_, rfl, Kd.R_nil _ _ _ _ _, HB.out⟩

/-! ### aumbryref13_Same: function 22 -/
def aumbryref13_Same.l0 : Nat → List (S78) → List (S78) → Int → Int → Option (Bool)
  | 0, _, _, _, _ => none
  | k + 1, x0, x1, x12, x13 => if x13 < x12 then (if 0 ≤ x13 then (if x13 < (x0.length : Int) then (if x13 < (x1.length : Int) then (if (!((((rd_T78 x0 x13).f0).toList) == (((rd_T78 x1 x13).f0).toList)) || (!((((rd_T78 x0 x13).f1).toList) == (((rd_T78 x1 x13).f1).toList)))) = true then (some false) else (aumbryref13_Same.l0 k x0 x1 x12 (wrap64 (x13 + 1)))) else (none)) else (none)) else (none)) else (some true)
def aumbryref13_Same.f (k : Nat) (l0 : List (S78)) (l1 : List (S78)) : Option (Bool) := if (l0.length : Int) = (l1.length : Int) then (aumbryref13_Same.l0 k l0 l1 (l0.length : Int) 0) else (some false)
theorem aumbryref13_Same.mono_l : ∀ k, (∀ y0 y1 y2 y3, LeO (aumbryref13_Same.l0 k y0 y1 y2 y3) (aumbryref13_Same.l0 (k + 1) y0 y1 y2 y3))
  | 0 => fun _ _ _ _ r h => by simp [aumbryref13_Same.l0] at h
  | k + 1 => by
    have ih0 := aumbryref13_Same.mono_l k
    · intro y0 y1 y2 y3
      unfold aumbryref13_Same.l0
      repeat' first
      | (with_reducible exact ih0 _ _ _ _)
      | (with_reducible exact LeO.refl _)
      | (with_reducible exact LeO.none _)
      | (with_reducible refine LeO.ite ?_ ?_)
      | (with_reducible refine LeO.bind ?_ (fun _ => ?_))
      | exact ih0 _ _ _ _
      | exact LeO.none _
      | refine LeO.ite ?_ ?_
      | refine LeO.bind ?_ (fun _ => ?_)
theorem aumbryref13_Same.mono : ∀ a0 a1 k, LeO (aumbryref13_Same.f k a0 a1) (aumbryref13_Same.f (k + 1) a0 a1) := by
  intro a0 a1 k
  have ih0 := aumbryref13_Same.mono_l k
  unfold aumbryref13_Same.f
  repeat' first
      | (with_reducible exact ih0 _ _ _ _)
      | (with_reducible exact LeO.refl _)
      | (with_reducible exact LeO.none _)
      | (with_reducible refine LeO.ite ?_ ?_)
      | (with_reducible refine LeO.bind ?_ (fun _ => ?_))
      | exact ih0 _ _ _ _
      | exact LeO.none _
      | refine LeO.ite ?_ ?_
      | refine LeO.bind ?_ (fun _ => ?_)
set_option maxHeartbeats 8000000 in
set_option maxRecDepth 100000 in
theorem aumbryref13_Same.calls (k : Nat) (A0 : Option Addr) (c0 : Nat) (l0 : List (S78)) (A1 : Option Addr) (c1 : Nat) (l1 : List (S78)) (r : Bool) (w : World) (hr0 : Kd.C k78 w A0 l0.length l0) (hc0 : l0.length ≤ c0) (hr1 : Kd.C k78 w A1 l1.length l1) (hc1 : l1.length ≤ c1) (h : aumbryref13_Same.f k l0 l1 = some r) :
    Calls Try.prog 22 #[.slice A0 l0.length c0, .slice A1 l1.length c1] w fun e w' => e = .returned (.bool r) ∧ Drawn0 w w' := by
  have hu78 := Try.underlying78
  have HR0 := Aside0.mk hr0
  have HC0 := Aside0.mk hc0
  clear hr0 hc0
  have HR1 := Aside0.mk hr1
  have HC1 := Aside0.mk hc1
  clear hr1 hc1
  have H : (if (l0.length : Int) = (l1.length : Int) then (aumbryref13_Same.l0 k l0 l1 (l0.length : Int) 0) else (some false)) = some r := h
  clear h
  by_cases c3 : (l0.length : Int) = (l1.length : Int)
  · rw [if_pos c3] at H
    have c3b0 : ((l0.length : Int) == (l1.length : Int)) = true := beq_iff_eq.mpr c3
    have c3b1 : ((l0.length : Int) != (l1.length : Int)) = false := bne_eq_false_iff_eq.mpr c3
    have c3b2 : (l0.length == l1.length) = true := by first | simpa using c3 | (simp at c3 ⊢; omega)
    clear c3
    have H' := Aside0.mk H
    clear H
    go_enter Try.func22, Try.ntmps22
    go_wp2
    repeat (go_quiet (fail); try go_wp2)
    go_loopg [13] k (fun kq v13 w' => ∃ (x13_1 : Int), v13 = .int .i64 x13_1 ∧ Aside0 (aumbryref13_Same.l0 kq l0 l1 (l0.length : Int) x13_1 = some r) ∧ Aside0 (kq ≤ k) ∧ Drawn0 w w')
    case atStart => exact ⟨(0), (by first | rfl | (simp; done) | (simp [*]; done)), H', ⟨Nat.le_refl _⟩, by repeat (first | exact Drawn0.refl _ | apply Drawn0.step)⟩
    case round =>
      clear H'
      try clear c1
      try clear c2
      try clear p2
      try clear c3
      try clear c3b0
      try clear c3b1
      try clear c3b2
      obtain ⟨x13_1, rfl, HA, HK1, ⟨m1, rfl⟩⟩ := hrel
      cases gk with
      | zero => exact absurd HA.out (by simp [aumbryref13_Same.l0])
      | succ k1 =>
        have H := HA.out
        clear HA
        simp only [aumbryref13_Same.l0] at H
        by_cases c4 : x13_1 < (l0.length : Int)
        · rw [if_pos c4] at H
          have c4b0 : decide (x13_1 < (l0.length : Int)) = true := decide_eq_true c4
          clear c4
          by_cases c5 : 0 ≤ x13_1
          · rw [if_pos c5] at H
            have c5b0 : decide (0 ≤ x13_1) = true := decide_eq_true c5
            clear c5
            by_cases c6 : x13_1 < (l0.length : Int)
            · rw [if_pos c6] at H
              have c6b0 : decide (x13_1 < (l0.length : Int)) = true := decide_eq_true c6
              clear c6
              by_cases c7 : x13_1 < (l1.length : Int)
              · rw [if_pos c7] at H
                have c7b0 : decide (x13_1 < (l1.length : Int)) = true := decide_eq_true c7
                clear c7
                by_cases c8 : (!((((rd_T78 l0 x13_1).f0).toList) == (((rd_T78 l1 x13_1).f0).toList)) || (!((((rd_T78 l0 x13_1).f1).toList) == (((rd_T78 l1 x13_1).f1).toList)))) = true
                · rw [if_pos c8] at H
                  have c8b0 : (!((((rd_T78 l0 x13_1).f0).toList) == (((rd_T78 l1 x13_1).f0).toList)) || (!((((rd_T78 l0 x13_1).f1).toList) == (((rd_T78 l1 x13_1).f1).toList)))) = true := c8
                  clear c8
                  obtain rfl := Option.some.inj H
                  have p183 : 0 ≤ (x13_1 : Int) := of_decide_eq_true (by first | (with_reducible assumption) | assumption)
                  have q183 : x13_1 < (l0.length : Int) := of_decide_eq_true (by first | (with_reducible assumption) | assumption)
                  obtain ⟨ad183, e183, hx183_0, hx183_1⟩ := at_T78 HR0.out x13_1 p183 q183
                  cases e183
                  replace p183 := eq_true p183
                  replace q183 := eq_true q183
                  have p184 : 0 ≤ (x13_1 : Int) := of_decide_eq_true (by first | (with_reducible assumption) | assumption)
                  have q184 : x13_1 < (l1.length : Int) := of_decide_eq_true (by first | (with_reducible assumption) | assumption)
                  obtain ⟨ad184, e184, hx184_0, hx184_1⟩ := at_T78 HR1.out x13_1 p184 q184
                  cases e184
                  replace p184 := eq_true p184
                  replace q184 := eq_true q184
                  go_wp2
                  repeat (go_quiet (fail); try go_wp2)
                  go_ret
                  exact ⟨by first | rfl | (simp; done) | (simp [*]; done), by repeat (first | exact Drawn0.refl _ | apply Drawn0.step)⟩
                · rw [if_neg c8] at H
                  have c8b0 : (!((((rd_T78 l0 x13_1).f0).toList) == (((rd_T78 l1 x13_1).f0).toList)) || (!((((rd_T78 l0 x13_1).f1).toList) == (((rd_T78 l1 x13_1).f1).toList)))) = false := by simpa using c8
                  clear c8
                  have H' := Aside0.mk H
                  clear H
                  have p183 : 0 ≤ (x13_1 : Int) := of_decide_eq_true (by first | (with_reducible assumption) | assumption)
                  have q183 : x13_1 < (l0.length : Int) := of_decide_eq_true (by first | (with_reducible assumption) | assumption)
                  obtain ⟨ad183, e183, hx183_0, hx183_1⟩ := at_T78 HR0.out x13_1 p183 q183
                  cases e183
                  replace p183 := eq_true p183
                  replace q183 := eq_true q183
                  have p184 : 0 ≤ (x13_1 : Int) := of_decide_eq_true (by first | (with_reducible assumption) | assumption)
                  have q184 : x13_1 < (l1.length : Int) := of_decide_eq_true (by first | (with_reducible assumption) | assumption)
                  obtain ⟨ad184, e184, hx184_0, hx184_1⟩ := at_T78 HR1.out x13_1 p184 q184
                  cases e184
                  replace p184 := eq_true p184
                  replace q184 := eq_true q184
                  go_wp2
                  repeat (go_quiet (fail); try go_wp2)
                  go_roundg k1
                  case measure => have := HK1.out; omega
                  case rel => exact ⟨(wrap64 (x13_1 + 1)), (by first | rfl | (simp; done) | (simp [*]; done)), H', ⟨by have := HK1.out; omega⟩, by repeat (first | exact Drawn0.refl _ | apply Drawn0.step)⟩
              · rw [if_neg c7] at H
                exact absurd H (by simp)
            · rw [if_neg c6] at H
              exact absurd H (by simp)
          · rw [if_neg c5] at H
            exact absurd H (by simp)
        · rw [if_neg c4] at H
          have c4b0 : decide (x13_1 < (l0.length : Int)) = false := decide_eq_false c4
          clear c4
          obtain rfl := Option.some.inj H
          go_wp2
          repeat (go_quiet (fail); try go_wp2)
          go_ret
          exact ⟨by first | rfl | (simp; done) | (simp [*]; done), by repeat (first | exact Drawn0.refl _ | apply Drawn0.step)⟩
  · rw [if_neg c3] at H
    have c3b0 : ((l0.length : Int) == (l1.length : Int)) = false := beq_eq_false_iff_ne.mpr c3
    have c3b1 : ((l0.length : Int) != (l1.length : Int)) = true := bne_iff_ne.mpr c3
    have c3b2 : (l0.length == l1.length) = false := by first | simpa using c3 | (simp at c3 ⊢; omega)
    obtain rfl := Option.some.inj H
    go_enter Try.func22, Try.ntmps22
    go_wp2
    repeat (go_quiet (fail); try go_wp2)
    go_ret
    exact ⟨by first | rfl | (simp; done) | (simp [*]; done), by repeat (first | exact Drawn0.refl _ | apply Drawn0.step)⟩

/-! ### aumbrylaw13_LeafUnpacks: function 4 -/
def aumbrylaw13_LeafUnpacks.f (k : Nat) (a0 : ByteArray) : Option (Bool) := (aumbrylaw13_wakes.f k).bind fun t185 => (if t185 = true then ((leaf_Unpack.f k a0).bind fun bt186 => ((aumbryref13_Unpack.f k a0).bind fun bt191 => (if bt186.1 = bt191.1 then ((aumbryref13_Same.f k bt186.2.1 bt191.2.1).bind fun t196 => (if t196 = true then (some (bt186.2.2 == bt191.2.2)) else (some false))) else (some false)))) else (some false))
theorem aumbrylaw13_LeafUnpacks.mono : ∀ a0 k, LeO (aumbrylaw13_LeafUnpacks.f k a0) (aumbrylaw13_LeafUnpacks.f (k + 1) a0) := by
  intro a0 k
  unfold aumbrylaw13_LeafUnpacks.f
  repeat' first
      | (with_reducible exact aumbrylaw13_wakes.mono _)
      | (with_reducible exact aumbryref13_Same.mono _ _ _)
      | (with_reducible exact aumbryref13_Unpack.mono _ _)
      | (with_reducible exact leaf_Unpack.mono _ _)
      | (with_reducible exact LeO.refl _)
      | (with_reducible exact LeO.none _)
      | (with_reducible refine LeO.ite ?_ ?_)
      | (with_reducible refine LeO.bind ?_ (fun _ => ?_))
      | exact aumbrylaw13_wakes.mono _
      | exact aumbryref13_Same.mono _ _ _
      | exact aumbryref13_Unpack.mono _ _
      | exact leaf_Unpack.mono _ _
      | exact LeO.none _
      | refine LeO.ite ?_ ?_
      | refine LeO.bind ?_ (fun _ => ?_)
set_option maxHeartbeats 8000000 in
set_option maxRecDepth 100000 in
theorem aumbrylaw13_LeafUnpacks.calls (k : Nat) (a0 : ByteArray) (r : Bool) (w : World) (h : aumbrylaw13_LeafUnpacks.f k a0 = some r) :
    Calls Try.prog 4 #[.string a0] w fun e w' => e = .returned (.bool r) ∧ Below w.heap.size w w' := by
  have HB := Aside0.mk (Below.refl w.heap.size w)
  have H : ((aumbrylaw13_wakes.f k).bind fun t185 => (if t185 = true then ((leaf_Unpack.f k a0).bind fun bt186 => ((aumbryref13_Unpack.f k a0).bind fun bt191 => (if bt186.1 = bt191.1 then ((aumbryref13_Same.f k bt186.2.1 bt191.2.1).bind fun t196 => (if t196 = true then (some (bt186.2.2 == bt191.2.2)) else (some false))) else (some false)))) else (some false))) = some r := h
  clear h
  replace H := Option.bind_eq_some_iff.mp H
  obtain ⟨t185, A20, H⟩ := H
  replace H : (if t185 = true then ((leaf_Unpack.f k a0).bind fun bt186 => ((aumbryref13_Unpack.f k a0).bind fun bt191 => (if bt186.1 = bt191.1 then ((aumbryref13_Same.f k bt186.2.1 bt191.2.1).bind fun t196 => (if t196 = true then (some (bt186.2.2 == bt191.2.2)) else (some false))) else (some false)))) else (some false)) = some r := H
  have A2 := Aside0.mk A20
  clear A20
  by_cases c3 : t185 = true
  · subst c3
    have H1 : ((leaf_Unpack.f k a0).bind fun bt186 => ((aumbryref13_Unpack.f k a0).bind fun bt191 => (if bt186.1 = bt191.1 then ((aumbryref13_Same.f k bt186.2.1 bt191.2.1).bind fun t196 => (if t196 = true then (some (bt186.2.2 == bt191.2.2)) else (some false))) else (some false)))) = some r := by rw [if_pos rfl] at H; exact H
    clear H
    have H := H1
    clear H1
    replace H := Option.bind_eq_some_iff.mp H
    obtain ⟨⟨t186, t187, t188⟩, A40, H⟩ := H
    replace H : ((aumbryref13_Unpack.f k a0).bind fun bt191 => (if t186 = bt191.1 then ((aumbryref13_Same.f k t187 bt191.2.1).bind fun t196 => (if t196 = true then (some (t188 == bt191.2.2)) else (some false))) else (some false))) = some r := H
    have A4 := Aside0.mk A40
    clear A40
    replace H := Option.bind_eq_some_iff.mp H
    obtain ⟨⟨t191, t192, t193⟩, A50, H⟩ := H
    replace H : (if t186 = t191 then ((aumbryref13_Same.f k t187 t192).bind fun t196 => (if t196 = true then (some (t188 == t193)) else (some false))) else (some false)) = some r := H
    have A5 := Aside0.mk A50
    clear A50
    by_cases c6 : t186 = t191
    · rw [if_pos c6] at H
      have c6b0 : (t186 == t191) = true := beq_iff_eq.mpr c6
      have c6b1 : (t186 != t191) = false := bne_eq_false_iff_eq.mpr c6
      clear c6
      replace H := Option.bind_eq_some_iff.mp H
      obtain ⟨t196, A70, H⟩ := H
      replace H : (if t196 = true then (some (t188 == t193)) else (some false)) = some r := H
      have A7 := Aside0.mk A70
      clear A70
      by_cases c8 : t196 = true
      · subst c8
        have H1 : (some (t188 == t193)) = some r := by rw [if_pos rfl] at H; exact H
        clear H
        have H := H1
        clear H1
        obtain rfl := Option.some.inj H
        go_enter Try.func4, Try.ntmps4
        go_wp2_with (first | ((with_reducible refine gate_callee (f := 14) rfl ?_); refine goesL_ (some 9) rfl rfl Try.func14 (by kernel_rfl) rfl #[] rfl (by (try simp only [List.map_toArray, List.map_cons, List.map_nil]); first | done | rfl | (simp only [List.length_drop, List.length_take]; rfl)) ?_; (with_reducible refine (aumbrylaw13_wakes.calls k  true _ A2.out).mono ?_); rintro e w9 ⟨rfl, hb⟩; refine ⟨_, rfl, ?_⟩; have n0_ := Aside0.mk (below_step (by repeat (first | (with_reducible first | exact HB.out | apply below_alloc | apply pw_below_drewN | apply below_drew1) | exact HB.out)) hb); clear HB; have HB := n0_; clear n0_; (try clear hb); (try clear hb2); (try clear hk); (try clear hi)) | ((with_reducible refine gate_callee (f := 20) rfl ?_); refine goesL_ (some 13) rfl rfl Try.func20 (by kernel_rfl) rfl #[.string a0] rfl (by (try simp only [List.map_toArray, List.map_cons, List.map_nil]); first | done | rfl | (simp only [List.length_drop, List.length_take]; rfl)) ?_; (with_reducible refine (leaf_Unpack.calls k a0 t186 t187 t188 _ A4.out).mono ?_); rintro e w10 ⟨v189, rfl, ho0, hb⟩; refine ⟨_, rfl, ?_⟩; have n0_ := Aside0.mk (Kd.R_lower ho0 (below_size (by repeat (first | (with_reducible first | exact HB.out | apply below_alloc | apply pw_below_drewN | apply below_drew1) | exact HB.out)))); have n1_ := Aside0.mk (below_step (by repeat (first | (with_reducible first | exact HB.out | apply below_alloc | apply pw_below_drewN | apply below_drew1) | exact HB.out)) hb); clear HB; have HO190 := n0_; have HB := n1_; clear n0_ n1_; (try clear hb); (try clear hb2); (try clear hk); (try clear hi); (try clear ho0)) | ((with_reducible refine gate_callee (f := 21) rfl ?_); refine goesL_ (some 19) rfl rfl Try.func21 (by kernel_rfl) rfl #[.string a0] rfl (by (try simp only [List.map_toArray, List.map_cons, List.map_nil]); first | done | rfl | (simp only [List.length_drop, List.length_take]; rfl)) ?_; (with_reducible refine (aumbryref13_Unpack.calls k a0 t191 t192 t193 _ A5.out).mono ?_); rintro e w11 ⟨v194, rfl, ho0, hb⟩; refine ⟨_, rfl, ?_⟩; have n0_ := Aside0.mk (Kd.R_elder' (by (with_reducible repeat (first | apply Kd.R_alloc | apply Kd.R_drewN | apply Kd.R_drew)); exact HO190.out) (Kd.R_base ho0) hb); have n1_ := Aside0.mk (Kd.R_lower (Kd.R_new' ho0 (Kd.R_lt (by (with_reducible repeat (first | apply Kd.R_alloc | apply Kd.R_drewN | apply Kd.R_drew)); exact HO190.out))) (below_size (by repeat (first | (with_reducible first | exact HB.out | apply below_alloc | apply pw_below_drewN | apply below_drew1) | exact HB.out)))); have n2_ := Aside0.mk (below_step (by repeat (first | (with_reducible first | exact HB.out | apply below_alloc | apply pw_below_drewN | apply below_drew1) | exact HB.out)) hb); clear HO190; clear HB; have HO190 := n0_; have HO195 := n1_; have HB := n2_; clear n0_ n1_ n2_; (try clear hb); (try clear hb2); (try clear hk); (try clear hi); (try clear ho0); obtain ⟨Ao12, co12, eo12⟩ := Kd.R_slice HO190.out; subst eo12; obtain ⟨Ao13, co13, eo13⟩ := Kd.R_slice HO195.out; subst eo13) | (go_at_call 22; (with_reducible refine (aumbryref13_Same.calls k _ _ t187 _ _ t192 true _ ?side1 ?side2 ?side3 ?side4 A7.out).mono ?_); (case side1 => repeat (first | exact (Kd.R_reads' HO190.out).2.2 | (with_reducible refine Kd.C_alloc ?_ _) | (with_reducible refine Kd.C_drewN ?_ _) | (with_reducible refine Kd.C_drew ?_))); (case side2 => exact (Kd.R_reads' HO190.out).2.1); (case side3 => repeat (first | exact (Kd.R_reads' HO195.out).2.2 | (with_reducible refine Kd.C_alloc ?_ _) | (with_reducible refine Kd.C_drewN ?_ _) | (with_reducible refine Kd.C_drew ?_))); (case side4 => exact (Kd.R_reads' HO195.out).2.1); rintro e w' ⟨rfl, ⟨nd, rfl⟩⟩))
        go_ret
        exact ⟨by first | rfl | (simp [errW_none, errW_some] <;> rfl) | (simp [*, errW_none, errW_some] <;> rfl), by repeat (first | (with_reducible first | exact HB.out | apply below_alloc | apply pw_below_drewN | apply below_drew1) | exact HB.out)⟩
      · replace c8 := Bool.eq_false_iff.mpr c8
        subst c8
        have H1 : (some false) = some r := by rw [if_neg (show ¬ (false = true) by decide)] at H; exact H
        clear H
        have H := H1
        clear H1
        obtain rfl := Option.some.inj H
        go_enter Try.func4, Try.ntmps4
        go_wp2_with (first | ((with_reducible refine gate_callee (f := 14) rfl ?_); refine goesL_ (some 9) rfl rfl Try.func14 (by kernel_rfl) rfl #[] rfl (by (try simp only [List.map_toArray, List.map_cons, List.map_nil]); first | done | rfl | (simp only [List.length_drop, List.length_take]; rfl)) ?_; (with_reducible refine (aumbrylaw13_wakes.calls k  true _ A2.out).mono ?_); rintro e w14 ⟨rfl, hb⟩; refine ⟨_, rfl, ?_⟩; have n0_ := Aside0.mk (below_step (by repeat (first | (with_reducible first | exact HB.out | apply below_alloc | apply pw_below_drewN | apply below_drew1) | exact HB.out)) hb); clear HB; have HB := n0_; clear n0_; (try clear hb); (try clear hb2); (try clear hk); (try clear hi)) | ((with_reducible refine gate_callee (f := 20) rfl ?_); refine goesL_ (some 13) rfl rfl Try.func20 (by kernel_rfl) rfl #[.string a0] rfl (by (try simp only [List.map_toArray, List.map_cons, List.map_nil]); first | done | rfl | (simp only [List.length_drop, List.length_take]; rfl)) ?_; (with_reducible refine (leaf_Unpack.calls k a0 t186 t187 t188 _ A4.out).mono ?_); rintro e w15 ⟨v189, rfl, ho0, hb⟩; refine ⟨_, rfl, ?_⟩; have n0_ := Aside0.mk (Kd.R_lower ho0 (below_size (by repeat (first | (with_reducible first | exact HB.out | apply below_alloc | apply pw_below_drewN | apply below_drew1) | exact HB.out)))); have n1_ := Aside0.mk (below_step (by repeat (first | (with_reducible first | exact HB.out | apply below_alloc | apply pw_below_drewN | apply below_drew1) | exact HB.out)) hb); clear HB; have HO190 := n0_; have HB := n1_; clear n0_ n1_; (try clear hb); (try clear hb2); (try clear hk); (try clear hi); (try clear ho0)) | ((with_reducible refine gate_callee (f := 21) rfl ?_); refine goesL_ (some 19) rfl rfl Try.func21 (by kernel_rfl) rfl #[.string a0] rfl (by (try simp only [List.map_toArray, List.map_cons, List.map_nil]); first | done | rfl | (simp only [List.length_drop, List.length_take]; rfl)) ?_; (with_reducible refine (aumbryref13_Unpack.calls k a0 t191 t192 t193 _ A5.out).mono ?_); rintro e w16 ⟨v194, rfl, ho0, hb⟩; refine ⟨_, rfl, ?_⟩; have n0_ := Aside0.mk (Kd.R_elder' (by (with_reducible repeat (first | apply Kd.R_alloc | apply Kd.R_drewN | apply Kd.R_drew)); exact HO190.out) (Kd.R_base ho0) hb); have n1_ := Aside0.mk (Kd.R_lower (Kd.R_new' ho0 (Kd.R_lt (by (with_reducible repeat (first | apply Kd.R_alloc | apply Kd.R_drewN | apply Kd.R_drew)); exact HO190.out))) (below_size (by repeat (first | (with_reducible first | exact HB.out | apply below_alloc | apply pw_below_drewN | apply below_drew1) | exact HB.out)))); have n2_ := Aside0.mk (below_step (by repeat (first | (with_reducible first | exact HB.out | apply below_alloc | apply pw_below_drewN | apply below_drew1) | exact HB.out)) hb); clear HO190; clear HB; have HO190 := n0_; have HO195 := n1_; have HB := n2_; clear n0_ n1_ n2_; (try clear hb); (try clear hb2); (try clear hk); (try clear hi); (try clear ho0); obtain ⟨Ao17, co17, eo17⟩ := Kd.R_slice HO190.out; subst eo17; obtain ⟨Ao18, co18, eo18⟩ := Kd.R_slice HO195.out; subst eo18) | (go_at_call 22; (with_reducible refine (aumbryref13_Same.calls k _ _ t187 _ _ t192 false _ ?side1 ?side2 ?side3 ?side4 A7.out).mono ?_); (case side1 => repeat (first | exact (Kd.R_reads' HO190.out).2.2 | (with_reducible refine Kd.C_alloc ?_ _) | (with_reducible refine Kd.C_drewN ?_ _) | (with_reducible refine Kd.C_drew ?_))); (case side2 => exact (Kd.R_reads' HO190.out).2.1); (case side3 => repeat (first | exact (Kd.R_reads' HO195.out).2.2 | (with_reducible refine Kd.C_alloc ?_ _) | (with_reducible refine Kd.C_drewN ?_ _) | (with_reducible refine Kd.C_drew ?_))); (case side4 => exact (Kd.R_reads' HO195.out).2.1); rintro e w' ⟨rfl, ⟨nd, rfl⟩⟩))
        go_ret
        exact ⟨by first | rfl | (simp [errW_none, errW_some] <;> rfl) | (simp [*, errW_none, errW_some] <;> rfl), by repeat (first | (with_reducible first | exact HB.out | apply below_alloc | apply pw_below_drewN | apply below_drew1) | exact HB.out)⟩
    · rw [if_neg c6] at H
      have c6b0 : (t186 == t191) = false := beq_eq_false_iff_ne.mpr c6
      have c6b1 : (t186 != t191) = true := bne_iff_ne.mpr c6
      obtain rfl := Option.some.inj H
      go_enter Try.func4, Try.ntmps4
      go_wp2_with (first | ((with_reducible refine gate_callee (f := 14) rfl ?_); refine goesL_ (some 9) rfl rfl Try.func14 (by kernel_rfl) rfl #[] rfl (by (try simp only [List.map_toArray, List.map_cons, List.map_nil]); first | done | rfl | (simp only [List.length_drop, List.length_take]; rfl)) ?_; (with_reducible refine (aumbrylaw13_wakes.calls k  true _ A2.out).mono ?_); rintro e w19 ⟨rfl, hb⟩; refine ⟨_, rfl, ?_⟩; have n0_ := Aside0.mk (below_step (by repeat (first | (with_reducible first | exact HB.out | apply below_alloc | apply pw_below_drewN | apply below_drew1) | exact HB.out)) hb); clear HB; have HB := n0_; clear n0_; (try clear hb); (try clear hb2); (try clear hk); (try clear hi)) | ((with_reducible refine gate_callee (f := 20) rfl ?_); refine goesL_ (some 13) rfl rfl Try.func20 (by kernel_rfl) rfl #[.string a0] rfl (by (try simp only [List.map_toArray, List.map_cons, List.map_nil]); first | done | rfl | (simp only [List.length_drop, List.length_take]; rfl)) ?_; (with_reducible refine (leaf_Unpack.calls k a0 t186 t187 t188 _ A4.out).mono ?_); rintro e w20 ⟨v189, rfl, ho0, hb⟩; refine ⟨_, rfl, ?_⟩; have n0_ := Aside0.mk (Kd.R_lower ho0 (below_size (by repeat (first | (with_reducible first | exact HB.out | apply below_alloc | apply pw_below_drewN | apply below_drew1) | exact HB.out)))); have n1_ := Aside0.mk (below_step (by repeat (first | (with_reducible first | exact HB.out | apply below_alloc | apply pw_below_drewN | apply below_drew1) | exact HB.out)) hb); clear HB; have HO190 := n0_; have HB := n1_; clear n0_ n1_; (try clear hb); (try clear hb2); (try clear hk); (try clear hi); (try clear ho0)) | ((with_reducible refine gate_callee (f := 21) rfl ?_); refine goesL_ (some 19) rfl rfl Try.func21 (by kernel_rfl) rfl #[.string a0] rfl (by (try simp only [List.map_toArray, List.map_cons, List.map_nil]); first | done | rfl | (simp only [List.length_drop, List.length_take]; rfl)) ?_; (with_reducible refine (aumbryref13_Unpack.calls k a0 t191 t192 t193 _ A5.out).mono ?_); rintro e w21 ⟨v194, rfl, ho0, hb⟩; refine ⟨_, rfl, ?_⟩; have n0_ := Aside0.mk (Kd.R_elder' (by (with_reducible repeat (first | apply Kd.R_alloc | apply Kd.R_drewN | apply Kd.R_drew)); exact HO190.out) (Kd.R_base ho0) hb); have n1_ := Aside0.mk (Kd.R_lower (Kd.R_new' ho0 (Kd.R_lt (by (with_reducible repeat (first | apply Kd.R_alloc | apply Kd.R_drewN | apply Kd.R_drew)); exact HO190.out))) (below_size (by repeat (first | (with_reducible first | exact HB.out | apply below_alloc | apply pw_below_drewN | apply below_drew1) | exact HB.out)))); have n2_ := Aside0.mk (below_step (by repeat (first | (with_reducible first | exact HB.out | apply below_alloc | apply pw_below_drewN | apply below_drew1) | exact HB.out)) hb); clear HO190; clear HB; have HO190 := n0_; have HO195 := n1_; have HB := n2_; clear n0_ n1_ n2_; (try clear hb); (try clear hb2); (try clear hk); (try clear hi); (try clear ho0)))
      go_ret
      exact ⟨by first | rfl | (simp [errW_none, errW_some] <;> rfl) | (simp [*, errW_none, errW_some] <;> rfl), by repeat (first | (with_reducible first | exact HB.out | apply below_alloc | apply pw_below_drewN | apply below_drew1) | exact HB.out)⟩
  · replace c3 := Bool.eq_false_iff.mpr c3
    subst c3
    have H1 : (some false) = some r := by rw [if_neg (show ¬ (false = true) by decide)] at H; exact H
    clear H
    have H := H1
    clear H1
    obtain rfl := Option.some.inj H
    go_enter Try.func4, Try.ntmps4
    go_wp2_with (first | ((with_reducible refine gate_callee (f := 14) rfl ?_); refine goesL_ (some 9) rfl rfl Try.func14 (by kernel_rfl) rfl #[] rfl (by (try simp only [List.map_toArray, List.map_cons, List.map_nil]); first | done | rfl | (simp only [List.length_drop, List.length_take]; rfl)) ?_; (with_reducible refine (aumbrylaw13_wakes.calls k  false _ A2.out).mono ?_); rintro e w22 ⟨rfl, hb⟩; refine ⟨_, rfl, ?_⟩; have n0_ := Aside0.mk (below_step (by repeat (first | (with_reducible first | exact HB.out | apply below_alloc | apply pw_below_drewN | apply below_drew1) | exact HB.out)) hb); clear HB; have HB := n0_; clear n0_; (try clear hb); (try clear hb2); (try clear hk); (try clear hi)))
    go_ret
    exact ⟨by first | rfl | (simp [errW_none, errW_some] <;> rfl) | (simp [*, errW_none, errW_some] <;> rfl), by repeat (first | (with_reducible first | exact HB.out | apply below_alloc | apply pw_below_drewN | apply below_drew1) | exact HB.out)⟩

/-- THE ONE PURE STATEMENT of aumbrylaw13_LeafUnpacks: yours. -/
def aumbrylaw13_LeafUnpacks.Pure : Prop := ∀ (a0 : ByteArray), a0.size ≤ 140737488351232 → ∃ k, aumbrylaw13_LeafUnpacks.f k a0 = some true
theorem aumbrylaw13_LeafUnpacks.walk (P : aumbrylaw13_LeafUnpacks.Pure) (a0 : ByteArray) (w : World) (w0 : a0.size ≤ 140737488351232) :
    Calls Try.prog 4 #[.string a0] w fun e w' => e = .returned (.bool true) ∧ Below w.heap.size w w' := by
  obtain ⟨k, h⟩ := P a0 w0
  refine (aumbrylaw13_LeafUnpacks.calls k a0 true w h).mono ?_
  rintro e w' ⟨rfl, hd⟩
  exact ⟨rfl, hd⟩

end Go.Proofs.Ytdieanikopjbjaa.QLeafU
