/- Written by a program of this session out of the translation: Lean functions with the same answers as the Go functions, and the walks that show it. -/
import Derived.Test.YtdieanikopjbjaaQLeafCx0
import Derived.Test.YtdieanikopjbjaaQLeafCx4
import Derived.Test.YtdieanikopjbjaaQLeafCx5
import Derived.Test.YtdieanikopjbjaaQLeafCx6
namespace Go.Proofs.Ytdieanikopjbjaa.QLeafC
open Go.RowKit Go.Proofs.YtdieanikopjbjaaW.PrintWords Go.Proofs.YtdieanikopjbjaaW.PrintLast Go.Proofs.YtdieanikopjbjaaW.PrintMore
attribute [local go_sem] max2_int min2_int max_two min_two max_three min_three max_four min_four
attribute [local go_sem high] StepStr.leq_str StepStr.gtr_str
set_option linter.unusedVariables false
set_option linter.unusedSimpArgs false

/-! ### aumbrylaw13_LeafCuts: function 7 -/
mutual
def aumbrylaw13_LeafCuts.j0 : Nat → List (S78) → List (S78) → List (S78) → Bool → Option (Bool)
  | 0, _, _, _, _ => none
  | k + 1, x0, x3, x4, x33 => if x33 = true then (some false) else (aumbrylaw13_LeafCuts.l0 k x0 x3 x4 (x0.length : Int) 0)
def aumbrylaw13_LeafCuts.l0 : Nat → List (S78) → List (S78) → List (S78) → Int → Int → Option (Bool)
  | 0, _, _, _, _, _ => none
  | k + 1, x0, x3, x4, x35, x36 => if x36 < x35 then ((aumbryref13_Size.f k x0).bind fun t234 => (if 0 ≤ x36 then (if x36 ≤ (wrap64 (x36 + 1)) then (if (wrap64 (x36 + 1)) ≤ (x0.length : Int) then ((aumbryref13_Size.f k ((x0.take ((wrap64 (x36 + 1)) : Int).toNat).drop (x36 : Int).toNat)).bind fun t239 => (if (wrap64 ((wrap64 (t234 - t239)) + 2)) ≤ 256 then (if (x0.length : Int) < 2 then (some true) else ((aumbryref13_Size.f k x3).bind fun t240 => (if t240 ≤ 256 then ((aumbryref13_Size.f k x4).bind fun t241 => (some (decide (t241 ≤ 256)))) else (some false)))) else (aumbrylaw13_LeafCuts.l0 k x0 x3 x4 x35 (wrap64 (x36 + 1))))) else (none)) else (none)) else (none))) else (some true)
end
def aumbrylaw13_LeafCuts.f (k : Nat) (l0 : List (S78)) : Option (Bool) := (aumbrylaw13_wakes.f k).bind fun t212 => (if t212 = true then ((aumbryref13_Copy.f l0).bind fun t213 => ((leaf_Cut.f k t213).bind fun bt216 => ((aumbryref13_Right.f k l0).bind fun t222 => (if t222 = 0 then ((aumbryref13_Cut.f k l0).bind fun t223 => (if 0 ≤ t223 then (if t223 ≤ (l0.length : Int) then ((aumbryref13_Same.f k bt216.1 (l0.take (t223 : Int).toNat)).bind fun t228 => (if t228 = true then ((aumbryref13_Same.f k bt216.2 (l0.drop (t223 : Int).toNat)).bind fun t233 => (aumbrylaw13_LeafCuts.j0 k l0 bt216.1 bt216.2 (!t233))) else (aumbrylaw13_LeafCuts.j0 k l0 bt216.1 bt216.2 true))) else (none)) else (none))) else (some true))))) else (some false))
theorem aumbrylaw13_LeafCuts.mono_l : ∀ k, (∀ y0 y1 y2 y3, LeO (aumbrylaw13_LeafCuts.j0 k y0 y1 y2 y3) (aumbrylaw13_LeafCuts.j0 (k + 1) y0 y1 y2 y3)) ∧ (∀ y0 y1 y2 y3 y4, LeO (aumbrylaw13_LeafCuts.l0 k y0 y1 y2 y3 y4) (aumbrylaw13_LeafCuts.l0 (k + 1) y0 y1 y2 y3 y4))
  | 0 => ⟨fun _ _ _ _ r h => by simp [aumbrylaw13_LeafCuts.j0] at h, fun _ _ _ _ _ r h => by simp [aumbrylaw13_LeafCuts.l0] at h⟩
  | k + 1 => by
    obtain ⟨ih0, ih1⟩ := aumbrylaw13_LeafCuts.mono_l k
    refine ⟨?_, ?_⟩
    · intro y0 y1 y2 y3
      unfold aumbrylaw13_LeafCuts.j0
      repeat' first
      | (with_reducible exact ih0 _ _ _ _)
      | (with_reducible exact ih1 _ _ _ _ _)
      | (with_reducible exact aumbrylaw13_wakes.mono _)
      | (with_reducible exact aumbryref13_Cut.mono _ _)
      | (with_reducible exact aumbryref13_Right.mono _ _)
      | (with_reducible exact aumbryref13_Same.mono _ _ _)
      | (with_reducible exact aumbryref13_Size.mono _ _)
      | (with_reducible exact leaf_Cut.mono _ _)
      | (with_reducible exact LeO.refl _)
      | (with_reducible exact LeO.none _)
      | (with_reducible refine LeO.ite ?_ ?_)
      | (with_reducible refine LeO.bind ?_ (fun _ => ?_))
      | exact ih0 _ _ _ _
      | exact ih1 _ _ _ _ _
      | exact aumbrylaw13_wakes.mono _
      | exact aumbryref13_Cut.mono _ _
      | exact aumbryref13_Right.mono _ _
      | exact aumbryref13_Same.mono _ _ _
      | exact aumbryref13_Size.mono _ _
      | exact leaf_Cut.mono _ _
      | exact LeO.none _
      | refine LeO.ite ?_ ?_
      | refine LeO.bind ?_ (fun _ => ?_)
    · intro y0 y1 y2 y3 y4
      unfold aumbrylaw13_LeafCuts.l0
      repeat' first
      | (with_reducible exact ih0 _ _ _ _)
      | (with_reducible exact ih1 _ _ _ _ _)
      | (with_reducible exact aumbrylaw13_wakes.mono _)
      | (with_reducible exact aumbryref13_Cut.mono _ _)
      | (with_reducible exact aumbryref13_Right.mono _ _)
      | (with_reducible exact aumbryref13_Same.mono _ _ _)
      | (with_reducible exact aumbryref13_Size.mono _ _)
      | (with_reducible exact leaf_Cut.mono _ _)
      | (with_reducible exact LeO.refl _)
      | (with_reducible exact LeO.none _)
      | (with_reducible refine LeO.ite ?_ ?_)
      | (with_reducible refine LeO.bind ?_ (fun _ => ?_))
      | exact ih0 _ _ _ _
      | exact ih1 _ _ _ _ _
      | exact aumbrylaw13_wakes.mono _
      | exact aumbryref13_Cut.mono _ _
      | exact aumbryref13_Right.mono _ _
      | exact aumbryref13_Same.mono _ _ _
      | exact aumbryref13_Size.mono _ _
      | exact leaf_Cut.mono _ _
      | exact LeO.none _
      | refine LeO.ite ?_ ?_
      | refine LeO.bind ?_ (fun _ => ?_)
theorem aumbrylaw13_LeafCuts.mono : ∀ a0 k, LeO (aumbrylaw13_LeafCuts.f k a0) (aumbrylaw13_LeafCuts.f (k + 1) a0) := by
  intro a0 k
  obtain ⟨ih0, ih1⟩ := aumbrylaw13_LeafCuts.mono_l k
  unfold aumbrylaw13_LeafCuts.f
  repeat' first
      | (with_reducible exact ih0 _ _ _ _)
      | (with_reducible exact ih1 _ _ _ _ _)
      | (with_reducible exact aumbrylaw13_wakes.mono _)
      | (with_reducible exact aumbryref13_Cut.mono _ _)
      | (with_reducible exact aumbryref13_Right.mono _ _)
      | (with_reducible exact aumbryref13_Same.mono _ _ _)
      | (with_reducible exact aumbryref13_Size.mono _ _)
      | (with_reducible exact leaf_Cut.mono _ _)
      | (with_reducible exact LeO.refl _)
      | (with_reducible exact LeO.none _)
      | (with_reducible refine LeO.ite ?_ ?_)
      | (with_reducible refine LeO.bind ?_ (fun _ => ?_))
      | exact ih0 _ _ _ _
      | exact ih1 _ _ _ _ _
      | exact aumbrylaw13_wakes.mono _
      | exact aumbryref13_Cut.mono _ _
      | exact aumbryref13_Right.mono _ _
      | exact aumbryref13_Same.mono _ _ _
      | exact aumbryref13_Size.mono _ _
      | exact leaf_Cut.mono _ _
      | exact LeO.none _
      | refine LeO.ite ?_ ?_
      | refine LeO.bind ?_ (fun _ => ?_)
def aumbrylaw13_LeafCuts.T12 : Bool × List (List Nat × List Nat) := (true, [([], []), ([0], [0]), ([], []), ([], []), ([], []), ([4], [4]), ([2, 3, 5], [2, 3, 5]), ([6, 1], [6]), ([1, 7], [1, 7]), ([8], [8]), ([9], [9])])
def aumbrylaw13_LeafCuts.B12 : List Nat := [0, 1, 0, 0, 0, 16, 60, 127, 255, 511, 1023]
theorem aumbrylaw13_LeafCuts.tab12 : rtab .any (opsOf Try.f7 12) = aumbrylaw13_LeafCuts.T12 := by kernel_rfl
theorem aumbrylaw13_LeafCuts.bits12 : waitsOk aumbrylaw13_LeafCuts.T12.2 aumbrylaw13_LeafCuts.B12 = true := by kernel_rfl
set_option maxHeartbeats 8000000 in
set_option maxRecDepth 100000 in
theorem aumbrylaw13_LeafCuts.calls (k : Nat) (A0 : Option Addr) (c0 : Nat) (l0 : List (S78)) (r : Bool) (w : World) (hr0 : Kd.C k78 w A0 l0.length l0) (hc0 : l0.length ≤ c0) (h : aumbrylaw13_LeafCuts.f k l0 = some r) :
    Calls Try.prog 7 #[.slice A0 l0.length c0] w fun e w' => e = .returned (.bool r) ∧ Below w.heap.size w w' := by
  have HR0 := Aside0.mk hr0
  have HC0 := Aside0.mk hc0
  clear hr0 hc0
  have HB := Aside0.mk (Below.refl w.heap.size w)
  have H : ((aumbrylaw13_wakes.f k).bind fun t212 => (if t212 = true then ((aumbryref13_Copy.f l0).bind fun t213 => ((leaf_Cut.f k t213).bind fun bt216 => ((aumbryref13_Right.f k l0).bind fun t222 => (if t222 = 0 then ((aumbryref13_Cut.f k l0).bind fun t223 => (if 0 ≤ t223 then (if t223 ≤ (l0.length : Int) then ((aumbryref13_Same.f k bt216.1 (l0.take (t223 : Int).toNat)).bind fun t228 => (if t228 = true then ((aumbryref13_Same.f k bt216.2 (l0.drop (t223 : Int).toNat)).bind fun t233 => (aumbrylaw13_LeafCuts.j0 k l0 bt216.1 bt216.2 (!t233))) else (aumbrylaw13_LeafCuts.j0 k l0 bt216.1 bt216.2 true))) else (none)) else (none))) else (some true))))) else (some false))) = some r := h
  clear h
  replace H := Option.bind_eq_some_iff.mp H
  obtain ⟨t212, A20, H⟩ := H
  replace H : (if t212 = true then ((aumbryref13_Copy.f l0).bind fun t213 => ((leaf_Cut.f k t213).bind fun bt216 => ((aumbryref13_Right.f k l0).bind fun t222 => (if t222 = 0 then ((aumbryref13_Cut.f k l0).bind fun t223 => (if 0 ≤ t223 then (if t223 ≤ (l0.length : Int) then ((aumbryref13_Same.f k bt216.1 (l0.take (t223 : Int).toNat)).bind fun t228 => (if t228 = true then ((aumbryref13_Same.f k bt216.2 (l0.drop (t223 : Int).toNat)).bind fun t233 => (aumbrylaw13_LeafCuts.j0 k l0 bt216.1 bt216.2 (!t233))) else (aumbrylaw13_LeafCuts.j0 k l0 bt216.1 bt216.2 true))) else (none)) else (none))) else (some true))))) else (some false)) = some r := H
  have A2 := Aside0.mk A20
  clear A20
  by_cases c3 : t212 = true
  · subst c3
    have H1 : ((aumbryref13_Copy.f l0).bind fun t213 => ((leaf_Cut.f k t213).bind fun bt216 => ((aumbryref13_Right.f k l0).bind fun t222 => (if t222 = 0 then ((aumbryref13_Cut.f k l0).bind fun t223 => (if 0 ≤ t223 then (if t223 ≤ (l0.length : Int) then ((aumbryref13_Same.f k bt216.1 (l0.take (t223 : Int).toNat)).bind fun t228 => (if t228 = true then ((aumbryref13_Same.f k bt216.2 (l0.drop (t223 : Int).toNat)).bind fun t233 => (aumbrylaw13_LeafCuts.j0 k l0 bt216.1 bt216.2 (!t233))) else (aumbrylaw13_LeafCuts.j0 k l0 bt216.1 bt216.2 true))) else (none)) else (none))) else (some true))))) = some r := by rw [if_pos rfl] at H; exact H
    clear H
    have H := H1
    clear H1
    replace H := Option.bind_eq_some_iff.mp H
    obtain ⟨t213, A40, H⟩ := H
    replace H : ((leaf_Cut.f k t213).bind fun bt216 => ((aumbryref13_Right.f k l0).bind fun t222 => (if t222 = 0 then ((aumbryref13_Cut.f k l0).bind fun t223 => (if 0 ≤ t223 then (if t223 ≤ (l0.length : Int) then ((aumbryref13_Same.f k bt216.1 (l0.take (t223 : Int).toNat)).bind fun t228 => (if t228 = true then ((aumbryref13_Same.f k bt216.2 (l0.drop (t223 : Int).toNat)).bind fun t233 => (aumbrylaw13_LeafCuts.j0 k l0 bt216.1 bt216.2 (!t233))) else (aumbrylaw13_LeafCuts.j0 k l0 bt216.1 bt216.2 true))) else (none)) else (none))) else (some true)))) = some r := H
    have A4 := Aside0.mk A40
    clear A40
    replace H := Option.bind_eq_some_iff.mp H
    obtain ⟨⟨t216, t217⟩, A50, H⟩ := H
    replace H : ((aumbryref13_Right.f k l0).bind fun t222 => (if t222 = 0 then ((aumbryref13_Cut.f k l0).bind fun t223 => (if 0 ≤ t223 then (if t223 ≤ (l0.length : Int) then ((aumbryref13_Same.f k t216 (l0.take (t223 : Int).toNat)).bind fun t228 => (if t228 = true then ((aumbryref13_Same.f k t217 (l0.drop (t223 : Int).toNat)).bind fun t233 => (aumbrylaw13_LeafCuts.j0 k l0 t216 t217 (!t233))) else (aumbrylaw13_LeafCuts.j0 k l0 t216 t217 true))) else (none)) else (none))) else (some true))) = some r := H
    have A5 := Aside0.mk A50
    clear A50
    replace H := Option.bind_eq_some_iff.mp H
    obtain ⟨t222, A60, H⟩ := H
    replace H : (if t222 = 0 then ((aumbryref13_Cut.f k l0).bind fun t223 => (if 0 ≤ t223 then (if t223 ≤ (l0.length : Int) then ((aumbryref13_Same.f k t216 (l0.take (t223 : Int).toNat)).bind fun t228 => (if t228 = true then ((aumbryref13_Same.f k t217 (l0.drop (t223 : Int).toNat)).bind fun t233 => (aumbrylaw13_LeafCuts.j0 k l0 t216 t217 (!t233))) else (aumbrylaw13_LeafCuts.j0 k l0 t216 t217 true))) else (none)) else (none))) else (some true)) = some r := H
    have A6 := Aside0.mk A60
    clear A60
    by_cases c7 : t222 = 0
    · rw [if_pos c7] at H
      have c7b0 : (t222 == 0) = true := beq_iff_eq.mpr c7
      have c7b1 : (t222 != 0) = false := bne_eq_false_iff_eq.mpr c7
      clear c7
      replace H := Option.bind_eq_some_iff.mp H
      obtain ⟨t223, A80, H⟩ := H
      replace H : (if 0 ≤ t223 then (if t223 ≤ (l0.length : Int) then ((aumbryref13_Same.f k t216 (l0.take (t223 : Int).toNat)).bind fun t228 => (if t228 = true then ((aumbryref13_Same.f k t217 (l0.drop (t223 : Int).toNat)).bind fun t233 => (aumbrylaw13_LeafCuts.j0 k l0 t216 t217 (!t233))) else (aumbrylaw13_LeafCuts.j0 k l0 t216 t217 true))) else (none)) else (none)) = some r := H
      have A8 := Aside0.mk A80
      clear A80
      have HC9 := Aside0.mk H
      clear H
      go_enter Try.func7, Try.ntmps7
      go_upto_region 7 with (first | ((with_reducible refine gate_callee (f := 14) rfl ?_); refine goesL_ (some 7) rfl rfl Try.func14 (by kernel_rfl) rfl #[] rfl (by (try simp only [List.map_toArray, List.map_cons, List.map_nil]); first | done | rfl | (simp only [List.length_drop, List.length_take]; rfl)) ?_; (with_reducible refine (aumbrylaw13_wakes.calls k  true _ A2.out).mono ?_); rintro e w10 ⟨rfl, hb⟩; refine ⟨_, rfl, ?_⟩; have n0_ := Aside0.mk (below_step (by repeat (first | (with_reducible first | exact HB.out | apply below_alloc | apply pw_below_drewN | apply below_drew1) | exact HB.out)) hb); clear HB; have HB := n0_; clear n0_; (try clear hb); (try clear hb2); (try clear hk); (try clear hi)) | ((with_reducible refine gate_callee (f := 16) rfl ?_); refine goesL_ (some 11) rfl rfl Try.func16 (by kernel_rfl) rfl #[.slice A0 l0.length c0] rfl (by (try simp only [List.map_toArray, List.map_cons, List.map_nil]); first | done | rfl | (simp only [List.length_drop, List.length_take]; rfl)) ?_; (with_reducible refine (aumbryref13_Copy.calls _ _ l0 t213 _ ?side1 ?side2 A4.out).mono ?_); (case side1 => repeat (first | exact (Kd.C_below HR0.out HB.out) | (with_reducible refine Kd.C_alloc ?_ _) | (with_reducible refine Kd.C_drewN ?_ _) | (with_reducible refine Kd.C_drew ?_))); (case side2 => exact HC0.out); rintro e w11 ⟨v214, rfl, ho0, hb⟩; refine ⟨_, rfl, ?_⟩; have n0_ := Aside0.mk (Kd.R_lower ho0 (below_size (by repeat (first | (with_reducible first | exact HB.out | apply below_alloc | apply pw_below_drewN | apply below_drew1) | exact HB.out)))); have n1_ := Aside0.mk (below_step (by repeat (first | (with_reducible first | exact HB.out | apply below_alloc | apply pw_below_drewN | apply below_drew1) | exact HB.out)) hb); clear HB; have HO215 := n0_; have HB := n1_; clear n0_ n1_; (try clear hb); (try clear hb2); (try clear hk); (try clear hi); (try clear ho0); obtain ⟨Ao12, co12, eo12⟩ := Kd.R_slice HO215.out; subst eo12) | ((with_reducible refine gate_callee (f := 27) rfl ?_); refine goesL_ (some 12) rfl rfl Try.func27 (by kernel_rfl) rfl #[.slice Ao12 t213.length co12] rfl (by (try simp only [List.map_toArray, List.map_cons, List.map_nil]); first | done | rfl | (simp only [List.length_drop, List.length_take]; rfl)) ?_; (with_reducible refine (leaf_Cut.calls k _ _ t213 t216 t217 _ ?side1 ?side2 A5.out).mono ?_); (case side1 => repeat (first | exact (Kd.R_reads' HO215.out).2.2 | (with_reducible refine Kd.C_alloc ?_ _) | (with_reducible refine Kd.C_drewN ?_ _) | (with_reducible refine Kd.C_drew ?_))); (case side2 => exact (Kd.R_reads' HO215.out).2.1); rintro e w13 ⟨v218, v220, rfl, ho0, ho1, hb⟩; refine ⟨_, rfl, ?_⟩; have n0_ := Aside0.mk (Kd.R_mono (Kd.R_told (Kd.R_told (Kd.R_old (by (with_reducible repeat (first | apply Kd.R_alloc | apply Kd.R_drewN | apply Kd.R_drew)); exact HO215.out) hb) (Kd.R_base ho0)) (Kd.R_base ho1)) (fun _ h_ => h_.1)); have n1_ := Aside0.mk (Kd.R_lower (Kd.R_new' ho0 (Kd.R_lt (by (with_reducible repeat (first | apply Kd.R_alloc | apply Kd.R_drewN | apply Kd.R_drew)); exact HO215.out))) (below_size (by repeat (first | (with_reducible first | exact HB.out | apply below_alloc | apply pw_below_drewN | apply below_drew1) | exact HB.out)))); have n2_ := Aside0.mk (Kd.R_lower (Kd.R_new' ho1 (Kd.R_lt (by (with_reducible repeat (first | apply Kd.R_alloc | apply Kd.R_drewN | apply Kd.R_drew)); exact HO215.out))) (below_size (by repeat (first | (with_reducible first | exact HB.out | apply below_alloc | apply pw_below_drewN | apply below_drew1) | exact HB.out)))); have n3_ := Aside0.mk (below_step (by repeat (first | (with_reducible first | exact HB.out | apply below_alloc | apply pw_below_drewN | apply below_drew1) | exact HB.out)) hb); clear HO215; clear HB; have HO215 := n0_; have HO219 := n1_; have HO221 := n2_; have HB := n3_; clear n0_ n1_ n2_ n3_; (try clear hb); (try clear hb2); (try clear hk); (try clear hi); (try clear ho0); (try clear ho1)) | ((with_reducible refine gate_callee (f := 24) rfl ?_); refine goesL_ (some 16) rfl rfl Try.func24 (by kernel_rfl) rfl #[.slice A0 l0.length c0] rfl (by (try simp only [List.map_toArray, List.map_cons, List.map_nil]); first | done | rfl | (simp only [List.length_drop, List.length_take]; rfl)) ?_; (with_reducible refine (aumbryref13_Right.calls k _ _ l0 t222 _ ?side1 ?side2 A6.out).mono ?_); (case side1 => repeat (first | exact (Kd.C_below HR0.out HB.out) | (with_reducible refine Kd.C_alloc ?_ _) | (with_reducible refine Kd.C_drewN ?_ _) | (with_reducible refine Kd.C_drew ?_))); (case side2 => exact HC0.out); rintro e w' ⟨rfl, ⟨nd, rfl⟩⟩; refine ⟨_, rfl, ?_⟩) | ((with_reducible refine gate_callee (f := 28) rfl ?_); refine goesL_ (some 19) rfl rfl Try.func28 (by kernel_rfl) rfl #[.slice A0 l0.length c0] rfl (by (try simp only [List.map_toArray, List.map_cons, List.map_nil]); first | done | rfl | (simp only [List.length_drop, List.length_take]; rfl)) ?_; (with_reducible refine (aumbryref13_Cut.calls k _ _ l0 t223 _ ?side1 ?side2 A8.out).mono ?_); (case side1 => repeat (first | exact (Kd.C_below HR0.out (by repeat (first | (with_reducible first | exact HB.out | apply below_alloc | apply pw_below_drewN | apply below_drew1) | exact HB.out))) | (with_reducible refine Kd.C_alloc ?_ _) | (with_reducible refine Kd.C_drewN ?_ _) | (with_reducible refine Kd.C_drew ?_))); (case side2 => exact HC0.out); rintro e w14 ⟨rfl, hb⟩; refine ⟨_, rfl, ?_⟩; have n0_ := Aside0.mk (Kd.R_below (by (with_reducible repeat (first | apply Kd.R_alloc | apply Kd.R_drewN | apply Kd.R_drew)); exact HO215.out) hb); have n1_ := Aside0.mk (Kd.R_below (by (with_reducible repeat (first | apply Kd.R_alloc | apply Kd.R_drewN | apply Kd.R_drew)); exact HO219.out) hb); have n2_ := Aside0.mk (Kd.R_below (by (with_reducible repeat (first | apply Kd.R_alloc | apply Kd.R_drewN | apply Kd.R_drew)); exact HO221.out) hb); have n3_ := Aside0.mk (below_step (by repeat (first | (with_reducible first | exact HB.out | apply below_alloc | apply pw_below_drewN | apply below_drew1) | exact HB.out)) hb); clear HO215; clear HO219; clear HO221; clear HB; have HO215 := n0_; have HO219 := n1_; have HO221 := n2_; have HB := n3_; clear n0_ n1_ n2_ n3_; (try clear hb); (try clear hb2); (try clear hk); (try clear hi)))
      (try simp only [Act.put, List.setIfInBounds_toArray, List.set_cons_zero, List.set_cons_succ])
      go_cut [33] (fun v33 wc => ∃ (kq : Nat) (x33_8 : Bool), v33 = .bool x33_8 ∧ Aside0 (aumbrylaw13_LeafCuts.j0 kq l0 t216 t217 x33_8 = some r) ∧ Aside0 (kq ≤ k) ∧ Aside0 (Kd.R k78 78 wc w.heap.size (fun k_ => some k_ ≠ (v220 : Value).ownBlock) v218 t216) ∧ Aside0 (Kd.R k78 78 wc w.heap.size (fun k_ => some k_ ≠ (v218 : Value).ownBlock) v220 t217) ∧ Aside0 (Below w.heap.size w wc))
      case first =>
        have H := HC9.out
        clear HC9
        by_cases c15 : 0 ≤ t223
        · rw [if_pos c15] at H
          have c15b0 := eq_true c15
          have c15b1 : decide (0 ≤ t223) = true := decide_eq_true c15
          clear c15
          by_cases c16 : t223 ≤ (l0.length : Int)
          · rw [if_pos c16] at H
            have c16b0 := eq_true c16
            have c16b1 : decide (t223 ≤ (l0.length : Int)) = true := decide_eq_true c16
            clear c16
            obtain ⟨y224, hy224⟩ : ∃ y_ : List (S78), y_ = (l0.take (t223 : Int).toNat) := ⟨_, rfl⟩
            replace H : ((aumbryref13_Same.f k t216 y224).bind fun t228 => (if t228 = true then ((aumbryref13_Same.f k t217 (l0.drop (t223 : Int).toNat)).bind fun t233 => (aumbrylaw13_LeafCuts.j0 k l0 t216 t217 (!t233))) else (aumbrylaw13_LeafCuts.j0 k l0 t216 t217 true))) = some r := by first | (rw [hy224]; with_reducible exact H) | (have H2_ := (Option.bind_some _ _).symm.trans H; rw [hy224]; with_reducible exact H2_) | (have H2_ := (Option.bind_some _ _).symm.trans H; with_reducible exact H2_) | with_reducible exact H | (rw [hy224]; exact H) | exact H
            have Ny224 := Aside0.mk hy224
            clear hy224
            replace H := Option.bind_eq_some_iff.mp H
            obtain ⟨t228, A170, H⟩ := H
            replace H : (if t228 = true then ((aumbryref13_Same.f k t217 (l0.drop (t223 : Int).toNat)).bind fun t233 => (aumbrylaw13_LeafCuts.j0 k l0 t216 t217 (!t233))) else (aumbrylaw13_LeafCuts.j0 k l0 t216 t217 true)) = some r := H
            have A17 := Aside0.mk A170
            clear A170
            by_cases c18 : t228 = true
            · subst c18
              have H1 : ((aumbryref13_Same.f k t217 (l0.drop (t223 : Int).toNat)).bind fun t233 => (aumbrylaw13_LeafCuts.j0 k l0 t216 t217 (!t233))) = some r := by rw [if_pos rfl] at H; exact H
              clear H
              have H := H1
              clear H1
              have c19b0 := eq_true (of_decide_eq_true (by first | (with_reducible assumption) | assumption) : 0 ≤ t223)
              have c20b0 := eq_true (of_decide_eq_true (by first | (with_reducible assumption) | assumption) : t223 ≤ (l0.length : Int))
              obtain ⟨y229, hy229⟩ : ∃ y_ : List (S78), y_ = (l0.drop (t223 : Int).toNat) := ⟨_, rfl⟩
              replace H : ((aumbryref13_Same.f k t217 y229).bind fun t233 => (aumbrylaw13_LeafCuts.j0 k l0 t216 t217 (!t233))) = some r := by first | (rw [hy229]; with_reducible exact H) | (have H2_ := (Option.bind_some _ _).symm.trans H; rw [hy229]; with_reducible exact H2_) | (have H2_ := (Option.bind_some _ _).symm.trans H; with_reducible exact H2_) | with_reducible exact H | (rw [hy229]; exact H) | exact H
              have Ny229 := Aside0.mk hy229
              clear hy229
              replace H := Option.bind_eq_some_iff.mp H
              obtain ⟨t233, A210, H⟩ := H
              replace H : (aumbrylaw13_LeafCuts.j0 k l0 t216 t217 (!t233)) = some r := H
              have A21 := Aside0.mk A210
              clear A210
              have H' := Aside0.mk H
              clear H
              have q22 : (t223 : Int) ≤ ((l0.length : Int) : Int) := of_decide_eq_true (by first | (with_reducible assumption) | assumption)
              obtain ⟨i022, hi022, _, hsz22, _⟩ := info_parts info78
              have hroom22 : l0.length ≤ c0 := HC0.out
              have hC22 : Kd.C k78 _ A0 l0.length l0 := HR0.out
              have hcut22 := cut_to (P := Try.prog) 22 78 .i64 Try.underlying22 hi022 A0 l0.length c0 t223 (of_decide_eq_true (by first | (with_reducible assumption) | assumption)) q22 hroom22
              have hr22 := Kd.C_take (m := (t223 : Int).toNat) hC22 (by omega)
              have hy22 : y224.length = (t223 : Int).toNat := (by rw [Ny224.out, List.length_take]; omega)
              rw [← Ny224.out] at hr22
              rw [← hy22] at hcut22
              have HR227 := Aside0.mk hr22
              have HC227 := Aside0.mk (show y224.length ≤ c0 from by omega)
              clear hr22 hC22 hroom22 hi022 hsz22
              have KY22 := Aside0.mk hy22
              clear hy22
              replace q22 := eq_true q22
              obtain ⟨Ao23, co23, eo23⟩ := Kd.R_slice HO219.out
              subst eo23
              go_wp2_with (first | ((with_reducible refine gate_callee (f := 22) rfl ?_); refine goesL_ (some 24) rfl rfl Try.func22 (by kernel_rfl) rfl #[.slice Ao23 t216.length co23, .slice A0 y224.length c0] rfl (by (try simp only [List.map_toArray, List.map_cons, List.map_nil]); first | done | rfl | (simp only [List.length_drop, List.length_take]; rfl)) ?_; (with_reducible refine (aumbryref13_Same.calls k _ _ t216 _ _ y224 true _ ?side1 ?side2 ?side3 ?side4 A17.out).mono ?_); (case side1 => repeat (first | exact (Kd.R_reads' HO219.out).2.2 | (with_reducible refine Kd.C_alloc ?_ _) | (with_reducible refine Kd.C_drewN ?_ _) | (with_reducible refine Kd.C_drew ?_))); (case side2 => exact (Kd.R_reads' HO219.out).2.1); (case side3 => repeat (first | exact (Kd.C_below HR227.out HB.out) | (with_reducible refine Kd.C_alloc ?_ _) | (with_reducible refine Kd.C_drewN ?_ _) | (with_reducible refine Kd.C_drew ?_))); (case side4 => exact HC227.out); rintro e w' ⟨rfl, ⟨nd, rfl⟩⟩; refine ⟨_, rfl, ?_⟩; have q24 : (t223 : Int) ≤ ((l0.length : Int) : Int) := of_decide_eq_true (by first | (with_reducible assumption) | assumption); obtain ⟨i024, hi024, _, hsz24, _⟩ := info_parts info78; have hroom24 : l0.length ≤ c0 := HC0.out; have hC24 : Kd.C k78 _ A0 l0.length l0 := HR0.out; have q024 : (0 : Int) ≤ (t223 : Int) := of_decide_eq_true (by first | (with_reducible assumption) | assumption); have hcut24 := cut_from (P := Try.prog) 22 78 .i64 Try.underlying22 hi024 2 hsz24 A0 l0.length c0 t223 q024 q24; have hr24 := Kd.C_drop (m := (t223 : Int).toNat) (c := c0) hC24 (by omega) hroom24; obtain ⟨A24, hA24⟩ : ∃ A1, A1 = (if c0 = (t223 : Int).toNat then A0 else (A0 : Option Addr).map (·.add ((t223 : Int).toNat * 2))) := ⟨_, rfl⟩; obtain ⟨c24, hc24⟩ : ∃ c1, c1 = c0 - (t223 : Int).toNat := ⟨_, rfl⟩; have hy24 : y229.length = l0.length - (t223 : Int).toNat := (by rw [Ny229.out, List.length_drop] <;> omega); rw [show (l0).drop (t223 : Int).toNat = y229 from Ny229.out.symm] at hr24; replace hr24 : Kd.C k78 _ A24 y229.length y229 := (by rw [hA24]; exact hr24); rw [← hy24, ← hA24, ← hc24] at hcut24; have HR232 := Aside0.mk hr24; have HC232 := Aside0.mk (show y229.length ≤ c24 from by rw [hy24, hc24]; exact Nat.sub_le_sub_right hroom24 _); clear hr24 hC24 hroom24 hi024 hsz24 hc24; have KY24 := Aside0.mk hy24; have KA24 := Aside0.mk hA24; clear hy24 hA24; replace q24 := eq_true q24; obtain ⟨Ao25, co25, eo25⟩ := Kd.R_slice HO221.out; subst eo25) | (go_at_call 22; (with_reducible refine (aumbryref13_Same.calls k _ _ t217 _ _ y229 t233 _ ?side1 ?side2 ?side3 ?side4 A21.out).mono ?_); (case side1 => repeat (first | exact (Kd.R_reads' HO221.out).2.2 | (with_reducible refine Kd.C_alloc ?_ _) | (with_reducible refine Kd.C_drewN ?_ _) | (with_reducible refine Kd.C_drew ?_))); (case side2 => exact (Kd.R_reads' HO221.out).2.1); (case side3 => repeat (first | exact (Kd.C_below HR232.out (by repeat (first | (with_reducible first | exact HB.out | apply below_alloc | apply pw_below_drewN | apply below_drew1) | exact HB.out))) | (with_reducible refine Kd.C_alloc ?_ _) | (with_reducible refine Kd.C_drewN ?_ _) | (with_reducible refine Kd.C_drew ?_))); (case side4 => exact HC232.out); rintro e w' ⟨rfl, ⟨nd, rfl⟩⟩))
              go_meet
              case rel => exact ⟨_, (!t233), (by first | rfl | (simp; done) | (simp [*]; done)), H', ⟨by first | omega | exact Nat.le_refl _⟩, ⟨by (with_reducible repeat (first | apply Kd.R_alloc | apply Kd.R_drewN | apply Kd.R_drew)); exact Kd.R_mono HO219.out (fun _ hk => hk.1)⟩, ⟨by (with_reducible repeat (first | apply Kd.R_alloc | apply Kd.R_drewN | apply Kd.R_drew)); exact Kd.R_mono HO221.out (fun _ hk => hk.1)⟩, ⟨by repeat (first | (with_reducible first | exact HB.out | apply below_alloc | apply pw_below_drewN | apply below_drew1) | exact HB.out)⟩⟩
            · replace c18 := Bool.eq_false_iff.mpr c18
              subst c18
              have H1 : (aumbrylaw13_LeafCuts.j0 k l0 t216 t217 true) = some r := by rw [if_neg (show ¬ (false = true) by decide)] at H; exact H
              clear H
              have H := H1
              clear H1
              have H' := Aside0.mk H
              clear H
              have q26 : (t223 : Int) ≤ ((l0.length : Int) : Int) := of_decide_eq_true (by first | (with_reducible assumption) | assumption)
              obtain ⟨i026, hi026, _, hsz26, _⟩ := info_parts info78
              have hroom26 : l0.length ≤ c0 := HC0.out
              have hC26 : Kd.C k78 _ A0 l0.length l0 := HR0.out
              have hcut26 := cut_to (P := Try.prog) 22 78 .i64 Try.underlying22 hi026 A0 l0.length c0 t223 (of_decide_eq_true (by first | (with_reducible assumption) | assumption)) q26 hroom26
              have hr26 := Kd.C_take (m := (t223 : Int).toNat) hC26 (by omega)
              have hy26 : y224.length = (t223 : Int).toNat := (by rw [Ny224.out, List.length_take]; omega)
              rw [← Ny224.out] at hr26
              rw [← hy26] at hcut26
              have HR227 := Aside0.mk hr26
              have HC227 := Aside0.mk (show y224.length ≤ c0 from by omega)
              clear hr26 hC26 hroom26 hi026 hsz26
              have KY26 := Aside0.mk hy26
              clear hy26
              replace q26 := eq_true q26
              obtain ⟨Ao27, co27, eo27⟩ := Kd.R_slice HO219.out
              subst eo27
              go_wp2_with (first | ((with_reducible refine gate_callee (f := 22) rfl ?_); refine goesL_ (some 24) rfl rfl Try.func22 (by kernel_rfl) rfl #[.slice Ao27 t216.length co27, .slice A0 y224.length c0] rfl (by (try simp only [List.map_toArray, List.map_cons, List.map_nil]); first | done | rfl | (simp only [List.length_drop, List.length_take]; rfl)) ?_; (with_reducible refine (aumbryref13_Same.calls k _ _ t216 _ _ y224 false _ ?side1 ?side2 ?side3 ?side4 A17.out).mono ?_); (case side1 => repeat (first | exact (Kd.R_reads' HO219.out).2.2 | (with_reducible refine Kd.C_alloc ?_ _) | (with_reducible refine Kd.C_drewN ?_ _) | (with_reducible refine Kd.C_drew ?_))); (case side2 => exact (Kd.R_reads' HO219.out).2.1); (case side3 => repeat (first | exact (Kd.C_below HR227.out HB.out) | (with_reducible refine Kd.C_alloc ?_ _) | (with_reducible refine Kd.C_drewN ?_ _) | (with_reducible refine Kd.C_drew ?_))); (case side4 => exact HC227.out); rintro e w' ⟨rfl, ⟨nd, rfl⟩⟩; refine ⟨_, rfl, ?_⟩))
              go_meet
              case rel => exact ⟨_, (true), (by first | rfl | (simp; done) | (simp [*]; done)), H', ⟨by first | omega | exact Nat.le_refl _⟩, ⟨by (with_reducible repeat (first | apply Kd.R_alloc | apply Kd.R_drewN | apply Kd.R_drew)); exact Kd.R_mono HO219.out (fun _ hk => hk.1)⟩, ⟨by (with_reducible repeat (first | apply Kd.R_alloc | apply Kd.R_drewN | apply Kd.R_drew)); exact Kd.R_mono HO221.out (fun _ hk => hk.1)⟩, ⟨by repeat (first | (with_reducible first | exact HB.out | apply below_alloc | apply pw_below_drewN | apply below_drew1) | exact HB.out)⟩⟩
          · rw [if_neg c16] at H
            exact absurd H (by simp)
        · rw [if_neg c15] at H
          exact absurd H (by simp)
      case rest =>
        clear HC9
        try clear c1
        try clear c2
        try clear p2
        try clear q2
        try clear c3
        try clear c7
        try clear c7b0
        try clear c7b1
        try clear c14
        try clear c15
        try clear c15b0
        try clear c15b1
        try clear c16
        try clear c16b0
        try clear c16b1
        try clear c18
        try clear c19
        try clear c19b0
        try clear c20
        try clear c20b0
        try clear c22
        try clear q22
        try clear c24
        try clear q24
        try clear q26
        try clear c27
        try clear q024
        try clear q22
        try clear q24
        try clear q26
        obtain ⟨kq, x33_8, rfl, HA, HJ8, HO_3, HO_4, HB⟩ := hcut
        cases kq with
        | zero => exact absurd HA.out (by simp [aumbrylaw13_LeafCuts.j0])
        | succ kj8 =>
          have H := HA.out
          clear HA
          simp only [aumbrylaw13_LeafCuts.j0] at H
          by_cases c28 : x33_8 = true
          · subst c28
            have H1 : (some false) = some r := by rw [if_pos rfl] at H; exact H
            clear H
            have H := H1
            clear H1
            obtain rfl := Option.some.inj H
            go_wp2
            go_ret
            exact ⟨by first | rfl | (simp [errW_none, errW_some] <;> rfl) | (simp [*, errW_none, errW_some] <;> rfl), by repeat (first | (with_reducible first | exact HB.out | apply below_alloc | apply pw_below_drewN | apply below_drew1) | exact HB.out)⟩
          · replace c28 := Bool.eq_false_iff.mpr c28
            subst c28
            have H1 : (aumbrylaw13_LeafCuts.l0 kj8 l0 t216 t217 (l0.length : Int) 0) = some r := by rw [if_neg (show ¬ (false = true) by decide)] at H; exact H
            clear H
            have H := H1
            clear H1
            have H' := Aside0.mk H
            clear H
            go_wp2
            go_loopg [36] kj8 (fun kq v36 w' => ∃ (x36_2 : Int), v36 = .int .i64 x36_2 ∧ Aside0 (aumbrylaw13_LeafCuts.l0 kq l0 t216 t217 (l0.length : Int) x36_2 = some r) ∧ Aside0 (kq ≤ kj8) ∧ Aside0 (Kd.R k78 78 w' w.heap.size (fun k_ => some k_ ≠ (v220 : Value).ownBlock) v218 t216) ∧ Aside0 (Kd.R k78 78 w' w.heap.size (fun k_ => some k_ ≠ (v218 : Value).ownBlock) v220 t217) ∧ Aside0 (Below w.heap.size w w'))
            case atStart => exact ⟨(0), (by first | rfl | (simp; done) | (simp [*]; done)), H', ⟨Nat.le_refl _⟩, ⟨by (with_reducible repeat (first | apply Kd.R_alloc | apply Kd.R_drewN | apply Kd.R_drew)); exact HO_3.out⟩, ⟨by (with_reducible repeat (first | apply Kd.R_alloc | apply Kd.R_drewN | apply Kd.R_drew)); exact HO_4.out⟩, ⟨by repeat (first | (with_reducible first | exact HB.out | apply below_alloc | apply pw_below_drewN | apply below_drew1) | exact HB.out)⟩⟩
            case round =>
              clear H'
              try clear c1
              try clear c2
              try clear p2
              try clear q2
              try clear c3
              try clear c7
              try clear c7b0
              try clear c7b1
              try clear c14
              try clear c15
              try clear c15b0
              try clear c15b1
              try clear c16
              try clear c16b0
              try clear c16b1
              try clear c18
              try clear c19
              try clear c19b0
              try clear c20
              try clear c20b0
              try clear c22
              try clear q22
              try clear c24
              try clear q24
              try clear q26
              try clear c27
              try clear c28
              try clear p2
              try clear q024
              try clear q2
              try clear q22
              try clear q24
              try clear q26
              obtain ⟨x36_2, rfl, HA, HK2, HO_3, HO_4, HB⟩ := hrel
              cases gk with
              | zero => exact absurd HA.out (by simp [aumbrylaw13_LeafCuts.l0])
              | succ k2 =>
                have H := HA.out
                clear HA
                simp only [aumbrylaw13_LeafCuts.l0] at H
                by_cases c29 : x36_2 < (l0.length : Int)
                · rw [if_pos c29] at H
                  have c29b0 : decide (x36_2 < (l0.length : Int)) = true := decide_eq_true c29
                  clear c29
                  replace H := Option.bind_eq_some_iff.mp H
                  obtain ⟨t234, A300, H⟩ := H
                  replace H : (if 0 ≤ x36_2 then (if x36_2 ≤ (wrap64 (x36_2 + 1)) then (if (wrap64 (x36_2 + 1)) ≤ (l0.length : Int) then ((aumbryref13_Size.f k2 ((l0.take ((wrap64 (x36_2 + 1)) : Int).toNat).drop (x36_2 : Int).toNat)).bind fun t239 => (if (wrap64 ((wrap64 (t234 - t239)) + 2)) ≤ 256 then (if (l0.length : Int) < 2 then (some true) else ((aumbryref13_Size.f k2 t216).bind fun t240 => (if t240 ≤ 256 then ((aumbryref13_Size.f k2 t217).bind fun t241 => (some (decide (t241 ≤ 256)))) else (some false)))) else (aumbrylaw13_LeafCuts.l0 k2 l0 t216 t217 (l0.length : Int) (wrap64 (x36_2 + 1))))) else (none)) else (none)) else (none)) = some r := H
                  have A30 := Aside0.mk A300
                  clear A300
                  by_cases c31 : 0 ≤ x36_2
                  · rw [if_pos c31] at H
                    have c31b0 := eq_true c31
                    have c31b1 : decide (0 ≤ x36_2) = true := decide_eq_true c31
                    clear c31
                    by_cases c32 : x36_2 ≤ (wrap64 (x36_2 + 1))
                    · rw [if_pos c32] at H
                      have c32b0 := eq_true c32
                      have c32b1 : decide (x36_2 ≤ (wrap64 (x36_2 + 1))) = true := decide_eq_true c32
                      by_cases c33 : (wrap64 (x36_2 + 1)) ≤ (l0.length : Int)
                      · rw [if_pos c33] at H
                        have c33b0 := eq_true c33
                        have c33b1 : decide ((wrap64 (x36_2 + 1)) ≤ (l0.length : Int)) = true := decide_eq_true c33
                        obtain ⟨y235, hy235⟩ : ∃ y_ : List (S78), y_ = ((l0.take ((wrap64 (x36_2 + 1)) : Int).toNat).drop (x36_2 : Int).toNat) := ⟨_, rfl⟩
                        replace H : ((aumbryref13_Size.f k2 y235).bind fun t239 => (if (wrap64 ((wrap64 (t234 - t239)) + 2)) ≤ 256 then (if (l0.length : Int) < 2 then (some true) else ((aumbryref13_Size.f k2 t216).bind fun t240 => (if t240 ≤ 256 then ((aumbryref13_Size.f k2 t217).bind fun t241 => (some (decide (t241 ≤ 256)))) else (some false)))) else (aumbrylaw13_LeafCuts.l0 k2 l0 t216 t217 (l0.length : Int) (wrap64 (x36_2 + 1))))) = some r := by first | (rw [hy235]; with_reducible exact H) | (have H2_ := (Option.bind_some _ _).symm.trans H; rw [hy235]; with_reducible exact H2_) | (have H2_ := (Option.bind_some _ _).symm.trans H; with_reducible exact H2_) | with_reducible exact H | (rw [hy235]; exact H) | exact H
                        have Ny235 := Aside0.mk hy235
                        clear hy235
                        replace H := Option.bind_eq_some_iff.mp H
                        obtain ⟨t239, A340, H⟩ := H
                        replace H : (if (wrap64 ((wrap64 (t234 - t239)) + 2)) ≤ 256 then (if (l0.length : Int) < 2 then (some true) else ((aumbryref13_Size.f k2 t216).bind fun t240 => (if t240 ≤ 256 then ((aumbryref13_Size.f k2 t217).bind fun t241 => (some (decide (t241 ≤ 256)))) else (some false)))) else (aumbrylaw13_LeafCuts.l0 k2 l0 t216 t217 (l0.length : Int) (wrap64 (x36_2 + 1)))) = some r := H
                        have A34 := Aside0.mk A340
                        clear A340
                        by_cases c35 : (wrap64 ((wrap64 (t234 - t239)) + 2)) ≤ 256
                        · rw [if_pos c35] at H
                          have c35b0 : decide ((wrap64 ((wrap64 (t234 - t239)) + 2)) ≤ 256) = true := decide_eq_true c35
                          clear c35
                          by_cases c36 : (l0.length : Int) < 2
                          · rw [if_pos c36] at H
                            have c36b0 : decide ((l0.length : Int) < 2) = true := decide_eq_true c36
                            have c36b1 : decide (l0.length < 2) = true := decide_eq_true (by omega)
                            clear c36
                            obtain rfl := Option.some.inj H
                            try go_wp2
                            have n0_ := Aside0.mk (Kd.R_drew HO_3.out)
                            have n1_ := Aside0.mk (Kd.R_drew HO_4.out)
                            have n2_ := Aside0.mk (below_drew1 HB.out)
                            clear HO_3
                            clear HO_4
                            clear HB
                            have HO_3 := n0_
                            have HO_4 := n1_
                            have HB := n2_
                            clear n0_ n1_ n2_
                            have q38 : ((wrap64 (x36_2 + 1)) : Int) ≤ ((l0.length : Int) : Int) := of_decide_eq_true (by first | (with_reducible assumption) | assumption)
                            obtain ⟨i038, hi038, _, hsz38, _⟩ := info_parts info78
                            have hroom38 : l0.length ≤ c0 := HC0.out
                            have hC38 : Kd.C k78 _ A0 l0.length l0 := HR0.out
                            have ql38 : (x36_2 : Int) ≤ ((wrap64 (x36_2 + 1)) : Int) := of_decide_eq_true (by first | (with_reducible assumption) | assumption)
                            have q038 : (0 : Int) ≤ (x36_2 : Int) := of_decide_eq_true (by first | (with_reducible assumption) | assumption)
                            have hcut38 := cut_mid (P := Try.prog) 22 78 .i64 .i64 Try.underlying22 hi038 2 hsz38 A0 l0.length c0 x36_2 (wrap64 (x36_2 + 1)) q038 ql38 q38 hroom38
                            have hr38 := Kd.C_mid (lo := (x36_2 : Int).toNat) (hi := ((wrap64 (x36_2 + 1)) : Int).toNat) (c := c0) hC38 (by omega) (by omega) hroom38
                            obtain ⟨A38, hA38⟩ : ∃ A1, A1 = (if c0 = (x36_2 : Int).toNat then A0 else (A0 : Option Addr).map (·.add ((x36_2 : Int).toNat * 2))) := ⟨_, rfl⟩
                            obtain ⟨c38, hc38⟩ : ∃ c1, c1 = c0 - (x36_2 : Int).toNat := ⟨_, rfl⟩
                            have hy38 : y235.length = ((wrap64 (x36_2 + 1)) : Int).toNat - (x36_2 : Int).toNat := (by rw [Ny235.out, List.length_drop, List.length_take] <;> omega)
                            rw [show ((l0).take ((wrap64 (x36_2 + 1)) : Int).toNat).drop (x36_2 : Int).toNat = y235 from Ny235.out.symm] at hr38
                            replace hr38 : Kd.C k78 _ A38 y235.length y235 := (by rw [hA38]; exact hr38)
                            rw [← hy38, ← hA38, ← hc38] at hcut38
                            have HR238 := Aside0.mk hr38
                            have HC238 := Aside0.mk (show y235.length ≤ c38 from by rw [hy38, hc38]; exact Nat.sub_le_sub_right (Nat.le_trans (by omega) hroom38) _)
                            clear hr38 hC38 hroom38 hi038 hsz38 hc38
                            have KY38 := Aside0.mk hy38
                            have KA38 := Aside0.mk hA38
                            clear hy38 hA38
                            replace q38 := eq_true q38
                            refine start_ (n := 11) (S := fun w' => True) (ds := []) #[false, false, false, false, false, false, false, false, false, false, false] (by kernel_rfl) rfl rfl trivial (fun hHeld => ?_); refine with_tabW aumbrylaw13_LeafCuts.tab12 aumbrylaw13_LeafCuts.bits12 (fun HT_ HW_ => ?_)
                            generalize wr.drew = w37 at HO_3 HO_4 HB HR238 hHeld ⊢
                            refine pure_ (i := 0) (N := some 39) (v := ?_) (a' := ?_) #[true, false, false, false, false, false, false, false, false, false, false] rfl rfl (any_of HT_.out (by kernel_rfl)) (fun _ _ _ h => h) (Or.inl ⟨by rfl, ?_⟩) ?_ ?_
                            rotate_left
                            · intro w'
                              go_simp
                              with_reducible rfl
                            rotate_left
                            · simp only [Act.put, List.setIfInBounds_toArray, List.set_cons_zero, List.set_cons_succ, i64_w, i32_w]
                              rfl
                            refine pure_ (i := 2) (N := some 41) (v := ?_) (a' := ?_) #[true, false, true, false, false, false, false, false, false, false, false] rfl rfl (any_of HT_.out (by kernel_rfl)) (fun _ _ _ h => h) (Or.inl ⟨by rfl, ?_⟩) ?_ ?_
                            rotate_left
                            · intro w'
                              go_simp
                              with_reducible rfl
                            rotate_left
                            · simp only [Act.put, List.setIfInBounds_toArray, List.set_cons_zero, List.set_cons_succ, i64_w, i32_w]
                              rfl
                            refine pure_ (i := 3) (N := some 42) (v := ?_) (a' := ?_) #[true, false, true, true, false, false, false, false, false, false, false] rfl rfl (any_of HT_.out (by kernel_rfl)) (fun _ _ _ h => h) (Or.inl ⟨by rfl, ?_⟩) ?_ ?_
                            rotate_left
                            · intro w'
                              go_simp
                              with_reducible rfl
                            rotate_left
                            · simp only [Act.put, List.setIfInBounds_toArray, List.set_cons_zero, List.set_cons_succ, i64_w, i32_w]
                              rfl
                            refine pure_ (i := 4) (N := some 43) (v := ?_) (a' := ?_) #[true, false, true, true, true, false, false, false, false, false, false] rfl rfl (any_of HT_.out (by kernel_rfl)) (fun _ _ _ h => h) (Or.inl ⟨by rfl, ?_⟩) ?_ ?_
                            rotate_left
                            · intro w'
                              go_simp
                              with_reducible rfl
                            rotate_left
                            · simp only [Act.put, List.setIfInBounds_toArray, List.set_cons_zero, List.set_cons_succ, i64_w, i32_w]
                              rfl
                            refine pure_ (i := 5) (N := some 44) (v := ?_) (a' := ?_) #[true, false, true, true, true, true, false, false, false, false, false] rfl rfl (any_of HT_.out (by kernel_rfl)) (fun _ _ _ h => h) (Or.inl ⟨by rfl, ?_⟩) ?_ ?_
                            rotate_left
                            · intro w'
                              go_simp
                              with_reducible rfl
                            rotate_left
                            · simp only [Act.put, List.setIfInBounds_toArray, List.set_cons_zero, List.set_cons_succ, i64_w, i32_w]
                              rfl
                            refine pure_ (i := 6) (N := some 45) (v := ?_) (a' := ?_) #[true, false, true, true, true, true, true, false, false, false, false] rfl rfl (any_of HT_.out (by kernel_rfl)) (fun _ _ _ h => h) (Or.inl ⟨by rfl, ?_⟩) ?_ ?_
                            rotate_left
                            · intro w'
                              go_simp
                              with_reducible rfl
                            rotate_left
                            · simp only [Act.put, List.setIfInBounds_toArray, List.set_cons_zero, List.set_cons_succ, i64_w, i32_w]
                              rfl
                            refine one_ (i := 1) (N := some 40) #[true, true, true, true, true, true, true, false, false, false, false] rfl rfl (one_of HT_.out (by kernel_rfl)) (by decide) (fun K hK => ?_)
                            refine goes_ Try.func19 (by kernel_rfl) rfl #[.slice A0 l0.length c0] (by rfl) rfl rfl (by (try simp only [List.map_toArray, List.map_cons, List.map_nil]); first | done | rfl | (simp only [List.length_drop, List.length_take]; rfl)) ?_
                            with_reducible refine (aumbryref13_Size.calls k2 _ _ l0 t234 _ ?side1 ?side2 A30.out).mono ?_
                            (case side1 => repeat (first | exact (Kd.C_below HR0.out HB.out) | (with_reducible refine Kd.C_alloc ?_ _) | (with_reducible refine Kd.C_drewN ?_ _) | (with_reducible refine Kd.C_drew ?_)))
                            (case side2 => exact HC0.out)
                            rintro e w' ⟨rfl, ⟨nd, rfl⟩⟩
                            refine ⟨_, rfl, ?_⟩
                            refine hK.out _ _ trivial (fun hHeld => ?_)
                            clear hK K
                            refine norm_ (a' := ?_) ?_ ?_
                            rotate_left
                            · show Act.put _ (some 40) _ = _
                              simp only [Act.put, List.setIfInBounds_toArray, List.set_cons_zero, List.set_cons_succ, i64_w, i32_w]
                              rfl
                            refine one_ (i := 7) (N := some 46) #[true, true, true, true, true, true, true, true, false, false, false] rfl rfl (one_of HT_.out (by kernel_rfl)) (by decide) (fun K hK => ?_)
                            refine goes_ Try.func19 (by kernel_rfl) rfl #[.slice A38 y235.length c38] (by rfl) rfl rfl (by (try simp only [List.map_toArray, List.map_cons, List.map_nil]); first | done | rfl | (simp only [List.length_drop, List.length_take]; rfl)) ?_
                            with_reducible refine (aumbryref13_Size.calls k2 _ _ y235 t239 _ ?side1 ?side2 A34.out).mono ?_
                            (case side1 => repeat (first | exact (Kd.C_below HR238.out (by repeat (first | (with_reducible first | exact HB.out | apply below_alloc | apply pw_below_drewN | apply below_drew1) | exact HB.out))) | (with_reducible refine Kd.C_alloc ?_ _) | (with_reducible refine Kd.C_drewN ?_ _) | (with_reducible refine Kd.C_drew ?_)))
                            (case side2 => exact HC238.out)
                            rintro e w' ⟨rfl, ⟨nd, rfl⟩⟩
                            refine ⟨_, rfl, ?_⟩
                            refine hK.out _ _ trivial (fun hHeld => ?_)
                            clear hK K
                            refine norm_ (a' := ?_) ?_ ?_
                            rotate_left
                            · show Act.put _ (some 46) _ = _
                              simp only [Act.put, List.setIfInBounds_toArray, List.set_cons_zero, List.set_cons_succ, i64_w, i32_w]
                              rfl
                            refine pure_ (i := 8) (N := some 47) (v := ?_) (a' := ?_) #[true, true, true, true, true, true, true, true, true, false, false] rfl rfl (any_of HT_.out (by kernel_rfl)) (fun _ _ _ h => h) (Or.inl ⟨by rfl, ?_⟩) ?_ ?_
                            rotate_left
                            · intro w'
                              go_simp
                              with_reducible rfl
                            rotate_left
                            · simp only [Act.put, List.setIfInBounds_toArray, List.set_cons_zero, List.set_cons_succ, i64_w, i32_w]
                              rfl
                            refine pure_ (i := 9) (N := some 48) (v := ?_) (a' := ?_) #[true, true, true, true, true, true, true, true, true, true, false] rfl rfl (any_of HT_.out (by kernel_rfl)) (fun _ _ _ h => h) (Or.inl ⟨by rfl, ?_⟩) ?_ ?_
                            rotate_left
                            · intro w'
                              go_simp
                              with_reducible rfl
                            rotate_left
                            · simp only [Act.put, List.setIfInBounds_toArray, List.set_cons_zero, List.set_cons_succ, i64_w, i32_w]
                              rfl
                            refine pure_ (i := 10) (N := some 49) (v := ?_) (a' := ?_) #[true, true, true, true, true, true, true, true, true, true, true] rfl rfl (any_of HT_.out (by kernel_rfl)) (fun _ _ _ h => h) (Or.inl ⟨by rfl, ?_⟩) ?_ ?_
                            rotate_left
                            · intro w'
                              go_simp
                              with_reducible rfl
                            rotate_left
                            · simp only [Act.put, List.setIfInBounds_toArray, List.set_cons_zero, List.set_cons_succ, i64_w, i32_w]
                              rfl
                            refine done_ (done_of HT_.out (by kernel_rfl)) ?_
                            try go_wp2
                            go_ret
                            exact ⟨by first | rfl | (simp [errW_none, errW_some] <;> rfl) | (simp [*, errW_none, errW_some] <;> rfl), by repeat (first | (with_reducible first | exact HB.out | apply below_alloc | apply pw_below_drewN | apply below_drew1) | exact HB.out)⟩
                          · rw [if_neg c36] at H
                            have c36b0 : decide ((l0.length : Int) < 2) = false := decide_eq_false c36
                            have c36b1 : decide (l0.length < 2) = false := decide_eq_false (by omega)
                            clear c36
                            replace H := Option.bind_eq_some_iff.mp H
                            obtain ⟨t240, A390, H⟩ := H
                            replace H : (if t240 ≤ 256 then ((aumbryref13_Size.f k2 t217).bind fun t241 => (some (decide (t241 ≤ 256)))) else (some false)) = some r := H
                            have A39 := Aside0.mk A390
                            clear A390
                            by_cases c40 : t240 ≤ 256
                            · rw [if_pos c40] at H
                              have c40b0 : decide (t240 ≤ 256) = true := decide_eq_true c40
                              clear c40
                              replace H := Option.bind_eq_some_iff.mp H
                              obtain ⟨t241, A410, H⟩ := H
                              replace H : (some (decide (t241 ≤ 256))) = some r := H
                              have A41 := Aside0.mk A410
                              clear A410
                              obtain rfl := Option.some.inj H
                              try go_wp2
                              have n0_ := Aside0.mk (Kd.R_drew HO_3.out)
                              have n1_ := Aside0.mk (Kd.R_drew HO_4.out)
                              have n2_ := Aside0.mk (below_drew1 HB.out)
                              clear HO_3
                              clear HO_4
                              clear HB
                              have HO_3 := n0_
                              have HO_4 := n1_
                              have HB := n2_
                              clear n0_ n1_ n2_
                              have q43 : ((wrap64 (x36_2 + 1)) : Int) ≤ ((l0.length : Int) : Int) := of_decide_eq_true (by first | (with_reducible assumption) | assumption)
                              obtain ⟨i043, hi043, _, hsz43, _⟩ := info_parts info78
                              have hroom43 : l0.length ≤ c0 := HC0.out
                              have hC43 : Kd.C k78 _ A0 l0.length l0 := HR0.out
                              have ql43 : (x36_2 : Int) ≤ ((wrap64 (x36_2 + 1)) : Int) := of_decide_eq_true (by first | (with_reducible assumption) | assumption)
                              have q043 : (0 : Int) ≤ (x36_2 : Int) := of_decide_eq_true (by first | (with_reducible assumption) | assumption)
                              have hcut43 := cut_mid (P := Try.prog) 22 78 .i64 .i64 Try.underlying22 hi043 2 hsz43 A0 l0.length c0 x36_2 (wrap64 (x36_2 + 1)) q043 ql43 q43 hroom43
                              have hr43 := Kd.C_mid (lo := (x36_2 : Int).toNat) (hi := ((wrap64 (x36_2 + 1)) : Int).toNat) (c := c0) hC43 (by omega) (by omega) hroom43
                              obtain ⟨A43, hA43⟩ : ∃ A1, A1 = (if c0 = (x36_2 : Int).toNat then A0 else (A0 : Option Addr).map (·.add ((x36_2 : Int).toNat * 2))) := ⟨_, rfl⟩
                              obtain ⟨c43, hc43⟩ : ∃ c1, c1 = c0 - (x36_2 : Int).toNat := ⟨_, rfl⟩
                              have hy43 : y235.length = ((wrap64 (x36_2 + 1)) : Int).toNat - (x36_2 : Int).toNat := (by rw [Ny235.out, List.length_drop, List.length_take] <;> omega)
                              rw [show ((l0).take ((wrap64 (x36_2 + 1)) : Int).toNat).drop (x36_2 : Int).toNat = y235 from Ny235.out.symm] at hr43
                              replace hr43 : Kd.C k78 _ A43 y235.length y235 := (by rw [hA43]; exact hr43)
                              rw [← hy43, ← hA43, ← hc43] at hcut43
                              have HR238 := Aside0.mk hr43
                              have HC238 := Aside0.mk (show y235.length ≤ c43 from by rw [hy43, hc43]; exact Nat.sub_le_sub_right (Nat.le_trans (by omega) hroom43) _)
                              clear hr43 hC43 hroom43 hi043 hsz43 hc43
                              have KY43 := Aside0.mk hy43
                              have KA43 := Aside0.mk hA43
                              clear hy43 hA43
                              replace q43 := eq_true q43
                              refine start_ (n := 11) (S := fun w' => True) (ds := []) #[false, false, false, false, false, false, false, false, false, false, false] (by kernel_rfl) rfl rfl trivial (fun hHeld => ?_); refine with_tabW aumbrylaw13_LeafCuts.tab12 aumbrylaw13_LeafCuts.bits12 (fun HT_ HW_ => ?_)
                              generalize wr.drew = w42 at HO_3 HO_4 HB HR238 hHeld ⊢
                              refine pure_ (i := 0) (N := some 39) (v := ?_) (a' := ?_) #[true, false, false, false, false, false, false, false, false, false, false] rfl rfl (any_of HT_.out (by kernel_rfl)) (fun _ _ _ h => h) (Or.inl ⟨by rfl, ?_⟩) ?_ ?_
                              rotate_left
                              · intro w'
                                go_simp
                                with_reducible rfl
                              rotate_left
                              · simp only [Act.put, List.setIfInBounds_toArray, List.set_cons_zero, List.set_cons_succ, i64_w, i32_w]
                                rfl
                              refine pure_ (i := 2) (N := some 41) (v := ?_) (a' := ?_) #[true, false, true, false, false, false, false, false, false, false, false] rfl rfl (any_of HT_.out (by kernel_rfl)) (fun _ _ _ h => h) (Or.inl ⟨by rfl, ?_⟩) ?_ ?_
                              rotate_left
                              · intro w'
                                go_simp
                                with_reducible rfl
                              rotate_left
                              · simp only [Act.put, List.setIfInBounds_toArray, List.set_cons_zero, List.set_cons_succ, i64_w, i32_w]
                                rfl
                              refine pure_ (i := 3) (N := some 42) (v := ?_) (a' := ?_) #[true, false, true, true, false, false, false, false, false, false, false] rfl rfl (any_of HT_.out (by kernel_rfl)) (fun _ _ _ h => h) (Or.inl ⟨by rfl, ?_⟩) ?_ ?_
                              rotate_left
                              · intro w'
                                go_simp
                                with_reducible rfl
                              rotate_left
                              · simp only [Act.put, List.setIfInBounds_toArray, List.set_cons_zero, List.set_cons_succ, i64_w, i32_w]
                                rfl
                              refine pure_ (i := 4) (N := some 43) (v := ?_) (a' := ?_) #[true, false, true, true, true, false, false, false, false, false, false] rfl rfl (any_of HT_.out (by kernel_rfl)) (fun _ _ _ h => h) (Or.inl ⟨by rfl, ?_⟩) ?_ ?_
                              rotate_left
                              · intro w'
                                go_simp
                                with_reducible rfl
                              rotate_left
                              · simp only [Act.put, List.setIfInBounds_toArray, List.set_cons_zero, List.set_cons_succ, i64_w, i32_w]
                                rfl
                              refine pure_ (i := 5) (N := some 44) (v := ?_) (a' := ?_) #[true, false, true, true, true, true, false, false, false, false, false] rfl rfl (any_of HT_.out (by kernel_rfl)) (fun _ _ _ h => h) (Or.inl ⟨by rfl, ?_⟩) ?_ ?_
                              rotate_left
                              · intro w'
                                go_simp
                                with_reducible rfl
                              rotate_left
                              · simp only [Act.put, List.setIfInBounds_toArray, List.set_cons_zero, List.set_cons_succ, i64_w, i32_w]
                                rfl
                              refine pure_ (i := 6) (N := some 45) (v := ?_) (a' := ?_) #[true, false, true, true, true, true, true, false, false, false, false] rfl rfl (any_of HT_.out (by kernel_rfl)) (fun _ _ _ h => h) (Or.inl ⟨by rfl, ?_⟩) ?_ ?_
                              rotate_left
                              · intro w'
                                go_simp
                                with_reducible rfl
                              rotate_left
                              · simp only [Act.put, List.setIfInBounds_toArray, List.set_cons_zero, List.set_cons_succ, i64_w, i32_w]
                                rfl
                              refine one_ (i := 1) (N := some 40) #[true, true, true, true, true, true, true, false, false, false, false] rfl rfl (one_of HT_.out (by kernel_rfl)) (by decide) (fun K hK => ?_)
                              refine goes_ Try.func19 (by kernel_rfl) rfl #[.slice A0 l0.length c0] (by rfl) rfl rfl (by (try simp only [List.map_toArray, List.map_cons, List.map_nil]); first | done | rfl | (simp only [List.length_drop, List.length_take]; rfl)) ?_
                              with_reducible refine (aumbryref13_Size.calls k2 _ _ l0 t234 _ ?side1 ?side2 A30.out).mono ?_
                              (case side1 => repeat (first | exact (Kd.C_below HR0.out HB.out) | (with_reducible refine Kd.C_alloc ?_ _) | (with_reducible refine Kd.C_drewN ?_ _) | (with_reducible refine Kd.C_drew ?_)))
                              (case side2 => exact HC0.out)
                              rintro e w' ⟨rfl, ⟨nd, rfl⟩⟩
                              refine ⟨_, rfl, ?_⟩
                              refine hK.out _ _ trivial (fun hHeld => ?_)
                              clear hK K
                              refine norm_ (a' := ?_) ?_ ?_
                              rotate_left
                              · show Act.put _ (some 40) _ = _
                                simp only [Act.put, List.setIfInBounds_toArray, List.set_cons_zero, List.set_cons_succ, i64_w, i32_w]
                                rfl
                              refine one_ (i := 7) (N := some 46) #[true, true, true, true, true, true, true, true, false, false, false] rfl rfl (one_of HT_.out (by kernel_rfl)) (by decide) (fun K hK => ?_)
                              refine goes_ Try.func19 (by kernel_rfl) rfl #[.slice A43 y235.length c43] (by rfl) rfl rfl (by (try simp only [List.map_toArray, List.map_cons, List.map_nil]); first | done | rfl | (simp only [List.length_drop, List.length_take]; rfl)) ?_
                              with_reducible refine (aumbryref13_Size.calls k2 _ _ y235 t239 _ ?side1 ?side2 A34.out).mono ?_
                              (case side1 => repeat (first | exact (Kd.C_below HR238.out (by repeat (first | (with_reducible first | exact HB.out | apply below_alloc | apply pw_below_drewN | apply below_drew1) | exact HB.out))) | (with_reducible refine Kd.C_alloc ?_ _) | (with_reducible refine Kd.C_drewN ?_ _) | (with_reducible refine Kd.C_drew ?_)))
                              (case side2 => exact HC238.out)
                              rintro e w' ⟨rfl, ⟨nd, rfl⟩⟩
                              refine ⟨_, rfl, ?_⟩
                              refine hK.out _ _ trivial (fun hHeld => ?_)
                              clear hK K
                              refine norm_ (a' := ?_) ?_ ?_
                              rotate_left
                              · show Act.put _ (some 46) _ = _
                                simp only [Act.put, List.setIfInBounds_toArray, List.set_cons_zero, List.set_cons_succ, i64_w, i32_w]
                                rfl
                              refine pure_ (i := 8) (N := some 47) (v := ?_) (a' := ?_) #[true, true, true, true, true, true, true, true, true, false, false] rfl rfl (any_of HT_.out (by kernel_rfl)) (fun _ _ _ h => h) (Or.inl ⟨by rfl, ?_⟩) ?_ ?_
                              rotate_left
                              · intro w'
                                go_simp
                                with_reducible rfl
                              rotate_left
                              · simp only [Act.put, List.setIfInBounds_toArray, List.set_cons_zero, List.set_cons_succ, i64_w, i32_w]
                                rfl
                              refine pure_ (i := 9) (N := some 48) (v := ?_) (a' := ?_) #[true, true, true, true, true, true, true, true, true, true, false] rfl rfl (any_of HT_.out (by kernel_rfl)) (fun _ _ _ h => h) (Or.inl ⟨by rfl, ?_⟩) ?_ ?_
                              rotate_left
                              · intro w'
                                go_simp
                                with_reducible rfl
                              rotate_left
                              · simp only [Act.put, List.setIfInBounds_toArray, List.set_cons_zero, List.set_cons_succ, i64_w, i32_w]
                                rfl
                              refine pure_ (i := 10) (N := some 49) (v := ?_) (a' := ?_) #[true, true, true, true, true, true, true, true, true, true, true] rfl rfl (any_of HT_.out (by kernel_rfl)) (fun _ _ _ h => h) (Or.inl ⟨by rfl, ?_⟩) ?_ ?_
                              rotate_left
                              · intro w'
                                go_simp
                                with_reducible rfl
                              rotate_left
                              · simp only [Act.put, List.setIfInBounds_toArray, List.set_cons_zero, List.set_cons_succ, i64_w, i32_w]
                                rfl
                              refine done_ (done_of HT_.out (by kernel_rfl)) ?_
                              obtain ⟨Ao44, co44, eo44⟩ := Kd.R_slice HO_3.out
                              subst eo44
                              try go_wp2_with (first | (go_at_call 19; (with_reducible refine (aumbryref13_Size.calls k2 _ _ t216 t240 _ ?side1 ?side2 A39.out).mono ?_); (case side1 => repeat (first | exact (Kd.R_reads' HO_3.out).2.2 | (with_reducible refine Kd.C_alloc ?_ _) | (with_reducible refine Kd.C_drewN ?_ _) | (with_reducible refine Kd.C_drew ?_))); (case side2 => exact (Kd.R_reads' HO_3.out).2.1); rintro e w' ⟨rfl, ⟨nd, rfl⟩⟩; obtain ⟨Ao45, co45, eo45⟩ := Kd.R_slice HO_4.out; subst eo45) | (go_at_call 19; (with_reducible refine (aumbryref13_Size.calls k2 _ _ t217 t241 _ ?side1 ?side2 A41.out).mono ?_); (case side1 => repeat (first | exact (Kd.R_reads' HO_4.out).2.2 | (with_reducible refine Kd.C_alloc ?_ _) | (with_reducible refine Kd.C_drewN ?_ _) | (with_reducible refine Kd.C_drew ?_))); (case side2 => exact (Kd.R_reads' HO_4.out).2.1); rintro e w' ⟨rfl, ⟨nd, rfl⟩⟩))
                              go_ret
                              exact ⟨by first | rfl | (simp [errW_none, errW_some] <;> rfl) | (simp [*, errW_none, errW_some] <;> rfl), by repeat (first | (with_reducible first | exact HB.out | apply below_alloc | apply pw_below_drewN | apply below_drew1) | exact HB.out)⟩
                            · rw [if_neg c40] at H
                              have c40b0 : decide (t240 ≤ 256) = false := decide_eq_false c40
                              clear c40
                              obtain rfl := Option.some.inj H
                              try go_wp2
                              have n0_ := Aside0.mk (Kd.R_drew HO_3.out)
                              have n1_ := Aside0.mk (Kd.R_drew HO_4.out)
                              have n2_ := Aside0.mk (below_drew1 HB.out)
                              clear HO_3
                              clear HO_4
                              clear HB
                              have HO_3 := n0_
                              have HO_4 := n1_
                              have HB := n2_
                              clear n0_ n1_ n2_
                              have q47 : ((wrap64 (x36_2 + 1)) : Int) ≤ ((l0.length : Int) : Int) := of_decide_eq_true (by first | (with_reducible assumption) | assumption)
                              obtain ⟨i047, hi047, _, hsz47, _⟩ := info_parts info78
                              have hroom47 : l0.length ≤ c0 := HC0.out
                              have hC47 : Kd.C k78 _ A0 l0.length l0 := HR0.out
                              have ql47 : (x36_2 : Int) ≤ ((wrap64 (x36_2 + 1)) : Int) := of_decide_eq_true (by first | (with_reducible assumption) | assumption)
                              have q047 : (0 : Int) ≤ (x36_2 : Int) := of_decide_eq_true (by first | (with_reducible assumption) | assumption)
                              have hcut47 := cut_mid (P := Try.prog) 22 78 .i64 .i64 Try.underlying22 hi047 2 hsz47 A0 l0.length c0 x36_2 (wrap64 (x36_2 + 1)) q047 ql47 q47 hroom47
                              have hr47 := Kd.C_mid (lo := (x36_2 : Int).toNat) (hi := ((wrap64 (x36_2 + 1)) : Int).toNat) (c := c0) hC47 (by omega) (by omega) hroom47
                              obtain ⟨A47, hA47⟩ : ∃ A1, A1 = (if c0 = (x36_2 : Int).toNat then A0 else (A0 : Option Addr).map (·.add ((x36_2 : Int).toNat * 2))) := ⟨_, rfl⟩
                              obtain ⟨c47, hc47⟩ : ∃ c1, c1 = c0 - (x36_2 : Int).toNat := ⟨_, rfl⟩
                              have hy47 : y235.length = ((wrap64 (x36_2 + 1)) : Int).toNat - (x36_2 : Int).toNat := (by rw [Ny235.out, List.length_drop, List.length_take] <;> omega)
                              rw [show ((l0).take ((wrap64 (x36_2 + 1)) : Int).toNat).drop (x36_2 : Int).toNat = y235 from Ny235.out.symm] at hr47
                              replace hr47 : Kd.C k78 _ A47 y235.length y235 := (by rw [hA47]; exact hr47)
                              rw [← hy47, ← hA47, ← hc47] at hcut47
                              have HR238 := Aside0.mk hr47
                              have HC238 := Aside0.mk (show y235.length ≤ c47 from by rw [hy47, hc47]; exact Nat.sub_le_sub_right (Nat.le_trans (by omega) hroom47) _)
                              clear hr47 hC47 hroom47 hi047 hsz47 hc47
                              have KY47 := Aside0.mk hy47
                              have KA47 := Aside0.mk hA47
                              clear hy47 hA47
                              replace q47 := eq_true q47
                              refine start_ (n := 11) (S := fun w' => True) (ds := []) #[false, false, false, false, false, false, false, false, false, false, false] (by kernel_rfl) rfl rfl trivial (fun hHeld => ?_); refine with_tabW aumbrylaw13_LeafCuts.tab12 aumbrylaw13_LeafCuts.bits12 (fun HT_ HW_ => ?_)
                              generalize wr.drew = w46 at HO_3 HO_4 HB HR238 hHeld ⊢
                              refine pure_ (i := 0) (N := some 39) (v := ?_) (a' := ?_) #[true, false, false, false, false, false, false, false, false, false, false] rfl rfl (any_of HT_.out (by kernel_rfl)) (fun _ _ _ h => h) (Or.inl ⟨by rfl, ?_⟩) ?_ ?_
                              rotate_left
                              · intro w'
                                go_simp
                                with_reducible rfl
                              rotate_left
                              · simp only [Act.put, List.setIfInBounds_toArray, List.set_cons_zero, List.set_cons_succ, i64_w, i32_w]
                                rfl
                              refine pure_ (i := 2) (N := some 41) (v := ?_) (a' := ?_) #[true, false, true, false, false, false, false, false, false, false, false] rfl rfl (any_of HT_.out (by kernel_rfl)) (fun _ _ _ h => h) (Or.inl ⟨by rfl, ?_⟩) ?_ ?_
                              rotate_left
                              · intro w'
                                go_simp
                                with_reducible rfl
                              rotate_left
                              · simp only [Act.put, List.setIfInBounds_toArray, List.set_cons_zero, List.set_cons_succ, i64_w, i32_w]
                                rfl
                              refine pure_ (i := 3) (N := some 42) (v := ?_) (a' := ?_) #[true, false, true, true, false, false, false, false, false, false, false] rfl rfl (any_of HT_.out (by kernel_rfl)) (fun _ _ _ h => h) (Or.inl ⟨by rfl, ?_⟩) ?_ ?_
                              rotate_left
                              · intro w'
                                go_simp
                                with_reducible rfl
                              rotate_left
                              · simp only [Act.put, List.setIfInBounds_toArray, List.set_cons_zero, List.set_cons_succ, i64_w, i32_w]
                                rfl
                              refine pure_ (i := 4) (N := some 43) (v := ?_) (a' := ?_) #[true, false, true, true, true, false, false, false, false, false, false] rfl rfl (any_of HT_.out (by kernel_rfl)) (fun _ _ _ h => h) (Or.inl ⟨by rfl, ?_⟩) ?_ ?_
                              rotate_left
                              · intro w'
                                go_simp
                                with_reducible rfl
                              rotate_left
                              · simp only [Act.put, List.setIfInBounds_toArray, List.set_cons_zero, List.set_cons_succ, i64_w, i32_w]
                                rfl
                              refine pure_ (i := 5) (N := some 44) (v := ?_) (a' := ?_) #[true, false, true, true, true, true, false, false, false, false, false] rfl rfl (any_of HT_.out (by kernel_rfl)) (fun _ _ _ h => h) (Or.inl ⟨by rfl, ?_⟩) ?_ ?_
                              rotate_left
                              · intro w'
                                go_simp
                                with_reducible rfl
                              rotate_left
                              · simp only [Act.put, List.setIfInBounds_toArray, List.set_cons_zero, List.set_cons_succ, i64_w, i32_w]
                                rfl
                              refine pure_ (i := 6) (N := some 45) (v := ?_) (a' := ?_) #[true, false, true, true, true, true, true, false, false, false, false] rfl rfl (any_of HT_.out (by kernel_rfl)) (fun _ _ _ h => h) (Or.inl ⟨by rfl, ?_⟩) ?_ ?_
                              rotate_left
                              · intro w'
                                go_simp
                                with_reducible rfl
                              rotate_left
                              · simp only [Act.put, List.setIfInBounds_toArray, List.set_cons_zero, List.set_cons_succ, i64_w, i32_w]
                                rfl
                              refine one_ (i := 1) (N := some 40) #[true, true, true, true, true, true, true, false, false, false, false] rfl rfl (one_of HT_.out (by kernel_rfl)) (by decide) (fun K hK => ?_)
                              refine goes_ Try.func19 (by kernel_rfl) rfl #[.slice A0 l0.length c0] (by rfl) rfl rfl (by (try simp only [List.map_toArray, List.map_cons, List.map_nil]); first | done | rfl | (simp only [List.length_drop, List.length_take]; rfl)) ?_
                              with_reducible refine (aumbryref13_Size.calls k2 _ _ l0 t234 _ ?side1 ?side2 A30.out).mono ?_
                              (case side1 => repeat (first | exact (Kd.C_below HR0.out HB.out) | (with_reducible refine Kd.C_alloc ?_ _) | (with_reducible refine Kd.C_drewN ?_ _) | (with_reducible refine Kd.C_drew ?_)))
                              (case side2 => exact HC0.out)
                              rintro e w' ⟨rfl, ⟨nd, rfl⟩⟩
                              refine ⟨_, rfl, ?_⟩
                              refine hK.out _ _ trivial (fun hHeld => ?_)
                              clear hK K
                              refine norm_ (a' := ?_) ?_ ?_
                              rotate_left
                              · show Act.put _ (some 40) _ = _
                                simp only [Act.put, List.setIfInBounds_toArray, List.set_cons_zero, List.set_cons_succ, i64_w, i32_w]
                                rfl
                              refine one_ (i := 7) (N := some 46) #[true, true, true, true, true, true, true, true, false, false, false] rfl rfl (one_of HT_.out (by kernel_rfl)) (by decide) (fun K hK => ?_)
                              refine goes_ Try.func19 (by kernel_rfl) rfl #[.slice A47 y235.length c47] (by rfl) rfl rfl (by (try simp only [List.map_toArray, List.map_cons, List.map_nil]); first | done | rfl | (simp only [List.length_drop, List.length_take]; rfl)) ?_
                              with_reducible refine (aumbryref13_Size.calls k2 _ _ y235 t239 _ ?side1 ?side2 A34.out).mono ?_
                              (case side1 => repeat (first | exact (Kd.C_below HR238.out (by repeat (first | (with_reducible first | exact HB.out | apply below_alloc | apply pw_below_drewN | apply below_drew1) | exact HB.out))) | (with_reducible refine Kd.C_alloc ?_ _) | (with_reducible refine Kd.C_drewN ?_ _) | (with_reducible refine Kd.C_drew ?_)))
                              (case side2 => exact HC238.out)
                              rintro e w' ⟨rfl, ⟨nd, rfl⟩⟩
                              refine ⟨_, rfl, ?_⟩
                              refine hK.out _ _ trivial (fun hHeld => ?_)
                              clear hK K
                              refine norm_ (a' := ?_) ?_ ?_
                              rotate_left
                              · show Act.put _ (some 46) _ = _
                                simp only [Act.put, List.setIfInBounds_toArray, List.set_cons_zero, List.set_cons_succ, i64_w, i32_w]
                                rfl
                              refine pure_ (i := 8) (N := some 47) (v := ?_) (a' := ?_) #[true, true, true, true, true, true, true, true, true, false, false] rfl rfl (any_of HT_.out (by kernel_rfl)) (fun _ _ _ h => h) (Or.inl ⟨by rfl, ?_⟩) ?_ ?_
                              rotate_left
                              · intro w'
                                go_simp
                                with_reducible rfl
                              rotate_left
                              · simp only [Act.put, List.setIfInBounds_toArray, List.set_cons_zero, List.set_cons_succ, i64_w, i32_w]
                                rfl
                              refine pure_ (i := 9) (N := some 48) (v := ?_) (a' := ?_) #[true, true, true, true, true, true, true, true, true, true, false] rfl rfl (any_of HT_.out (by kernel_rfl)) (fun _ _ _ h => h) (Or.inl ⟨by rfl, ?_⟩) ?_ ?_
                              rotate_left
                              · intro w'
                                go_simp
                                with_reducible rfl
                              rotate_left
                              · simp only [Act.put, List.setIfInBounds_toArray, List.set_cons_zero, List.set_cons_succ, i64_w, i32_w]
                                rfl
                              refine pure_ (i := 10) (N := some 49) (v := ?_) (a' := ?_) #[true, true, true, true, true, true, true, true, true, true, true] rfl rfl (any_of HT_.out (by kernel_rfl)) (fun _ _ _ h => h) (Or.inl ⟨by rfl, ?_⟩) ?_ ?_
                              rotate_left
                              · intro w'
                                go_simp
                                with_reducible rfl
                              rotate_left
                              · simp only [Act.put, List.setIfInBounds_toArray, List.set_cons_zero, List.set_cons_succ, i64_w, i32_w]
                                rfl
                              refine done_ (done_of HT_.out (by kernel_rfl)) ?_
                              obtain ⟨Ao48, co48, eo48⟩ := Kd.R_slice HO_3.out
                              subst eo48
                              try go_wp2_with (first | (go_at_call 19; (with_reducible refine (aumbryref13_Size.calls k2 _ _ t216 t240 _ ?side1 ?side2 A39.out).mono ?_); (case side1 => repeat (first | exact (Kd.R_reads' HO_3.out).2.2 | (with_reducible refine Kd.C_alloc ?_ _) | (with_reducible refine Kd.C_drewN ?_ _) | (with_reducible refine Kd.C_drew ?_))); (case side2 => exact (Kd.R_reads' HO_3.out).2.1); rintro e w' ⟨rfl, ⟨nd, rfl⟩⟩))
                              go_ret
                              exact ⟨by first | rfl | (simp [errW_none, errW_some] <;> rfl) | (simp [*, errW_none, errW_some] <;> rfl), by repeat (first | (with_reducible first | exact HB.out | apply below_alloc | apply pw_below_drewN | apply below_drew1) | exact HB.out)⟩
                        · rw [if_neg c35] at H
                          have c35b0 : decide ((wrap64 ((wrap64 (t234 - t239)) + 2)) ≤ 256) = false := decide_eq_false c35
                          clear c35
                          have H' := Aside0.mk H
                          clear H
                          try go_wp2
                          have n0_ := Aside0.mk (Kd.R_drew HO_3.out)
                          have n1_ := Aside0.mk (Kd.R_drew HO_4.out)
                          have n2_ := Aside0.mk (below_drew1 HB.out)
                          clear HO_3
                          clear HO_4
                          clear HB
                          have HO_3 := n0_
                          have HO_4 := n1_
                          have HB := n2_
                          clear n0_ n1_ n2_
                          have q50 : ((wrap64 (x36_2 + 1)) : Int) ≤ ((l0.length : Int) : Int) := of_decide_eq_true (by first | (with_reducible assumption) | assumption)
                          obtain ⟨i050, hi050, _, hsz50, _⟩ := info_parts info78
                          have hroom50 : l0.length ≤ c0 := HC0.out
                          have hC50 : Kd.C k78 _ A0 l0.length l0 := HR0.out
                          have ql50 : (x36_2 : Int) ≤ ((wrap64 (x36_2 + 1)) : Int) := of_decide_eq_true (by first | (with_reducible assumption) | assumption)
                          have q050 : (0 : Int) ≤ (x36_2 : Int) := of_decide_eq_true (by first | (with_reducible assumption) | assumption)
                          have hcut50 := cut_mid (P := Try.prog) 22 78 .i64 .i64 Try.underlying22 hi050 2 hsz50 A0 l0.length c0 x36_2 (wrap64 (x36_2 + 1)) q050 ql50 q50 hroom50
                          have hr50 := Kd.C_mid (lo := (x36_2 : Int).toNat) (hi := ((wrap64 (x36_2 + 1)) : Int).toNat) (c := c0) hC50 (by omega) (by omega) hroom50
                          obtain ⟨A50, hA50⟩ : ∃ A1, A1 = (if c0 = (x36_2 : Int).toNat then A0 else (A0 : Option Addr).map (·.add ((x36_2 : Int).toNat * 2))) := ⟨_, rfl⟩
                          obtain ⟨c50, hc50⟩ : ∃ c1, c1 = c0 - (x36_2 : Int).toNat := ⟨_, rfl⟩
                          have hy50 : y235.length = ((wrap64 (x36_2 + 1)) : Int).toNat - (x36_2 : Int).toNat := (by rw [Ny235.out, List.length_drop, List.length_take] <;> omega)
                          rw [show ((l0).take ((wrap64 (x36_2 + 1)) : Int).toNat).drop (x36_2 : Int).toNat = y235 from Ny235.out.symm] at hr50
                          replace hr50 : Kd.C k78 _ A50 y235.length y235 := (by rw [hA50]; exact hr50)
                          rw [← hy50, ← hA50, ← hc50] at hcut50
                          have HR238 := Aside0.mk hr50
                          have HC238 := Aside0.mk (show y235.length ≤ c50 from by rw [hy50, hc50]; exact Nat.sub_le_sub_right (Nat.le_trans (by omega) hroom50) _)
                          clear hr50 hC50 hroom50 hi050 hsz50 hc50
                          have KY50 := Aside0.mk hy50
                          have KA50 := Aside0.mk hA50
                          clear hy50 hA50
                          replace q50 := eq_true q50
                          refine start_ (n := 11) (S := fun w' => True) (ds := []) #[false, false, false, false, false, false, false, false, false, false, false] (by kernel_rfl) rfl rfl trivial (fun hHeld => ?_); refine with_tabW aumbrylaw13_LeafCuts.tab12 aumbrylaw13_LeafCuts.bits12 (fun HT_ HW_ => ?_)
                          generalize wr.drew = w49 at HO_3 HO_4 HB HR238 hHeld ⊢
                          refine pure_ (i := 0) (N := some 39) (v := ?_) (a' := ?_) #[true, false, false, false, false, false, false, false, false, false, false] rfl rfl (any_of HT_.out (by kernel_rfl)) (fun _ _ _ h => h) (Or.inl ⟨by rfl, ?_⟩) ?_ ?_
                          rotate_left
                          · intro w'
                            go_simp
                            with_reducible rfl
                          rotate_left
                          · simp only [Act.put, List.setIfInBounds_toArray, List.set_cons_zero, List.set_cons_succ, i64_w, i32_w]
                            rfl
                          refine pure_ (i := 2) (N := some 41) (v := ?_) (a' := ?_) #[true, false, true, false, false, false, false, false, false, false, false] rfl rfl (any_of HT_.out (by kernel_rfl)) (fun _ _ _ h => h) (Or.inl ⟨by rfl, ?_⟩) ?_ ?_
                          rotate_left
                          · intro w'
                            go_simp
                            with_reducible rfl
                          rotate_left
                          · simp only [Act.put, List.setIfInBounds_toArray, List.set_cons_zero, List.set_cons_succ, i64_w, i32_w]
                            rfl
                          refine pure_ (i := 3) (N := some 42) (v := ?_) (a' := ?_) #[true, false, true, true, false, false, false, false, false, false, false] rfl rfl (any_of HT_.out (by kernel_rfl)) (fun _ _ _ h => h) (Or.inl ⟨by rfl, ?_⟩) ?_ ?_
                          rotate_left
                          · intro w'
                            go_simp
                            with_reducible rfl
                          rotate_left
                          · simp only [Act.put, List.setIfInBounds_toArray, List.set_cons_zero, List.set_cons_succ, i64_w, i32_w]
                            rfl
                          refine pure_ (i := 4) (N := some 43) (v := ?_) (a' := ?_) #[true, false, true, true, true, false, false, false, false, false, false] rfl rfl (any_of HT_.out (by kernel_rfl)) (fun _ _ _ h => h) (Or.inl ⟨by rfl, ?_⟩) ?_ ?_
                          rotate_left
                          · intro w'
                            go_simp
                            with_reducible rfl
                          rotate_left
                          · simp only [Act.put, List.setIfInBounds_toArray, List.set_cons_zero, List.set_cons_succ, i64_w, i32_w]
                            rfl
                          refine pure_ (i := 5) (N := some 44) (v := ?_) (a' := ?_) #[true, false, true, true, true, true, false, false, false, false, false] rfl rfl (any_of HT_.out (by kernel_rfl)) (fun _ _ _ h => h) (Or.inl ⟨by rfl, ?_⟩) ?_ ?_
                          rotate_left
                          · intro w'
                            go_simp
                            with_reducible rfl
                          rotate_left
                          · simp only [Act.put, List.setIfInBounds_toArray, List.set_cons_zero, List.set_cons_succ, i64_w, i32_w]
                            rfl
                          refine pure_ (i := 6) (N := some 45) (v := ?_) (a' := ?_) #[true, false, true, true, true, true, true, false, false, false, false] rfl rfl (any_of HT_.out (by kernel_rfl)) (fun _ _ _ h => h) (Or.inl ⟨by rfl, ?_⟩) ?_ ?_
                          rotate_left
                          · intro w'
                            go_simp
                            with_reducible rfl
                          rotate_left
                          · simp only [Act.put, List.setIfInBounds_toArray, List.set_cons_zero, List.set_cons_succ, i64_w, i32_w]
                            rfl
                          refine one_ (i := 1) (N := some 40) #[true, true, true, true, true, true, true, false, false, false, false] rfl rfl (one_of HT_.out (by kernel_rfl)) (by decide) (fun K hK => ?_)
                          refine goes_ Try.func19 (by kernel_rfl) rfl #[.slice A0 l0.length c0] (by rfl) rfl rfl (by (try simp only [List.map_toArray, List.map_cons, List.map_nil]); first | done | rfl | (simp only [List.length_drop, List.length_take]; rfl)) ?_
                          with_reducible refine (aumbryref13_Size.calls k2 _ _ l0 t234 _ ?side1 ?side2 A30.out).mono ?_
                          (case side1 => repeat (first | exact (Kd.C_below HR0.out HB.out) | (with_reducible refine Kd.C_alloc ?_ _) | (with_reducible refine Kd.C_drewN ?_ _) | (with_reducible refine Kd.C_drew ?_)))
                          (case side2 => exact HC0.out)
                          rintro e w' ⟨rfl, ⟨nd, rfl⟩⟩
                          refine ⟨_, rfl, ?_⟩
                          refine hK.out _ _ trivial (fun hHeld => ?_)
                          clear hK K
                          refine norm_ (a' := ?_) ?_ ?_
                          rotate_left
                          · show Act.put _ (some 40) _ = _
                            simp only [Act.put, List.setIfInBounds_toArray, List.set_cons_zero, List.set_cons_succ, i64_w, i32_w]
                            rfl
                          refine one_ (i := 7) (N := some 46) #[true, true, true, true, true, true, true, true, false, false, false] rfl rfl (one_of HT_.out (by kernel_rfl)) (by decide) (fun K hK => ?_)
                          refine goes_ Try.func19 (by kernel_rfl) rfl #[.slice A50 y235.length c50] (by rfl) rfl rfl (by (try simp only [List.map_toArray, List.map_cons, List.map_nil]); first | done | rfl | (simp only [List.length_drop, List.length_take]; rfl)) ?_
                          with_reducible refine (aumbryref13_Size.calls k2 _ _ y235 t239 _ ?side1 ?side2 A34.out).mono ?_
                          (case side1 => repeat (first | exact (Kd.C_below HR238.out (by repeat (first | (with_reducible first | exact HB.out | apply below_alloc | apply pw_below_drewN | apply below_drew1) | exact HB.out))) | (with_reducible refine Kd.C_alloc ?_ _) | (with_reducible refine Kd.C_drewN ?_ _) | (with_reducible refine Kd.C_drew ?_)))
                          (case side2 => exact HC238.out)
                          rintro e w' ⟨rfl, ⟨nd, rfl⟩⟩
                          refine ⟨_, rfl, ?_⟩
                          refine hK.out _ _ trivial (fun hHeld => ?_)
                          clear hK K
                          refine norm_ (a' := ?_) ?_ ?_
                          rotate_left
                          · show Act.put _ (some 46) _ = _
                            simp only [Act.put, List.setIfInBounds_toArray, List.set_cons_zero, List.set_cons_succ, i64_w, i32_w]
                            rfl
                          refine pure_ (i := 8) (N := some 47) (v := ?_) (a' := ?_) #[true, true, true, true, true, true, true, true, true, false, false] rfl rfl (any_of HT_.out (by kernel_rfl)) (fun _ _ _ h => h) (Or.inl ⟨by rfl, ?_⟩) ?_ ?_
                          rotate_left
                          · intro w'
                            go_simp
                            with_reducible rfl
                          rotate_left
                          · simp only [Act.put, List.setIfInBounds_toArray, List.set_cons_zero, List.set_cons_succ, i64_w, i32_w]
                            rfl
                          refine pure_ (i := 9) (N := some 48) (v := ?_) (a' := ?_) #[true, true, true, true, true, true, true, true, true, true, false] rfl rfl (any_of HT_.out (by kernel_rfl)) (fun _ _ _ h => h) (Or.inl ⟨by rfl, ?_⟩) ?_ ?_
                          rotate_left
                          · intro w'
                            go_simp
                            with_reducible rfl
                          rotate_left
                          · simp only [Act.put, List.setIfInBounds_toArray, List.set_cons_zero, List.set_cons_succ, i64_w, i32_w]
                            rfl
                          refine pure_ (i := 10) (N := some 49) (v := ?_) (a' := ?_) #[true, true, true, true, true, true, true, true, true, true, true] rfl rfl (any_of HT_.out (by kernel_rfl)) (fun _ _ _ h => h) (Or.inl ⟨by rfl, ?_⟩) ?_ ?_
                          rotate_left
                          · intro w'
                            go_simp
                            with_reducible rfl
                          rotate_left
                          · simp only [Act.put, List.setIfInBounds_toArray, List.set_cons_zero, List.set_cons_succ, i64_w, i32_w]
                            rfl
                          refine done_ (done_of HT_.out (by kernel_rfl)) ?_
                          try go_wp2
                          go_roundg k2
                          case measure => have := HJ8.out; have := HK2.out; omega
                          case rel => exact ⟨(wrap64 (x36_2 + 1)), (by first | rfl | (simp; done) | (simp [*]; done)), H', ⟨by have := HJ8.out; have := HK2.out; omega⟩, ⟨by (with_reducible repeat (first | apply Kd.R_alloc | apply Kd.R_drewN | apply Kd.R_drew)); exact HO_3.out⟩, ⟨by (with_reducible repeat (first | apply Kd.R_alloc | apply Kd.R_drewN | apply Kd.R_drew)); exact HO_4.out⟩, ⟨by repeat (first | (with_reducible first | exact HB.out | apply below_alloc | apply pw_below_drewN | apply below_drew1) | exact HB.out)⟩⟩
                      · rw [if_neg c33] at H
                        exact absurd H (by simp)
                    · rw [if_neg c32] at H
                      exact absurd H (by simp)
                  · rw [if_neg c31] at H
                    exact absurd H (by simp)
                · rw [if_neg c29] at H
                  have c29b0 : decide (x36_2 < (l0.length : Int)) = false := decide_eq_false c29
                  clear c29
                  obtain rfl := Option.some.inj H
                  go_wp2
                  go_ret
                  exact ⟨by first | rfl | (simp [errW_none, errW_some] <;> rfl) | (simp [*, errW_none, errW_some] <;> rfl), by repeat (first | (with_reducible first | exact HB.out | apply below_alloc | apply pw_below_drewN | apply below_drew1) | exact HB.out)⟩
    · rw [if_neg c7] at H
      have c7b0 : (t222 == 0) = false := beq_eq_false_iff_ne.mpr c7
      have c7b1 : (t222 != 0) = true := bne_iff_ne.mpr c7
      obtain rfl := Option.some.inj H
      go_enter Try.func7, Try.ntmps7
      go_wp2_with (first | ((with_reducible refine gate_callee (f := 14) rfl ?_); refine goesL_ (some 7) rfl rfl Try.func14 (by kernel_rfl) rfl #[] rfl (by (try simp only [List.map_toArray, List.map_cons, List.map_nil]); first | done | rfl | (simp only [List.length_drop, List.length_take]; rfl)) ?_; (with_reducible refine (aumbrylaw13_wakes.calls k  true _ A2.out).mono ?_); rintro e w51 ⟨rfl, hb⟩; refine ⟨_, rfl, ?_⟩; have n0_ := Aside0.mk (below_step (by repeat (first | (with_reducible first | exact HB.out | apply below_alloc | apply pw_below_drewN | apply below_drew1) | exact HB.out)) hb); clear HB; have HB := n0_; clear n0_; (try clear hb); (try clear hb2); (try clear hk); (try clear hi)) | ((with_reducible refine gate_callee (f := 16) rfl ?_); refine goesL_ (some 11) rfl rfl Try.func16 (by kernel_rfl) rfl #[.slice A0 l0.length c0] rfl (by (try simp only [List.map_toArray, List.map_cons, List.map_nil]); first | done | rfl | (simp only [List.length_drop, List.length_take]; rfl)) ?_; (with_reducible refine (aumbryref13_Copy.calls _ _ l0 t213 _ ?side1 ?side2 A4.out).mono ?_); (case side1 => repeat (first | exact (Kd.C_below HR0.out HB.out) | (with_reducible refine Kd.C_alloc ?_ _) | (with_reducible refine Kd.C_drewN ?_ _) | (with_reducible refine Kd.C_drew ?_))); (case side2 => exact HC0.out); rintro e w52 ⟨v214, rfl, ho0, hb⟩; refine ⟨_, rfl, ?_⟩; have n0_ := Aside0.mk (Kd.R_lower ho0 (below_size (by repeat (first | (with_reducible first | exact HB.out | apply below_alloc | apply pw_below_drewN | apply below_drew1) | exact HB.out)))); have n1_ := Aside0.mk (below_step (by repeat (first | (with_reducible first | exact HB.out | apply below_alloc | apply pw_below_drewN | apply below_drew1) | exact HB.out)) hb); clear HB; have HO215 := n0_; have HB := n1_; clear n0_ n1_; (try clear hb); (try clear hb2); (try clear hk); (try clear hi); (try clear ho0); obtain ⟨Ao53, co53, eo53⟩ := Kd.R_slice HO215.out; subst eo53) | ((with_reducible refine gate_callee (f := 27) rfl ?_); refine goesL_ (some 12) rfl rfl Try.func27 (by kernel_rfl) rfl #[.slice Ao53 t213.length co53] rfl (by (try simp only [List.map_toArray, List.map_cons, List.map_nil]); first | done | rfl | (simp only [List.length_drop, List.length_take]; rfl)) ?_; (with_reducible refine (leaf_Cut.calls k _ _ t213 t216 t217 _ ?side1 ?side2 A5.out).mono ?_); (case side1 => repeat (first | exact (Kd.R_reads' HO215.out).2.2 | (with_reducible refine Kd.C_alloc ?_ _) | (with_reducible refine Kd.C_drewN ?_ _) | (with_reducible refine Kd.C_drew ?_))); (case side2 => exact (Kd.R_reads' HO215.out).2.1); rintro e w54 ⟨v218, v220, rfl, ho0, ho1, hb⟩; refine ⟨_, rfl, ?_⟩; have n0_ := Aside0.mk (Kd.R_mono (Kd.R_told (Kd.R_told (Kd.R_old (by (with_reducible repeat (first | apply Kd.R_alloc | apply Kd.R_drewN | apply Kd.R_drew)); exact HO215.out) hb) (Kd.R_base ho0)) (Kd.R_base ho1)) (fun _ h_ => h_.1)); have n1_ := Aside0.mk (Kd.R_lower (Kd.R_new' ho0 (Kd.R_lt (by (with_reducible repeat (first | apply Kd.R_alloc | apply Kd.R_drewN | apply Kd.R_drew)); exact HO215.out))) (below_size (by repeat (first | (with_reducible first | exact HB.out | apply below_alloc | apply pw_below_drewN | apply below_drew1) | exact HB.out)))); have n2_ := Aside0.mk (Kd.R_lower (Kd.R_new' ho1 (Kd.R_lt (by (with_reducible repeat (first | apply Kd.R_alloc | apply Kd.R_drewN | apply Kd.R_drew)); exact HO215.out))) (below_size (by repeat (first | (with_reducible first | exact HB.out | apply below_alloc | apply pw_below_drewN | apply below_drew1) | exact HB.out)))); have n3_ := Aside0.mk (below_step (by repeat (first | (with_reducible first | exact HB.out | apply below_alloc | apply pw_below_drewN | apply below_drew1) | exact HB.out)) hb); clear HO215; clear HB; have HO215 := n0_; have HO219 := n1_; have HO221 := n2_; have HB := n3_; clear n0_ n1_ n2_ n3_; (try clear hb); (try clear hb2); (try clear hk); (try clear hi); (try clear ho0); (try clear ho1)) | ((with_reducible refine gate_callee (f := 24) rfl ?_); refine goesL_ (some 16) rfl rfl Try.func24 (by kernel_rfl) rfl #[.slice A0 l0.length c0] rfl (by (try simp only [List.map_toArray, List.map_cons, List.map_nil]); first | done | rfl | (simp only [List.length_drop, List.length_take]; rfl)) ?_; (with_reducible refine (aumbryref13_Right.calls k _ _ l0 t222 _ ?side1 ?side2 A6.out).mono ?_); (case side1 => repeat (first | exact (Kd.C_below HR0.out HB.out) | (with_reducible refine Kd.C_alloc ?_ _) | (with_reducible refine Kd.C_drewN ?_ _) | (with_reducible refine Kd.C_drew ?_))); (case side2 => exact HC0.out); rintro e w' ⟨rfl, ⟨nd, rfl⟩⟩; refine ⟨_, rfl, ?_⟩))
      go_ret
      exact ⟨by first | rfl | (simp [errW_none, errW_some] <;> rfl) | (simp [*, errW_none, errW_some] <;> rfl), by repeat (first | (with_reducible first | exact HB.out | apply below_alloc | apply pw_below_drewN | apply below_drew1) | exact HB.out)⟩
  · replace c3 := Bool.eq_false_iff.mpr c3
    subst c3
    have H1 : (some false) = some r := by rw [if_neg (show ¬ (false = true) by decide)] at H; exact H
    clear H
    have H := H1
    clear H1
    obtain rfl := Option.some.inj H
    go_enter Try.func7, Try.ntmps7
    go_wp2_with (first | ((with_reducible refine gate_callee (f := 14) rfl ?_); refine goesL_ (some 7) rfl rfl Try.func14 (by kernel_rfl) rfl #[] rfl (by (try simp only [List.map_toArray, List.map_cons, List.map_nil]); first | done | rfl | (simp only [List.length_drop, List.length_take]; rfl)) ?_; (with_reducible refine (aumbrylaw13_wakes.calls k  false _ A2.out).mono ?_); rintro e w55 ⟨rfl, hb⟩; refine ⟨_, rfl, ?_⟩; have n0_ := Aside0.mk (below_step (by repeat (first | (with_reducible first | exact HB.out | apply below_alloc | apply pw_below_drewN | apply below_drew1) | exact HB.out)) hb); clear HB; have HB := n0_; clear n0_; (try clear hb); (try clear hb2); (try clear hk); (try clear hi)))
    go_ret
    exact ⟨by first | rfl | (simp [errW_none, errW_some] <;> rfl) | (simp [*, errW_none, errW_some] <;> rfl), by repeat (first | (with_reducible first | exact HB.out | apply below_alloc | apply pw_below_drewN | apply below_drew1) | exact HB.out)⟩

end Go.Proofs.Ytdieanikopjbjaa.QLeafC
