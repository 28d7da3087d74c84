/- Written by a program of this session out of the translation: Lean functions with the same answers as the Go functions, and the walks that show it. -/
import Derived.Test.YtdieanikopjbjaaQSlotUnx0
import Derived.Test.YtdieanikopjbjaaQSlotUnx8
import Derived.Test.YtdieanikopjbjaaQSlotUnx11
import Derived.Test.YtdieanikopjbjaaQSlotUnx12
namespace Go.Proofs.Ytdieanikopjbjaa.QSlotUn
open Go.RowKit Go.Proofs.YtdieanikopjbjaaW.PrintWords Go.Proofs.YtdieanikopjbjaaW.PrintLast Go.Proofs.YtdieanikopjbjaaW.PrintMore
attribute [local go_sem] max2_int min2_int max_two min_two max_three min_three max_four min_four
attribute [local go_sem high] StepStr.leq_str StepStr.gtr_str
set_option linter.unusedVariables false
set_option linter.unusedSimpArgs false

/-! ### aumbryref15_Unpack: function 40 -/
mutual
def aumbryref15_Unpack.l0 : Nat → ByteArray → Int → Int → Int → List (S76) → Option (Int × Int × (List (S76)) × Int)
  | 0, _, _, _, _, _ => none
  | k + 1, x0, x5, x233000, x233001, x233002 => if x5 < 5 then (if 0 ≤ (wrap64 (16 + (wrap64 (48 * x5)))) then (if (wrap64 (16 + (wrap64 (48 * x5)))) ≤ (wrap64 (64 + (wrap64 (48 * x5)))) then (if (wrap64 (64 + (wrap64 (48 * x5)))) ≤ (x0.size : Int) then ((aumbryref01_Zeros.f 48).bind fun t235 => (if (x0.extract ((wrap64 (16 + (wrap64 (48 * x5)))) : Int).toNat ((wrap64 (64 + (wrap64 (48 * x5)))) : Int).toNat).toList = t235.toList then ((aumbryref15_Pack.f k x233000 x233001 x233002).bind fun bt236 => (if bt236.2 = 0 then (if bt236.1.toList = x0.toList then (some (x233000, x233001, x233002, 0)) else (some (0, 0, ([] : List (S76)), 3))) else (some (0, 0, ([] : List (S76)), 3)))) else (if 4 ≤ 12 then (if 12 ≤ ((x0.extract ((wrap64 (16 + (wrap64 (48 * x5)))) : Int).toNat ((wrap64 (64 + (wrap64 (48 * x5)))) : Int).toNat).size : Int) then ((aumbryref01_Trim.f k ((x0.extract ((wrap64 (16 + (wrap64 (48 * x5)))) : Int).toNat ((wrap64 (64 + (wrap64 (48 * x5)))) : Int).toNat).extract 4 12)).bind fun t238 => (if 1 < ((x0.extract ((wrap64 (16 + (wrap64 (48 * x5)))) : Int).toNat ((wrap64 (64 + (wrap64 (48 * x5)))) : Int).toNat).size : Int) then ((aumbryref15_number.f k (x0.extract ((wrap64 (16 + (wrap64 (48 * x5)))) : Int).toNat ((wrap64 (64 + (wrap64 (48 * x5)))) : Int).toNat) 13 4).bind fun t239 => ((aumbryref15_number.f k (x0.extract ((wrap64 (16 + (wrap64 (48 * x5)))) : Int).toNat ((wrap64 (64 + (wrap64 (48 * x5)))) : Int).toNat) 17 6).bind fun t240 => (if 12 < ((x0.extract ((wrap64 (16 + (wrap64 (48 * x5)))) : Int).toNat ((wrap64 (64 + (wrap64 (48 * x5)))) : Int).toNat).size : Int) then (if (bt (x0.extract ((wrap64 (16 + (wrap64 (48 * x5)))) : Int).toNat ((wrap64 (64 + (wrap64 (48 * x5)))) : Int).toNat) 12) > 4 then (some (0, 0, ([] : List (S76)), 3)) else (aumbryref15_Unpack.l1 k x0 x5 (x0.extract ((wrap64 (16 + (wrap64 (48 * x5)))) : Int).toNat ((wrap64 (64 + (wrap64 (48 * x5)))) : Int).toNat) 0 x233000 x233001 x233002 0 t238 ([] : List Int) (wrap64 (t239)) ((bt (x0.extract ((wrap64 (16 + (wrap64 (48 * x5)))) : Int).toNat ((wrap64 (64 + (wrap64 (48 * x5)))) : Int).toNat) 1) == 1) t240)) else (none)))) else (none))) else (none)) else (none)))) else (none)) else (none)) else (none)) else ((aumbryref15_Pack.f k x233000 x233001 x233002).bind fun bt233 => (if bt233.2 = 0 then (if bt233.1.toList = x0.toList then (some (x233000, x233001, x233002, 0)) else (some (0, 0, ([] : List (S76)), 3))) else (some (0, 0, ([] : List (S76)), 3))))
def aumbryref15_Unpack.l1 : Nat → ByteArray → Int → ByteArray → Int → Int → Int → List (S76) → Int → ByteArray → List Int → Int → Bool → Int → Option (Int × Int × (List (S76)) × Int)
  | 0, _, _, _, _, _, _, _, _, _, _, _, _, _ => none
  | k + 1, x0, x5, x6, x8, x233000, x233001, x233002, x242000, x242001, x242002, x242003, x242004, x242005 => if 12 < (x6.size : Int) then (if x8 < (wrap64 (bt x6 12)) then ((aumbryref15_number.f k x6 (wrap64 (23 + (wrap64 (6 * x8)))) 6).bind fun t242 => (if x242002.length < 17592186044416 then (aumbryref15_Unpack.l1 k x0 x5 x6 (wrap64 (x8 + 1)) x233000 x233001 x233002 x242000 x242001 (x242002 ++ [t242]) x242003 x242004 x242005) else (none))) else ((aumbryref15_Hash.f k x242001 x242002).bind fun bt246 => (if bt246.2 = 0 then ((aumbryref15_number.f k x6 2 2).bind fun t248 => (if x233002.length < 1954687338268 then (aumbryref15_Unpack.l0 k x0 (wrap64 (x5 + 1)) x233000 x233001 (x233002 ++ [(⟨IntKind.u64.wrap ((IntKind.u64.wrap ((IntKind.u64.wrap (bt246.1)) * 65536)) + t248), x242001, x242002, x242003, x242004, x242005⟩ : S76)])) else (none))) else (some (0, 0, ([] : List (S76)), 3))))) else (none)
end
def aumbryref15_Unpack.f (k : Nat) (a0 : ByteArray) : Option (Int × Int × (List (S76)) × Int) := if (a0.size : Int) = 256 then (if 1 < (a0.size : Int) then ((aumbryref15_number.f k a0 2 2).bind fun t231 => (aumbryref15_Unpack.l0 k a0 0 (wrap64 (bt a0 1)) (wrap64 (t231)) ([] : List (S76)))) else (none)) else (some (0, 0, ([] : List (S76)), 3))
theorem aumbryref15_Unpack.mono_l : ∀ k, (∀ y0 y1 y2 y3 y4, LeO (aumbryref15_Unpack.l0 k y0 y1 y2 y3 y4) (aumbryref15_Unpack.l0 (k + 1) y0 y1 y2 y3 y4)) ∧ (∀ y0 y1 y2 y3 y4 y5 y6 y7 y8 y9 y10 y11 y12, LeO (aumbryref15_Unpack.l1 k y0 y1 y2 y3 y4 y5 y6 y7 y8 y9 y10 y11 y12) (aumbryref15_Unpack.l1 (k + 1) y0 y1 y2 y3 y4 y5 y6 y7 y8 y9 y10 y11 y12))
  | 0 => ⟨fun _ _ _ _ _ r h => by simp [aumbryref15_Unpack.l0] at h, fun _ _ _ _ _ _ _ _ _ _ _ _ _ r h => by simp [aumbryref15_Unpack.l1] at h⟩
  | k + 1 => by
    obtain ⟨ih0, ih1⟩ := aumbryref15_Unpack.mono_l k
    refine ⟨?_, ?_⟩
    · intro y0 y1 y2 y3 y4
      unfold aumbryref15_Unpack.l0
      repeat' first
      | (with_reducible exact ih0 _ _ _ _ _)
      | (with_reducible exact ih1 _ _ _ _ _ _ _ _ _ _ _ _ _)
      | (with_reducible exact aumbryref01_Trim.mono _ _)
      | (with_reducible exact aumbryref15_Hash.mono _ _ _)
      | (with_reducible exact aumbryref15_Pack.mono _ _ _ _)
      | (with_reducible exact aumbryref15_number.mono _ _ _ _)
      | (with_reducible exact LeO.refl _)
      | (with_reducible exact LeO.none _)
      | (with_reducible refine LeO.ite ?_ ?_)
      | (with_reducible refine LeO.bind ?_ (fun _ => ?_))
      | exact ih0 _ _ _ _ _
      | exact ih1 _ _ _ _ _ _ _ _ _ _ _ _ _
      | exact aumbryref01_Trim.mono _ _
      | exact aumbryref15_Hash.mono _ _ _
      | exact aumbryref15_Pack.mono _ _ _ _
      | exact aumbryref15_number.mono _ _ _ _
      | exact LeO.none _
      | refine LeO.ite ?_ ?_
      | refine LeO.bind ?_ (fun _ => ?_)
    · intro y0 y1 y2 y3 y4 y5 y6 y7 y8 y9 y10 y11 y12
      unfold aumbryref15_Unpack.l1
      repeat' first
      | (with_reducible exact ih0 _ _ _ _ _)
      | (with_reducible exact ih1 _ _ _ _ _ _ _ _ _ _ _ _ _)
      | (with_reducible exact aumbryref01_Trim.mono _ _)
      | (with_reducible exact aumbryref15_Hash.mono _ _ _)
      | (with_reducible exact aumbryref15_Pack.mono _ _ _ _)
      | (with_reducible exact aumbryref15_number.mono _ _ _ _)
      | (with_reducible exact LeO.refl _)
      | (with_reducible exact LeO.none _)
      | (with_reducible refine LeO.ite ?_ ?_)
      | (with_reducible refine LeO.bind ?_ (fun _ => ?_))
      | exact ih0 _ _ _ _ _
      | exact ih1 _ _ _ _ _ _ _ _ _ _ _ _ _
      | exact aumbryref01_Trim.mono _ _
      | exact aumbryref15_Hash.mono _ _ _
      | exact aumbryref15_Pack.mono _ _ _ _
      | exact aumbryref15_number.mono _ _ _ _
      | exact LeO.none _
      | refine LeO.ite ?_ ?_
      | refine LeO.bind ?_ (fun _ => ?_)
theorem aumbryref15_Unpack.mono : ∀ a0 k, LeO (aumbryref15_Unpack.f k a0) (aumbryref15_Unpack.f (k + 1) a0) := by
  intro a0 k
  obtain ⟨ih0, ih1⟩ := aumbryref15_Unpack.mono_l k
  unfold aumbryref15_Unpack.f
  repeat' first
      | (with_reducible exact ih0 _ _ _ _ _)
      | (with_reducible exact ih1 _ _ _ _ _ _ _ _ _ _ _ _ _)
      | (with_reducible exact aumbryref01_Trim.mono _ _)
      | (with_reducible exact aumbryref15_Hash.mono _ _ _)
      | (with_reducible exact aumbryref15_Pack.mono _ _ _ _)
      | (with_reducible exact aumbryref15_number.mono _ _ _ _)
      | (with_reducible exact LeO.refl _)
      | (with_reducible exact LeO.none _)
      | (with_reducible refine LeO.ite ?_ ?_)
      | (with_reducible refine LeO.bind ?_ (fun _ => ?_))
      | exact ih0 _ _ _ _ _
      | exact ih1 _ _ _ _ _ _ _ _ _ _ _ _ _
      | exact aumbryref01_Trim.mono _ _
      | exact aumbryref15_Hash.mono _ _ _
      | exact aumbryref15_Pack.mono _ _ _ _
      | exact aumbryref15_number.mono _ _ _ _
      | exact LeO.none _
      | refine LeO.ite ?_ ?_
      | refine LeO.bind ?_ (fun _ => ?_)
def aumbryref15_Unpack.T3 : Bool × List (List Nat × List Nat) := (true, [([], []), ([0], [0]), ([1], [1]), ([], []), ([3], [3]), ([4], [4]), ([2, 5], [2, 5]), ([], []), ([7, 6, 4, 0, 1, 2, 3, 4, 5, 6, 7], [6, 7])])
def aumbryref15_Unpack.B3 : List Nat := [0, 1, 3, 0, 8, 24, 63, 0, 255]
theorem aumbryref15_Unpack.tab3 : rtab .any (opsOf Try.f40 3) = aumbryref15_Unpack.T3 := by kernel_rfl
theorem aumbryref15_Unpack.bits3 : waitsOk aumbryref15_Unpack.T3.2 aumbryref15_Unpack.B3 = true := by kernel_rfl
def aumbryref15_Unpack.T9 : Bool × List (List Nat × List Nat) := (true, [([], []), ([0], [0]), ([1], [1]), ([], []), ([3], [3]), ([4], [4]), ([], []), ([6, 2], [6]), ([7], [7]), ([], []), ([9, 7], [9]), ([2, 5, 8, 10], [2, 5, 8, 10]), ([], []), ([12, 11, 10, 0, 1, 2, 3, 4, 5, 6, 7, 8, 9, 10, 11, 12], [11, 12])])
def aumbryref15_Unpack.B9 : List Nat := [0, 1, 3, 0, 8, 24, 0, 71, 199, 0, 711, 2047, 0, 8191]
theorem aumbryref15_Unpack.tab9 : rtab .any (opsOf Try.f40 9) = aumbryref15_Unpack.T9 := by kernel_rfl
theorem aumbryref15_Unpack.bits9 : waitsOk aumbryref15_Unpack.T9.2 aumbryref15_Unpack.B9 = true := by kernel_rfl
def aumbryref15_Unpack.T15 : Bool × List (List Nat × List Nat) := (true, [([], []), ([0], [0]), ([], []), ([], []), ([3], [3]), ([4], [4]), ([2, 5], [2, 5]), ([6], [6]), ([1, 7, 6], [1, 7]), ([0, 1, 2, 3, 4, 5, 6, 7, 8], []), ([9, 8, 8, 0, 1, 2, 3, 4, 5, 6, 7, 8], [8, 9])])
def aumbryref15_Unpack.B15 : List Nat := [0, 1, 0, 0, 8, 24, 60, 124, 255, 511, 1023]
theorem aumbryref15_Unpack.tab15 : rtab .any (opsOf Try.f40 15) = aumbryref15_Unpack.T15 := by kernel_rfl
theorem aumbryref15_Unpack.bits15 : waitsOk aumbryref15_Unpack.T15.2 aumbryref15_Unpack.B15 = true := by kernel_rfl
set_option maxHeartbeats 8000000 in
set_option maxRecDepth 100000 in
theorem aumbryref15_Unpack.calls (k : Nat) (a0 : ByteArray) (r1 : Int) (r2 : Int) (r3 : List (S76)) (r4 : Int) (w : World) (h : aumbryref15_Unpack.f k a0 = some (r1, r2, r3, r4)) :
    Calls Try.prog 40 #[.string a0] w fun e w' => ∃ v2_ : Value, e = .returned (.tuple #[.agg #[.int .i64 r1, .int .i64 r2, v2_], .int .i64 r4]) ∧ Kd.S k76 76 w' w.heap.size (fun _ => True) v2_ r3 ∧ Below w.heap.size w w' := by
  have hu64 := Try.underlying64
  have hu76 := Try.underlying76
  have HB := Aside0.mk (Below.refl w.heap.size w)
  have H : (if (a0.size : Int) = 256 then (if 1 < (a0.size : Int) then ((aumbryref15_number.f k a0 2 2).bind fun t231 => (aumbryref15_Unpack.l0 k a0 0 (wrap64 (bt a0 1)) (wrap64 (t231)) ([] : List (S76)))) else (none)) else (some (0, 0, ([] : List (S76)), 3))) = some (r1, r2, r3, r4) := h
  clear h
  by_cases c2 : (a0.size : Int) = 256
  · rw [if_pos c2] at H
    have c2b0 : ((a0.size : Int) == 256) = true := beq_iff_eq.mpr c2
    have c2b1 : ((a0.size : Int) != 256) = false := bne_eq_false_iff_eq.mpr c2
    clear c2
    by_cases c3 : 1 < (a0.size : Int)
    · rw [if_pos c3] at H
      have c3b0 : decide (1 < (a0.size : Int)) = true := decide_eq_true c3
      have c3b1 : decide (1 < a0.size) = true := decide_eq_true (by omega)
      clear c3
      replace H := Option.bind_eq_some_iff.mp H
      obtain ⟨t231, A50, H⟩ := H
      replace H : (aumbryref15_Unpack.l0 k a0 0 (wrap64 (bt a0 1)) (wrap64 (t231)) ([] : List (S76))) = some (r1, r2, r3, r4) := H
      have A5 := Aside0.mk A50
      clear A50
      have H' := Aside0.mk H
      clear H
      go_enter Try.func40, Try.ntmps40
      try go_wp2_with (first | ((with_reducible refine gate_dst (N := 2) rfl ?_); refine box_event ?hg (N := 2) ?hd (cs := #[.int .i64 0, .int .i64 0, .slice none 0 0]) (t := 64) ?hr ?_; (case hd => rfl); (case hg => rfl); (case hr => first | (go_simp; done) | (go_simp; rfl)); intro gb230 hg w6 hbox hb; have n0_ := Aside0.mk (below_step (by repeat (first | (with_reducible first | exact HB.out | apply below_alloc | apply pw_below_drewN | apply below_drew1) | exact HB.out)) hb); have n1_ := Aside0.mk (hbox); have n2_ := Aside0.mk ((by rw [hg]; exact (below_size (by repeat (first | (with_reducible first | exact HB.out | apply below_alloc | apply pw_below_drewN | apply below_drew1) | exact HB.out))) : w.heap.size ≤ gb230)); have n3_ := Aside0.mk ((by rw [hg]; exact (below_size (by repeat (first | (with_reducible first | exact HB.out | apply below_alloc | apply pw_below_drewN | apply below_drew1) | exact HB.out))) : w.heap.size ≤ gb230)); clear HB; have HB := n0_; have BK230 := n1_; have GW230 := n2_; have GE230 := n3_; clear n0_ n1_ n2_ n3_; clear hb hbox hg))
      have n0_ := Aside0.mk (blk_drew BK230.out)
      have n1_ := Aside0.mk (below_drew1 HB.out)
      clear BK230
      clear HB
      have BK230 := n0_
      have HB := n1_
      clear n0_ n1_
      have p4 : 0 ≤ (1 : Int) := (by omega)
      have q4 : 1 < a0.size := (by have : (1 : Int) < (a0.size : Int) := of_decide_eq_true (by first | (with_reducible assumption) | assumption); omega)
      have hx4 : ∀ h : 1 < a0.size, ((a0[1]'h).toNat : Int) = bt a0 1 := bt_at a0 1
      clear p4
      have qi4 : (1 < (a0.size : Int)) = True := eq_true (of_decide_eq_true (by first | (with_reducible assumption) | assumption))
      replace q4 := eq_true q4
      refine start_ (n := 9) (S := fun w' => True) (ds := []) #[false, false, false, false, false, false, false, false, false] (by kernel_rfl) rfl rfl trivial (fun hHeld => ?_); refine with_tabW aumbryref15_Unpack.tab3 aumbryref15_Unpack.bits3 (fun HT_ HW_ => ?_)
      generalize w6.drew = w7 at BK230 HB hHeld ⊢
      refine pure_ (i := 0) (N := some 17) (v := ?_) (a' := ?_) #[true, false, false, false, false, false, false, false, false] rfl rfl (any_of HT_.out (by kernel_rfl)) (fun _ _ _ h => h) (Or.inl ⟨by rfl, ?_⟩) ?_ ?_
      rotate_left
      · intro w'
        go_simp
        with_reducible rfl
      rotate_left
      · simp only [Act.put, List.setIfInBounds_toArray, List.set_cons_zero, List.set_cons_succ, i64_w, i32_w]
        rfl
      refine pure_ (i := 3) (N := some 20) (v := ?_) (a' := ?_) #[true, false, false, true, false, false, false, false, false] rfl rfl (any_of HT_.out (by kernel_rfl)) (fun _ _ _ h => h) (Or.inl ⟨by rfl, ?_⟩) ?_ ?_
      rotate_left
      · intro w'
        go_simp
        with_reducible rfl
      rotate_left
      · simp only [Act.put, List.setIfInBounds_toArray, List.set_cons_zero, List.set_cons_succ, i64_w, i32_w]
        rfl
      refine take_ (i := 1) (N := some 18) (v := ?_) (a' := ?_) #[true, true, false, true, false, false, false, false, false] rfl rfl (take_ofW HT_.out HW_.out (by kernel_rfl)) (fun _ _ _ h => h) (Or.inl ⟨by rfl, ?_⟩) hHeld ?_ ?_
      rotate_left
      · intro w' _
        go_simp
        with_reducible rfl
      rotate_left
      · simp only [Act.put, List.setIfInBounds_toArray, List.set_cons_zero, List.set_cons_succ, i64_w, i32_w]
        rfl
      refine pure_ (i := 2) (N := some 19) (v := ?_) (a' := ?_) #[true, true, true, true, false, false, false, false, false] rfl rfl (any_of HT_.out (by kernel_rfl)) (fun _ _ _ h => h) (Or.inl ⟨by rfl, ?_⟩) ?_ ?_
      rotate_left
      · intro w'
        go_simp
        with_reducible rfl
      rotate_left
      · simp only [Act.put, List.setIfInBounds_toArray, List.set_cons_zero, List.set_cons_succ, i64_w, i32_w]
        rfl
      refine join_ (σ := Nat) 1 #[true, true, true, true, true, true, true, true, false] (fun s_ => [(21, .int .u64 t231), (4, .pointer (some ⟨s_, 0, none⟩)), (22, .int .i64 (wrap64 (t231))), (23, .agg #[.int .i64 (wrap64 (bt a0 1)), .int .i64 (wrap64 (t231)), .slice none 0 0])]) (fun s_ w' => (w'.heap[gb230]? = some (.cells #[.int .i64 0, .int .i64 0, .slice none 0 0] 64 (0, 0))) ∧ (w'.heap[s_]? = some (.cells #[.int .i64 0, .int .i64 0, .slice none 0 0] 64 (0, 0))) ∧ (w.heap.size ≤ s_) ∧ (w.heap.size ≤ s_) ∧ (gb230 ≠ s_) ∧ (s_ ≠ gb230) ∧ (Below w.heap.size w w')) ?_ ?_
      rotate_left
      · intro hCont
        refine two_ (i := 4) (j := 7) (Ni := some 21) (Nj := some 4) #[true, true, true, true, true, false, false, false, false] #[true, true, true, true, false, false, false, true, false] rfl rfl rfl rfl (two_of HT_.out (by kernel_rfl)) (by decide) (by decide) (fun K hK => ?_) (fun K hK => ?_)
        · skip
          refine goes_ Try.func65 (by kernel_rfl) rfl #[.string a0, .int .i64 2, .int .i64 2] (by rfl) rfl rfl (by (try simp only [List.map_toArray, List.map_cons, List.map_nil]); first | done | rfl | (simp only [List.length_drop, List.length_take]; rfl)) ?_
          with_reducible refine (aumbryref15_number.calls k a0 2 2 t231 _ A5.out).mono ?_
          rintro e w' ⟨rfl, ⟨nd, rfl⟩⟩
          refine ⟨_, rfl, ?_⟩
          refine hK.out _ _ trivial (fun hHeld => ?_)
          clear hK K
          refine norm_ (a' := ?_) ?_ ?_
          rotate_left
          · show Act.put _ (some 21) _ = _
            simp only [Act.put, List.setIfInBounds_toArray, List.set_cons_zero, List.set_cons_succ, i64_w, i32_w]
            rfl
          refine pure_ (i := 5) (N := some 22) (v := ?_) (a' := ?_) #[true, true, true, true, true, true, false, false, false] rfl rfl (any_of HT_.out (by kernel_rfl)) (fun _ _ _ h => h) (Or.inl ⟨by rfl, ?_⟩) ?_ ?_
          rotate_left
          · intro w'
            go_simp
            with_reducible rfl
          rotate_left
          · simp only [Act.put, List.setIfInBounds_toArray, List.set_cons_zero, List.set_cons_succ, i64_w, i32_w]
            rfl
          refine pure_ (i := 6) (N := some 23) (v := ?_) (a' := ?_) #[true, true, true, true, true, true, true, false, false] rfl rfl (any_of HT_.out (by kernel_rfl)) (fun _ _ _ h => h) (Or.inl ⟨by rfl, ?_⟩) ?_ ?_
          rotate_left
          · intro w'
            go_simp
            with_reducible rfl
          rotate_left
          · simp only [Act.put, List.setIfInBounds_toArray, List.set_cons_zero, List.set_cons_succ, i64_w, i32_w]
            rfl
          refine one_ (i := 7) (N := some 4) #[true, true, true, true, true, true, true, true, false] rfl rfl (one_of HT_.out (by kernel_rfl)) (by decide) (fun K hK => ?_)
          refine box_step ?hg (N := 4) ?hd (cs := #[.int .i64 0, .int .i64 0, .slice none 0 0]) (t := 64) ?hr ?_; (case hd => rfl); (case hg => rfl); (case hr => first | (go_simp; done) | (go_simp; rfl))
          intro gb232 hg w8 hbox hb
          have n0_ := Aside0.mk (blk_below (g := gb230) (o := .cells #[.int .i64 0, .int .i64 0, .slice none 0 0] 64 (0, 0)) (by (with_reducible repeat (first | refine blk_drewN ?_ _ | refine blk_drew ?_ | refine blk_alloc ?_ _)); exact BK230.out) hb)
          have n1_ := Aside0.mk (below_step (by repeat (first | (with_reducible first | exact HB.out | apply below_alloc | apply pw_below_drewN | apply below_drew1 | refine below_set ?_ GE230.out) | exact HB.out)) hb)
          have n2_ := Aside0.mk (hbox)
          have n3_ := Aside0.mk ((by rw [hg]; exact (below_size (by repeat (first | (with_reducible first | exact HB.out | apply below_alloc | apply pw_below_drewN | apply below_drew1 | refine below_set ?_ GE230.out) | exact HB.out))) : w.heap.size ≤ gb232))
          have n4_ := Aside0.mk ((by rw [hg]; exact (below_size (by repeat (first | (with_reducible first | exact HB.out | apply below_alloc | apply pw_below_drewN | apply below_drew1 | refine below_set ?_ GE230.out) | exact HB.out))) : w.heap.size ≤ gb232))
          have n5_ := Aside0.mk ((by rw [hg]; exact Nat.ne_of_lt (blk_lt (g := gb230) (o := .cells #[.int .i64 0, .int .i64 0, .slice none 0 0] 64 (0, 0)) (by (with_reducible repeat (first | refine blk_drewN ?_ _ | refine blk_drew ?_ | refine blk_alloc ?_ _)); exact BK230.out)) : gb230 ≠ gb232))
          have n6_ := Aside0.mk ((by rw [hg]; exact Nat.ne_of_gt (blk_lt (g := gb230) (o := .cells #[.int .i64 0, .int .i64 0, .slice none 0 0] 64 (0, 0)) (by (with_reducible repeat (first | refine blk_drewN ?_ _ | refine blk_drew ?_ | refine blk_alloc ?_ _)); exact BK230.out)) : gb232 ≠ gb230))
          clear BK230
          clear HB
          have BK230 := n0_
          have HB := n1_
          have BK232 := n2_
          have GW232 := n3_
          have GE232 := n4_
          have NB230_232 := n5_
          have NB232_230 := n6_
          clear n0_ n1_ n2_ n3_ n4_ n5_ n6_
          clear hb hbox hg
          refine hK.out _ _ trivial (fun hHeld => ?_)
          clear hK K
          refine norm_ (a' := ?_) ?_ ?_
          rotate_left
          · show Act.put _ (some 4) _ = _
            simp only [Act.put, List.setIfInBounds_toArray, List.set_cons_zero, List.set_cons_succ, i64_w, i32_w]
            rfl
          exact norm_ (by simp only [putAll, Act.put, List.setIfInBounds_toArray, List.set_cons_zero, List.set_cons_succ]) (hCont (gb232) _ ⟨(by (with_reducible repeat (first | refine blk_drewN ?_ _ | refine blk_drew ?_ | refine blk_alloc ?_ _)); exact BK230.out), (by (with_reducible repeat (first | refine blk_drewN ?_ _ | refine blk_drew ?_ | refine blk_alloc ?_ _)); exact BK232.out), GW232.out, GE232.out, NB230_232.out, NB232_230.out, (by repeat (first | (with_reducible first | exact HB.out | apply below_alloc | apply pw_below_drewN | apply below_drew1 | refine below_set ?_ GE230.out | refine below_set ?_ GE232.out) | exact HB.out))⟩)
        · skip
          refine box_step ?hg (N := 4) ?hd (cs := #[.int .i64 0, .int .i64 0, .slice none 0 0]) (t := 64) ?hr ?_; (case hd => rfl); (case hg => rfl); (case hr => first | (go_simp; done) | (go_simp; rfl))
          intro gb232 hg w8 hbox hb
          have n0_ := Aside0.mk (blk_below (g := gb230) (o := .cells #[.int .i64 0, .int .i64 0, .slice none 0 0] 64 (0, 0)) (by (with_reducible repeat (first | refine blk_drewN ?_ _ | refine blk_drew ?_ | refine blk_alloc ?_ _)); exact BK230.out) hb)
          have n1_ := Aside0.mk (below_step (by repeat (first | (with_reducible first | exact HB.out | apply below_alloc | apply pw_below_drewN | apply below_drew1 | refine below_set ?_ GE230.out) | exact HB.out)) hb)
          have n2_ := Aside0.mk (hbox)
          have n3_ := Aside0.mk ((by rw [hg]; exact (below_size (by repeat (first | (with_reducible first | exact HB.out | apply below_alloc | apply pw_below_drewN | apply below_drew1 | refine below_set ?_ GE230.out) | exact HB.out))) : w.heap.size ≤ gb232))
          have n4_ := Aside0.mk ((by rw [hg]; exact (below_size (by repeat (first | (with_reducible first | exact HB.out | apply below_alloc | apply pw_below_drewN | apply below_drew1 | refine below_set ?_ GE230.out) | exact HB.out))) : w.heap.size ≤ gb232))
          have n5_ := Aside0.mk ((by rw [hg]; exact Nat.ne_of_lt (blk_lt (g := gb230) (o := .cells #[.int .i64 0, .int .i64 0, .slice none 0 0] 64 (0, 0)) (by (with_reducible repeat (first | refine blk_drewN ?_ _ | refine blk_drew ?_ | refine blk_alloc ?_ _)); exact BK230.out)) : gb230 ≠ gb232))
          have n6_ := Aside0.mk ((by rw [hg]; exact Nat.ne_of_gt (blk_lt (g := gb230) (o := .cells #[.int .i64 0, .int .i64 0, .slice none 0 0] 64 (0, 0)) (by (with_reducible repeat (first | refine blk_drewN ?_ _ | refine blk_drew ?_ | refine blk_alloc ?_ _)); exact BK230.out)) : gb232 ≠ gb230))
          clear BK230
          clear HB
          have BK230 := n0_
          have HB := n1_
          have BK232 := n2_
          have GW232 := n3_
          have GE232 := n4_
          have NB230_232 := n5_
          have NB232_230 := n6_
          clear n0_ n1_ n2_ n3_ n4_ n5_ n6_
          clear hb hbox hg
          refine hK.out _ _ trivial (fun hHeld => ?_)
          clear hK K
          refine norm_ (a' := ?_) ?_ ?_
          rotate_left
          · show Act.put _ (some 4) _ = _
            simp only [Act.put, List.setIfInBounds_toArray, List.set_cons_zero, List.set_cons_succ, i64_w, i32_w]
            rfl
          refine one_ (i := 4) (N := some 21) #[true, true, true, true, true, false, false, true, false] rfl rfl (one_of HT_.out (by kernel_rfl)) (by decide) (fun K hK => ?_)
          refine goes_ Try.func65 (by kernel_rfl) rfl #[.string a0, .int .i64 2, .int .i64 2] (by rfl) rfl rfl (by (try simp only [List.map_toArray, List.map_cons, List.map_nil]); first | done | rfl | (simp only [List.length_drop, List.length_take]; rfl)) ?_
          with_reducible refine (aumbryref15_number.calls k a0 2 2 t231 _ A5.out).mono ?_
          rintro e w' ⟨rfl, ⟨nd, rfl⟩⟩
          refine ⟨_, rfl, ?_⟩
          refine hK.out _ _ trivial (fun hHeld => ?_)
          clear hK K
          refine norm_ (a' := ?_) ?_ ?_
          rotate_left
          · show Act.put _ (some 21) _ = _
            simp only [Act.put, List.setIfInBounds_toArray, List.set_cons_zero, List.set_cons_succ, i64_w, i32_w]
            rfl
          refine pure_ (i := 5) (N := some 22) (v := ?_) (a' := ?_) #[true, true, true, true, true, true, false, true, false] rfl rfl (any_of HT_.out (by kernel_rfl)) (fun _ _ _ h => h) (Or.inl ⟨by rfl, ?_⟩) ?_ ?_
          rotate_left
          · intro w'
            go_simp
            with_reducible rfl
          rotate_left
          · simp only [Act.put, List.setIfInBounds_toArray, List.set_cons_zero, List.set_cons_succ, i64_w, i32_w]
            rfl
          refine pure_ (i := 6) (N := some 23) (v := ?_) (a' := ?_) #[true, true, true, true, true, true, true, true, false] rfl rfl (any_of HT_.out (by kernel_rfl)) (fun _ _ _ h => h) (Or.inl ⟨by rfl, ?_⟩) ?_ ?_
          rotate_left
          · intro w'
            go_simp
            with_reducible rfl
          rotate_left
          · simp only [Act.put, List.setIfInBounds_toArray, List.set_cons_zero, List.set_cons_succ, i64_w, i32_w]
            rfl
          exact norm_ (by simp only [putAll, Act.put, List.setIfInBounds_toArray, List.set_cons_zero, List.set_cons_succ]) (hCont (gb232) _ ⟨(by (with_reducible repeat (first | refine blk_drewN ?_ _ | refine blk_drew ?_ | refine blk_alloc ?_ _)); exact BK230.out), (by (with_reducible repeat (first | refine blk_drewN ?_ _ | refine blk_drew ?_ | refine blk_alloc ?_ _)); exact BK232.out), GW232.out, GE232.out, NB230_232.out, NB232_230.out, (by repeat (first | (with_reducible first | exact HB.out | apply below_alloc | apply pw_below_drewN | apply below_drew1 | refine below_set ?_ GE230.out | refine below_set ?_ GE232.out) | exact HB.out))⟩)
      rintro gb232 w9 ⟨h0_, h1_, h2_, h3_, h4_, h5_, h6_⟩
      have n0_ : Aside0 (w9.heap[gb230]? = some (.cells #[.int .i64 0, .int .i64 0, .slice none 0 0] 64 (0, 0))) := ⟨h0_⟩
      have n1_ : Aside0 (w9.heap[gb232]? = some (.cells #[.int .i64 0, .int .i64 0, .slice none 0 0] 64 (0, 0))) := ⟨h1_⟩
      have n2_ : Aside0 (w.heap.size ≤ gb232) := ⟨h2_⟩
      have n3_ : Aside0 (w.heap.size ≤ gb232) := ⟨h3_⟩
      have n4_ : Aside0 (gb230 ≠ gb232) := ⟨h4_⟩
      have n5_ : Aside0 (gb232 ≠ gb230) := ⟨h5_⟩
      have n6_ : Aside0 (Below w.heap.size w w9) := ⟨h6_⟩
      clear BK230
      clear HB
      clear h0_ h1_ h2_ h3_ h4_ h5_ h6_
      have BK230 := n0_
      have BK232 := n1_
      have GW232 := n2_
      have GE232 := n3_
      have NB230_232 := n4_
      have NB232_230 := n5_
      have HB := n6_
      clear n0_ n1_ n2_ n3_ n4_ n5_ n6_
      have hHeld := trivial
      refine norm_ (a' := ?_) ?_ ?_
      rotate_left
      · simp only [putAll, Act.put, List.setIfInBounds_toArray, List.set_cons_zero, List.set_cons_succ]
        rfl
      refine one_ (i := 8) (N := none) #[true, true, true, true, true, true, true, true, true] rfl rfl (one_of HT_.out (by kernel_rfl)) (by decide) (fun K hK => ?_)
      have hs10 : w9.cell? ⟨gb232, 0, none⟩ = some (.int .i64 0) := (blk_cell BK232.out 0).trans rfl
      have hfs10 := blk_frozen BK232.out 0
      have hns10_0 := NB230_232.out
      have hms10_0 := NB232_230.out
      have hs11 : w9.cell? ⟨gb232, 1, none⟩ = some (.int .i64 0) := (blk_cell BK232.out 1).trans rfl
      have hfs11 := blk_frozen BK232.out 1
      have hns11_0 := NB230_232.out
      have hms11_0 := NB232_230.out
      have hs12 : w9.cell? ⟨gb232, 2, none⟩ = some (.slice none 0 0) := (blk_cell BK232.out 2).trans rfl
      have hfs12 := blk_frozen BK232.out 2
      have hns12_0 := NB230_232.out
      have hms12_0 := NB232_230.out
      refine skip_ (w1 := ?_) (by rfl) rfl ?_ ?_
      rotate_left
      · go_simp
        rfl
      refine hK.out _ _ trivial (fun hHeld => ?_)
      clear hK K
      refine done_ (done_of HT_.out (by kernel_rfl)) ?_
      try go_wp2
      go_loopg [5] k (fun kq v5 w' => ∃ (x5_1 : Int) (x231000_1 : Int) (x231001_1 : Int) (x233002_1 : List (S76)) (u233002 : Value), v5 = .int .i64 x5_1 ∧ Aside0 (aumbryref15_Unpack.l0 kq a0 x5_1 (wrap64 (bt a0 1)) (wrap64 (t231)) x233002_1 = some (r1, r2, r3, r4)) ∧ Aside0 (kq ≤ k) ∧ Aside0 (Kd.S k76 76 w' w.heap.size (fun _ => True) u233002 x233002_1) ∧ Aside0 (w'.heap[gb230]? = some (.cells #[.int .i64 x231000_1, .int .i64 x231001_1, (.slice none 0 0)] 64 (0, 0))) ∧ Aside0 (w'.heap[gb232]? = some (.cells #[.int .i64 (wrap64 (bt a0 1)), .int .i64 (wrap64 (t231)), u233002] 64 (0, 0))) ∧ Aside0 (Below w.heap.size w w'))
      case atStart => exact ⟨(0), (0), (0), (([] : List (S76))), (.slice none 0 0), (by first | rfl | (simp; done) | (simp [*]; done)), H', ⟨Nat.le_refl _⟩, ⟨by first | exact Kd.S_nil _ _ _ _ _ | exact Kd.N_nil _ _ _ _ _ | exact Kd.V_nil _ _ _ _ _ | exact Kd.Q_nil _ _ _ _ _ | exact Kd.R_nil _ _ _ _ _⟩, ⟨by (with_reducible repeat (first | refine blk_drewN ?_ _ | refine blk_drew ?_ | refine blk_alloc ?_ _)); refine blk_far ?_ NB230_232.out _; (with_reducible repeat (first | refine blk_drewN ?_ _ | refine blk_drew ?_ | refine blk_alloc ?_ _)); refine blk_far ?_ NB230_232.out _; (with_reducible repeat (first | refine blk_drewN ?_ _ | refine blk_drew ?_ | refine blk_alloc ?_ _)); refine blk_far ?_ NB230_232.out _; (with_reducible repeat (first | refine blk_drewN ?_ _ | refine blk_drew ?_ | refine blk_alloc ?_ _)); exact BK230.out⟩, ⟨by (with_reducible repeat (first | refine blk_drewN ?_ _ | refine blk_drew ?_ | refine blk_alloc ?_ _)); refine blk_put (cs := #[.int .i64 (wrap64 (bt a0 1)), .int .i64 (wrap64 (t231)), .slice none 0 0]) ?_ 2 _ rfl; (with_reducible repeat (first | refine blk_drewN ?_ _ | refine blk_drew ?_ | refine blk_alloc ?_ _)); refine blk_put (cs := #[.int .i64 (wrap64 (bt a0 1)), .int .i64 0, .slice none 0 0]) ?_ 1 _ rfl; (with_reducible repeat (first | refine blk_drewN ?_ _ | refine blk_drew ?_ | refine blk_alloc ?_ _)); refine blk_put (cs := #[.int .i64 0, .int .i64 0, .slice none 0 0]) ?_ 0 _ rfl; (with_reducible repeat (first | refine blk_drewN ?_ _ | refine blk_drew ?_ | refine blk_alloc ?_ _)); exact BK232.out⟩, ⟨by repeat (first | (with_reducible first | exact HB.out | apply below_alloc | apply pw_below_drewN | apply below_drew1 | refine below_set ?_ GE230.out | refine below_set ?_ GE232.out) | exact HB.out)⟩⟩
      case round =>
        clear H'
        try clear c2
        try clear c2b0
        try clear c2b1
        try clear p2
        try clear c3
        try clear c3b0
        try clear c3b1
        try clear c4
        try clear p4
        try clear q4
        try clear hx4
        try clear qi4
        try clear c6
        try clear p6
        try clear p4
        try clear q4
        obtain ⟨x5_1, x231000_1, x231001_1, x233002_1, u233002, rfl, HA, HK1, HO_233002, BK230, BK232, HB⟩ := hrel
        cases gk with
        | zero => exact absurd HA.out (by simp [aumbryref15_Unpack.l0])
        | succ k1 =>
          have H := HA.out
          clear HA
          simp only [aumbryref15_Unpack.l0] at H
          by_cases c13 : x5_1 < 5
          · rw [if_pos c13] at H
            have c13b0 : decide (x5_1 < 5) = true := decide_eq_true c13
            clear c13
            obtain ⟨ji14, hji14⟩ : ∃ j_ : Int, (wrap64 (16 + (wrap64 (48 * x5_1)))) = j_ := ⟨_, rfl⟩
            replace H : (if 0 ≤ (ji14) then (if (ji14) ≤ (wrap64 (64 + (wrap64 (48 * x5_1)))) then (if (wrap64 (64 + (wrap64 (48 * x5_1)))) ≤ (a0.size : Int) then ((aumbryref01_Zeros.f 48).bind fun t235 => (if (a0.extract ((ji14) : Int).toNat ((wrap64 (64 + (wrap64 (48 * x5_1)))) : Int).toNat).toList = t235.toList then ((aumbryref15_Pack.f k1 (wrap64 (bt a0 1)) (wrap64 (t231)) x233002_1).bind fun bt236 => (if bt236.2 = 0 then (if bt236.1.toList = a0.toList then (some ((wrap64 (bt a0 1)), (wrap64 (t231)), x233002_1, 0)) else (some (0, 0, ([] : List (S76)), 3))) else (some (0, 0, ([] : List (S76)), 3)))) else (if 4 ≤ 12 then (if 12 ≤ ((a0.extract ((ji14) : Int).toNat ((wrap64 (64 + (wrap64 (48 * x5_1)))) : Int).toNat).size : Int) then ((aumbryref01_Trim.f k1 ((a0.extract ((ji14) : Int).toNat ((wrap64 (64 + (wrap64 (48 * x5_1)))) : Int).toNat).extract 4 12)).bind fun t238 => (if 1 < ((a0.extract ((ji14) : Int).toNat ((wrap64 (64 + (wrap64 (48 * x5_1)))) : Int).toNat).size : Int) then ((aumbryref15_number.f k1 (a0.extract ((ji14) : Int).toNat ((wrap64 (64 + (wrap64 (48 * x5_1)))) : Int).toNat) 13 4).bind fun t239 => ((aumbryref15_number.f k1 (a0.extract ((ji14) : Int).toNat ((wrap64 (64 + (wrap64 (48 * x5_1)))) : Int).toNat) 17 6).bind fun t240 => (if 12 < ((a0.extract ((ji14) : Int).toNat ((wrap64 (64 + (wrap64 (48 * x5_1)))) : Int).toNat).size : Int) then (if (bt (a0.extract ((ji14) : Int).toNat ((wrap64 (64 + (wrap64 (48 * x5_1)))) : Int).toNat) 12) > 4 then (some (0, 0, ([] : List (S76)), 3)) else (aumbryref15_Unpack.l1 k1 a0 x5_1 (a0.extract ((ji14) : Int).toNat ((wrap64 (64 + (wrap64 (48 * x5_1)))) : Int).toNat) 0 (wrap64 (bt a0 1)) (wrap64 (t231)) x233002_1 0 t238 ([] : List Int) (wrap64 (t239)) ((bt (a0.extract ((ji14) : Int).toNat ((wrap64 (64 + (wrap64 (48 * x5_1)))) : Int).toNat) 1) == 1) t240)) else (none)))) else (none))) else (none)) else (none)))) else (none)) else (none)) else (none)) = some (r1, r2, r3, r4) := by first | (rw [hji14] at H; exact H) | (simp only [hji14] at H ⊢; exact H)
            have hji14w : (IntKind.i64.wrap (16 + (wrap64 (48 * x5_1)))) = ji14 := (i64_w _).trans hji14
            by_cases c15 : 0 ≤ (ji14)
            · rw [if_pos c15] at H
              have c15b0 := eq_true c15
              have c15b1 : decide (0 ≤ (ji14)) = true := decide_eq_true c15
              clear c15
              by_cases c16 : (ji14) ≤ (wrap64 (64 + (wrap64 (48 * x5_1))))
              · rw [if_pos c16] at H
                have c16b0 := eq_true c16
                have c16b1 : decide ((ji14) ≤ (wrap64 (64 + (wrap64 (48 * x5_1))))) = true := decide_eq_true c16
                by_cases c17 : (wrap64 (64 + (wrap64 (48 * x5_1)))) ≤ (a0.size : Int)
                · rw [if_pos c17] at H
                  have c17b0 := eq_true c17
                  have c17b1 : decide ((wrap64 (64 + (wrap64 (48 * x5_1)))) ≤ (a0.size : Int)) = true := decide_eq_true c17
                  replace H := Option.bind_eq_some_iff.mp H
                  obtain ⟨t235, A180, H⟩ := H
                  replace H : (if (a0.extract ((ji14) : Int).toNat ((wrap64 (64 + (wrap64 (48 * x5_1)))) : Int).toNat).toList = t235.toList then ((aumbryref15_Pack.f k1 (wrap64 (bt a0 1)) (wrap64 (t231)) x233002_1).bind fun bt236 => (if bt236.2 = 0 then (if bt236.1.toList = a0.toList then (some ((wrap64 (bt a0 1)), (wrap64 (t231)), x233002_1, 0)) else (some (0, 0, ([] : List (S76)), 3))) else (some (0, 0, ([] : List (S76)), 3)))) else (if 4 ≤ 12 then (if 12 ≤ ((a0.extract ((ji14) : Int).toNat ((wrap64 (64 + (wrap64 (48 * x5_1)))) : Int).toNat).size : Int) then ((aumbryref01_Trim.f k1 ((a0.extract ((ji14) : Int).toNat ((wrap64 (64 + (wrap64 (48 * x5_1)))) : Int).toNat).extract 4 12)).bind fun t238 => (if 1 < ((a0.extract ((ji14) : Int).toNat ((wrap64 (64 + (wrap64 (48 * x5_1)))) : Int).toNat).size : Int) then ((aumbryref15_number.f k1 (a0.extract ((ji14) : Int).toNat ((wrap64 (64 + (wrap64 (48 * x5_1)))) : Int).toNat) 13 4).bind fun t239 => ((aumbryref15_number.f k1 (a0.extract ((ji14) : Int).toNat ((wrap64 (64 + (wrap64 (48 * x5_1)))) : Int).toNat) 17 6).bind fun t240 => (if 12 < ((a0.extract ((ji14) : Int).toNat ((wrap64 (64 + (wrap64 (48 * x5_1)))) : Int).toNat).size : Int) then (if (bt (a0.extract ((ji14) : Int).toNat ((wrap64 (64 + (wrap64 (48 * x5_1)))) : Int).toNat) 12) > 4 then (some (0, 0, ([] : List (S76)), 3)) else (aumbryref15_Unpack.l1 k1 a0 x5_1 (a0.extract ((ji14) : Int).toNat ((wrap64 (64 + (wrap64 (48 * x5_1)))) : Int).toNat) 0 (wrap64 (bt a0 1)) (wrap64 (t231)) x233002_1 0 t238 ([] : List Int) (wrap64 (t239)) ((bt (a0.extract ((ji14) : Int).toNat ((wrap64 (64 + (wrap64 (48 * x5_1)))) : Int).toNat) 1) == 1) t240)) else (none)))) else (none))) else (none)) else (none))) = some (r1, r2, r3, r4) := H
                  have A18 := Aside0.mk A180
                  clear A180
                  by_cases c19 : (a0.extract ((ji14) : Int).toNat ((wrap64 (64 + (wrap64 (48 * x5_1)))) : Int).toNat).toList = t235.toList
                  · rw [if_pos c19] at H
                    have c19b0 : ((a0.extract ((ji14) : Int).toNat ((wrap64 (64 + (wrap64 (48 * x5_1)))) : Int).toNat).toList == t235.toList) = true := beq_iff_eq.mpr c19
                    have c19b1 : ((a0.extract ((ji14) : Int).toNat ((wrap64 (64 + (wrap64 (48 * x5_1)))) : Int).toNat).toList != t235.toList) = false := bne_eq_false_iff_eq.mpr c19
                    clear c19
                    replace H := Option.bind_eq_some_iff.mp H
                    obtain ⟨⟨t236, t237⟩, A200, H⟩ := H
                    replace H : (if t237 = 0 then (if t236.toList = a0.toList then (some ((wrap64 (bt a0 1)), (wrap64 (t231)), x233002_1, 0)) else (some (0, 0, ([] : List (S76)), 3))) else (some (0, 0, ([] : List (S76)), 3))) = some (r1, r2, r3, r4) := H
                    have A20 := Aside0.mk A200
                    clear A200
                    by_cases c21 : t237 = 0
                    · rw [if_pos c21] at H
                      have c21b0 : (t237 == 0) = true := beq_iff_eq.mpr c21
                      have c21b1 : (t237 != 0) = false := bne_eq_false_iff_eq.mpr c21
                      clear c21
                      by_cases c22 : t236.toList = a0.toList
                      · rw [if_pos c22] at H
                        have c22b0 : (t236.toList == a0.toList) = true := beq_iff_eq.mpr c22
                        have c22b1 : (t236.toList != a0.toList) = false := bne_eq_false_iff_eq.mpr c22
                        clear c22
                        simp only [Option.some.injEq, Prod.mk.injEq] at H
                        obtain ⟨rfl, rfl, rfl, rfl⟩ := H
                        go_wp2_with (first | ((with_reducible refine gate_callee (f := 43) rfl ?_); refine goesL_ (some 37) rfl rfl Try.func43 (by kernel_rfl) rfl #[.int .i64 48] rfl (by (try simp only [List.map_toArray, List.map_cons, List.map_nil]); first | done | rfl | (simp only [List.length_drop, List.length_take]; rfl)) ?_; (with_reducible refine (aumbryref01_Zeros.calls 48 t235 _ A18.out).mono ?_); rintro e w23 ⟨rfl, hb⟩; refine ⟨_, rfl, ?_⟩; have n0_ := Aside0.mk (Kd.S_below (by (with_reducible repeat (first | apply Kd.S_alloc | apply Kd.S_drewN | apply Kd.S_drew)); exact HO_233002.out) hb); have n1_ := Aside0.mk (blk_below (g := gb230) (o := .cells #[.int .i64 x231000_1, .int .i64 x231001_1, .slice none 0 0] 64 (0, 0)) (by (with_reducible repeat (first | refine blk_drewN ?_ _ | refine blk_drew ?_ | refine blk_alloc ?_ _)); exact BK230.out) hb); have n2_ := Aside0.mk (blk_below (g := gb232) (o := .cells #[.int .i64 (wrap64 (bt a0 1)), .int .i64 (wrap64 (t231)), u233002] 64 (0, 0)) (by (with_reducible repeat (first | refine blk_drewN ?_ _ | refine blk_drew ?_ | refine blk_alloc ?_ _)); exact BK232.out) hb); have n3_ := Aside0.mk (below_step (by repeat (first | (with_reducible first | exact HB.out | apply below_alloc | apply pw_below_drewN | apply below_drew1 | refine below_set ?_ GE230.out | refine below_set ?_ GE232.out) | exact HB.out)) hb); clear HO_233002; clear BK230; clear BK232; clear HB; have HO_233002 := n0_; have BK230 := n1_; have BK232 := n2_; have HB := n3_; clear n0_ n1_ n2_ n3_; (try clear hb); (try clear hb2); (try clear hk); (try clear hi); have hnb24 := NB232_230.out; have hnc24 := NB230_232.out; have hcz25_0 : w23.cell? ⟨gb232, 0, none⟩ = some (.int .i64 (wrap64 (bt a0 1))) := (blk_cell BK232.out 0).trans rfl; have hcz25_1 : w23.cell? ⟨gb232, 1, none⟩ = some (.int .i64 (wrap64 (t231))) := (blk_cell BK232.out 1).trans rfl; have hcz25_2 : w23.cell? ⟨gb232, 2, none⟩ = some (u233002) := (blk_cell BK232.out 2).trans rfl; have hfz25_0 := blk_frozen BK232.out 0; have hfz25_1 := blk_frozen BK232.out 1; have hfz25_2 := blk_frozen BK232.out 2; obtain ⟨Ao26, co26, eo26⟩ := Kd.S_slice HO_233002.out; subst eo26) | ((with_reducible refine gate_callee (f := 38) rfl ?_); refine goesL_ (some 98) rfl rfl Try.func38 (by kernel_rfl) rfl #[.agg #[.int .i64 (wrap64 (bt a0 1)), .int .i64 (wrap64 (t231)), .slice Ao26 x233002_1.length co26]] rfl (by (try simp only [List.map_toArray, List.map_cons, List.map_nil]); first | done | rfl | (simp only [List.length_drop, List.length_take]; rfl)) ?_; (with_reducible refine (aumbryref15_Pack.calls k1 (wrap64 (bt a0 1)) (wrap64 (t231)) _ _ x233002_1 t236 t237 _ ?side1 ?side2 A20.out).mono ?_); (case side1 => repeat (first | exact (Kd.S_reads' HO_233002.out).2.2 | (with_reducible refine Kd.C_alloc ?_ _) | (with_reducible refine Kd.C_drewN ?_ _) | (with_reducible refine Kd.C_drew ?_))); (case side2 => exact (Kd.S_reads' HO_233002.out).2.1); rintro e w27 ⟨rfl, hb⟩; refine ⟨_, rfl, ?_⟩; have n0_ := Aside0.mk (Kd.S_below (by (with_reducible repeat (first | apply Kd.S_alloc | apply Kd.S_drewN | apply Kd.S_drew)); exact HO_233002.out) hb); have n1_ := Aside0.mk (blk_below (g := gb230) (o := .cells #[.int .i64 x231000_1, .int .i64 x231001_1, .slice none 0 0] 64 (0, 0)) (by (with_reducible repeat (first | refine blk_drewN ?_ _ | refine blk_drew ?_ | refine blk_alloc ?_ _)); exact BK230.out) hb); have n2_ := Aside0.mk (blk_below (g := gb232) (o := .cells #[.int .i64 (wrap64 (bt a0 1)), .int .i64 (wrap64 (t231)), .slice Ao26 x233002_1.length co26] 64 (0, 0)) (by (with_reducible repeat (first | refine blk_drewN ?_ _ | refine blk_drew ?_ | refine blk_alloc ?_ _)); exact BK232.out) hb); have n3_ := Aside0.mk (below_step (by repeat (first | (with_reducible first | exact HB.out | apply below_alloc | apply pw_below_drewN | apply below_drew1 | refine below_set ?_ GE230.out | refine below_set ?_ GE232.out) | exact HB.out)) hb); clear HO_233002; clear BK230; clear BK232; clear HB; have HO_233002 := n0_; have BK230 := n1_; have BK232 := n2_; have HB := n3_; clear n0_ n1_ n2_ n3_; (try clear hb); (try clear hb2); (try clear hk); (try clear hi); have hcz28_0 : w27.cell? ⟨gb232, 0, none⟩ = some (.int .i64 (wrap64 (bt a0 1))) := (blk_cell BK232.out 0).trans rfl; have hcz28_1 : w27.cell? ⟨gb232, 1, none⟩ = some (.int .i64 (wrap64 (t231))) := (blk_cell BK232.out 1).trans rfl; have hcz28_2 : w27.cell? ⟨gb232, 2, none⟩ = some (.slice Ao26 x233002_1.length co26) := (blk_cell BK232.out 2).trans rfl; have hfz28_0 := blk_frozen BK232.out 0; have hfz28_1 := blk_frozen BK232.out 1; have hfz28_2 := blk_frozen BK232.out 2; have hcz29_0 : w27.cell? ⟨gb230, 0, none⟩ = some (.int .i64 x231000_1) := (blk_cell BK230.out 0).trans rfl; have hcz29_1 : w27.cell? ⟨gb230, 1, none⟩ = some (.int .i64 x231001_1) := (blk_cell BK230.out 1).trans rfl; have hcz29_2 : w27.cell? ⟨gb230, 2, none⟩ = some (.slice none 0 0) := (blk_cell BK230.out 2).trans rfl; have hfz29_0 := blk_frozen BK230.out 0; have hfz29_1 := blk_frozen BK230.out 1; have hfz29_2 := blk_frozen BK230.out 2))
                        refine bodyPost_ret (results_ct rfl _ _ gb230 64 #[.int .i64 (wrap64 (bt a0 1)), .int .i64 (wrap64 (t231)), .slice Ao26 x233002_1.length co26] (0, 0) _ rfl (by (with_reducible repeat (first | refine blk_drewN ?_ _ | refine blk_drew ?_ | refine blk_alloc ?_ _)); refine blk_put (cs := #[.int .i64 (wrap64 (bt a0 1)), .int .i64 (wrap64 (t231)), .slice none 0 0]) ?_ 2 _ rfl; (with_reducible repeat (first | refine blk_drewN ?_ _ | refine blk_drew ?_ | refine blk_alloc ?_ _)); refine blk_put (cs := #[.int .i64 (wrap64 (bt a0 1)), .int .i64 x231001_1, .slice none 0 0]) ?_ 1 _ rfl; (with_reducible repeat (first | refine blk_drewN ?_ _ | refine blk_drew ?_ | refine blk_alloc ?_ _)); refine blk_put (cs := #[.int .i64 x231000_1, .int .i64 x231001_1, .slice none 0 0]) ?_ 0 _ rfl; (with_reducible repeat (first | refine blk_drewN ?_ _ | refine blk_drew ?_ | refine blk_alloc ?_ _)); exact BK230.out) Try.underlying64 rfl (by kernel_rfl)) rfl ?_
                        exact ⟨_, by first | rfl | (simp [errW_none, errW_some] <;> rfl) | (simp only [← hji14]; first | rfl | (simp [errW_none, errW_some] <;> rfl)) | (simp [*, errW_none, errW_some] <;> rfl), by (with_reducible repeat (first | apply Kd.S_alloc | apply Kd.S_drewN | apply Kd.S_drew)); exact Kd.S_mono (Kd.S_far (p := ⟨gb230, 2, none⟩) (Kd.S_far (p := ⟨gb230, 1, none⟩) (Kd.S_far (p := ⟨gb230, 0, none⟩) (Kd.S_types HO_233002.out BK230.out (by decide)) (fun _ hk => hk.2) (.int .i64 (wrap64 (bt a0 1)))) (fun _ hk => hk.2) (.int .i64 (wrap64 (t231)))) (fun _ hk => hk.2) (.slice Ao26 x233002_1.length co26)) (fun _ hk => trivial), by repeat (first | (with_reducible first | exact HB.out | apply below_alloc | apply pw_below_drewN | apply below_drew1 | refine below_set ?_ GE230.out | refine below_set ?_ GE232.out) | exact HB.out)⟩
                      · rw [if_neg c22] at H
                        have c22b0 : (t236.toList == a0.toList) = false := beq_eq_false_iff_ne.mpr c22
                        have c22b1 : (t236.toList != a0.toList) = true := bne_iff_ne.mpr c22
                        simp only [Option.some.injEq, Prod.mk.injEq] at H
                        obtain ⟨rfl, rfl, rfl, rfl⟩ := H
                        go_wp2_with (first | ((with_reducible refine gate_callee (f := 43) rfl ?_); refine goesL_ (some 37) rfl rfl Try.func43 (by kernel_rfl) rfl #[.int .i64 48] rfl (by (try simp only [List.map_toArray, List.map_cons, List.map_nil]); first | done | rfl | (simp only [List.length_drop, List.length_take]; rfl)) ?_; (with_reducible refine (aumbryref01_Zeros.calls 48 t235 _ A18.out).mono ?_); rintro e w30 ⟨rfl, hb⟩; refine ⟨_, rfl, ?_⟩; have n0_ := Aside0.mk (Kd.S_below (by (with_reducible repeat (first | apply Kd.S_alloc | apply Kd.S_drewN | apply Kd.S_drew)); exact HO_233002.out) hb); have n1_ := Aside0.mk (blk_below (g := gb230) (o := .cells #[.int .i64 x231000_1, .int .i64 x231001_1, .slice none 0 0] 64 (0, 0)) (by (with_reducible repeat (first | refine blk_drewN ?_ _ | refine blk_drew ?_ | refine blk_alloc ?_ _)); exact BK230.out) hb); have n2_ := Aside0.mk (blk_below (g := gb232) (o := .cells #[.int .i64 (wrap64 (bt a0 1)), .int .i64 (wrap64 (t231)), u233002] 64 (0, 0)) (by (with_reducible repeat (first | refine blk_drewN ?_ _ | refine blk_drew ?_ | refine blk_alloc ?_ _)); exact BK232.out) hb); have n3_ := Aside0.mk (below_step (by repeat (first | (with_reducible first | exact HB.out | apply below_alloc | apply pw_below_drewN | apply below_drew1 | refine below_set ?_ GE230.out | refine below_set ?_ GE232.out) | exact HB.out)) hb); clear HO_233002; clear BK230; clear BK232; clear HB; have HO_233002 := n0_; have BK230 := n1_; have BK232 := n2_; have HB := n3_; clear n0_ n1_ n2_ n3_; (try clear hb); (try clear hb2); (try clear hk); (try clear hi); have hnb31 := NB232_230.out; have hnc31 := NB230_232.out; have hcz32_0 : w30.cell? ⟨gb232, 0, none⟩ = some (.int .i64 (wrap64 (bt a0 1))) := (blk_cell BK232.out 0).trans rfl; have hcz32_1 : w30.cell? ⟨gb232, 1, none⟩ = some (.int .i64 (wrap64 (t231))) := (blk_cell BK232.out 1).trans rfl; have hcz32_2 : w30.cell? ⟨gb232, 2, none⟩ = some (u233002) := (blk_cell BK232.out 2).trans rfl; have hfz32_0 := blk_frozen BK232.out 0; have hfz32_1 := blk_frozen BK232.out 1; have hfz32_2 := blk_frozen BK232.out 2; obtain ⟨Ao33, co33, eo33⟩ := Kd.S_slice HO_233002.out; subst eo33) | ((with_reducible refine gate_callee (f := 38) rfl ?_); refine goesL_ (some 98) rfl rfl Try.func38 (by kernel_rfl) rfl #[.agg #[.int .i64 (wrap64 (bt a0 1)), .int .i64 (wrap64 (t231)), .slice Ao33 x233002_1.length co33]] rfl (by (try simp only [List.map_toArray, List.map_cons, List.map_nil]); first | done | rfl | (simp only [List.length_drop, List.length_take]; rfl)) ?_; (with_reducible refine (aumbryref15_Pack.calls k1 (wrap64 (bt a0 1)) (wrap64 (t231)) _ _ x233002_1 t236 t237 _ ?side1 ?side2 A20.out).mono ?_); (case side1 => repeat (first | exact (Kd.S_reads' HO_233002.out).2.2 | (with_reducible refine Kd.C_alloc ?_ _) | (with_reducible refine Kd.C_drewN ?_ _) | (with_reducible refine Kd.C_drew ?_))); (case side2 => exact (Kd.S_reads' HO_233002.out).2.1); rintro e w34 ⟨rfl, hb⟩; refine ⟨_, rfl, ?_⟩; have n0_ := Aside0.mk (Kd.S_below (by (with_reducible repeat (first | apply Kd.S_alloc | apply Kd.S_drewN | apply Kd.S_drew)); exact HO_233002.out) hb); have n1_ := Aside0.mk (blk_below (g := gb230) (o := .cells #[.int .i64 x231000_1, .int .i64 x231001_1, .slice none 0 0] 64 (0, 0)) (by (with_reducible repeat (first | refine blk_drewN ?_ _ | refine blk_drew ?_ | refine blk_alloc ?_ _)); exact BK230.out) hb); have n2_ := Aside0.mk (blk_below (g := gb232) (o := .cells #[.int .i64 (wrap64 (bt a0 1)), .int .i64 (wrap64 (t231)), .slice Ao33 x233002_1.length co33] 64 (0, 0)) (by (with_reducible repeat (first | refine blk_drewN ?_ _ | refine blk_drew ?_ | refine blk_alloc ?_ _)); exact BK232.out) hb); have n3_ := Aside0.mk (below_step (by repeat (first | (with_reducible first | exact HB.out | apply below_alloc | apply pw_below_drewN | apply below_drew1 | refine below_set ?_ GE230.out | refine below_set ?_ GE232.out) | exact HB.out)) hb); clear HO_233002; clear BK230; clear BK232; clear HB; have HO_233002 := n0_; have BK230 := n1_; have BK232 := n2_; have HB := n3_; clear n0_ n1_ n2_ n3_; (try clear hb); (try clear hb2); (try clear hk); (try clear hi); have hcz35_0 : w34.cell? ⟨gb230, 0, none⟩ = some (.int .i64 x231000_1) := (blk_cell BK230.out 0).trans rfl; have hcz35_1 : w34.cell? ⟨gb230, 1, none⟩ = some (.int .i64 x231001_1) := (blk_cell BK230.out 1).trans rfl; have hcz35_2 : w34.cell? ⟨gb230, 2, none⟩ = some (.slice none 0 0) := (blk_cell BK230.out 2).trans rfl; have hfz35_0 := blk_frozen BK230.out 0; have hfz35_1 := blk_frozen BK230.out 1; have hfz35_2 := blk_frozen BK230.out 2))
                        refine bodyPost_ret (results_ct rfl _ _ gb230 64 #[.int .i64 0, .int .i64 0, .slice none 0 0] (0, 0) _ rfl (by (with_reducible repeat (first | refine blk_drewN ?_ _ | refine blk_drew ?_ | refine blk_alloc ?_ _)); refine blk_put (cs := #[.int .i64 0, .int .i64 0, .slice none 0 0]) ?_ 2 _ rfl; (with_reducible repeat (first | refine blk_drewN ?_ _ | refine blk_drew ?_ | refine blk_alloc ?_ _)); refine blk_put (cs := #[.int .i64 0, .int .i64 x231001_1, .slice none 0 0]) ?_ 1 _ rfl; (with_reducible repeat (first | refine blk_drewN ?_ _ | refine blk_drew ?_ | refine blk_alloc ?_ _)); refine blk_put (cs := #[.int .i64 x231000_1, .int .i64 x231001_1, .slice none 0 0]) ?_ 0 _ rfl; (with_reducible repeat (first | refine blk_drewN ?_ _ | refine blk_drew ?_ | refine blk_alloc ?_ _)); exact BK230.out) Try.underlying64 rfl (by kernel_rfl)) rfl ?_
                        exact ⟨_, by first | rfl | (simp [errW_none, errW_some] <;> rfl) | (simp only [← hji14]; first | rfl | (simp [errW_none, errW_some] <;> rfl)) | (simp [*, errW_none, errW_some] <;> rfl), by first | exact Kd.S_nil _ _ _ _ _ | exact Kd.N_nil _ _ _ _ _ | exact Kd.V_nil _ _ _ _ _ | exact Kd.Q_nil _ _ _ _ _ | exact Kd.R_nil _ _ _ _ _, by repeat (first | (with_reducible first | exact HB.out | apply below_alloc | apply pw_below_drewN | apply below_drew1 | refine below_set ?_ GE230.out | refine below_set ?_ GE232.out) | exact HB.out)⟩
                    · rw [if_neg c21] at H
                      have c21b0 : (t237 == 0) = false := beq_eq_false_iff_ne.mpr c21
                      have c21b1 : (t237 != 0) = true := bne_iff_ne.mpr c21
                      simp only [Option.some.injEq, Prod.mk.injEq] at H
                      obtain ⟨rfl, rfl, rfl, rfl⟩ := H
                      go_wp2_with (first | ((with_reducible refine gate_callee (f := 43) rfl ?_); refine goesL_ (some 37) rfl rfl Try.func43 (by kernel_rfl) rfl #[.int .i64 48] rfl (by (try simp only [List.map_toArray, List.map_cons, List.map_nil]); first | done | rfl | (simp only [List.length_drop, List.length_take]; rfl)) ?_; (with_reducible refine (aumbryref01_Zeros.calls 48 t235 _ A18.out).mono ?_); rintro e w36 ⟨rfl, hb⟩; refine ⟨_, rfl, ?_⟩; have n0_ := Aside0.mk (Kd.S_below (by (with_reducible repeat (first | apply Kd.S_alloc | apply Kd.S_drewN | apply Kd.S_drew)); exact HO_233002.out) hb); have n1_ := Aside0.mk (blk_below (g := gb230) (o := .cells #[.int .i64 x231000_1, .int .i64 x231001_1, .slice none 0 0] 64 (0, 0)) (by (with_reducible repeat (first | refine blk_drewN ?_ _ | refine blk_drew ?_ | refine blk_alloc ?_ _)); exact BK230.out) hb); have n2_ := Aside0.mk (blk_below (g := gb232) (o := .cells #[.int .i64 (wrap64 (bt a0 1)), .int .i64 (wrap64 (t231)), u233002] 64 (0, 0)) (by (with_reducible repeat (first | refine blk_drewN ?_ _ | refine blk_drew ?_ | refine blk_alloc ?_ _)); exact BK232.out) hb); have n3_ := Aside0.mk (below_step (by repeat (first | (with_reducible first | exact HB.out | apply below_alloc | apply pw_below_drewN | apply below_drew1 | refine below_set ?_ GE230.out | refine below_set ?_ GE232.out) | exact HB.out)) hb); clear HO_233002; clear BK230; clear BK232; clear HB; have HO_233002 := n0_; have BK230 := n1_; have BK232 := n2_; have HB := n3_; clear n0_ n1_ n2_ n3_; (try clear hb); (try clear hb2); (try clear hk); (try clear hi); have hnb37 := NB232_230.out; have hnc37 := NB230_232.out; have hcz38_0 : w36.cell? ⟨gb232, 0, none⟩ = some (.int .i64 (wrap64 (bt a0 1))) := (blk_cell BK232.out 0).trans rfl; have hcz38_1 : w36.cell? ⟨gb232, 1, none⟩ = some (.int .i64 (wrap64 (t231))) := (blk_cell BK232.out 1).trans rfl; have hcz38_2 : w36.cell? ⟨gb232, 2, none⟩ = some (u233002) := (blk_cell BK232.out 2).trans rfl; have hfz38_0 := blk_frozen BK232.out 0; have hfz38_1 := blk_frozen BK232.out 1; have hfz38_2 := blk_frozen BK232.out 2; obtain ⟨Ao39, co39, eo39⟩ := Kd.S_slice HO_233002.out; subst eo39) | ((with_reducible refine gate_callee (f := 38) rfl ?_); refine goesL_ (some 98) rfl rfl Try.func38 (by kernel_rfl) rfl #[.agg #[.int .i64 (wrap64 (bt a0 1)), .int .i64 (wrap64 (t231)), .slice Ao39 x233002_1.length co39]] rfl (by (try simp only [List.map_toArray, List.map_cons, List.map_nil]); first | done | rfl | (simp only [List.length_drop, List.length_take]; rfl)) ?_; (with_reducible refine (aumbryref15_Pack.calls k1 (wrap64 (bt a0 1)) (wrap64 (t231)) _ _ x233002_1 t236 t237 _ ?side1 ?side2 A20.out).mono ?_); (case side1 => repeat (first | exact (Kd.S_reads' HO_233002.out).2.2 | (with_reducible refine Kd.C_alloc ?_ _) | (with_reducible refine Kd.C_drewN ?_ _) | (with_reducible refine Kd.C_drew ?_))); (case side2 => exact (Kd.S_reads' HO_233002.out).2.1); rintro e w40 ⟨rfl, hb⟩; refine ⟨_, rfl, ?_⟩; have n0_ := Aside0.mk (Kd.S_below (by (with_reducible repeat (first | apply Kd.S_alloc | apply Kd.S_drewN | apply Kd.S_drew)); exact HO_233002.out) hb); have n1_ := Aside0.mk (blk_below (g := gb230) (o := .cells #[.int .i64 x231000_1, .int .i64 x231001_1, .slice none 0 0] 64 (0, 0)) (by (with_reducible repeat (first | refine blk_drewN ?_ _ | refine blk_drew ?_ | refine blk_alloc ?_ _)); exact BK230.out) hb); have n2_ := Aside0.mk (blk_below (g := gb232) (o := .cells #[.int .i64 (wrap64 (bt a0 1)), .int .i64 (wrap64 (t231)), .slice Ao39 x233002_1.length co39] 64 (0, 0)) (by (with_reducible repeat (first | refine blk_drewN ?_ _ | refine blk_drew ?_ | refine blk_alloc ?_ _)); exact BK232.out) hb); have n3_ := Aside0.mk (below_step (by repeat (first | (with_reducible first | exact HB.out | apply below_alloc | apply pw_below_drewN | apply below_drew1 | refine below_set ?_ GE230.out | refine below_set ?_ GE232.out) | exact HB.out)) hb); clear HO_233002; clear BK230; clear BK232; clear HB; have HO_233002 := n0_; have BK230 := n1_; have BK232 := n2_; have HB := n3_; clear n0_ n1_ n2_ n3_; (try clear hb); (try clear hb2); (try clear hk); (try clear hi); have hcz41_0 : w40.cell? ⟨gb230, 0, none⟩ = some (.int .i64 x231000_1) := (blk_cell BK230.out 0).trans rfl; have hcz41_1 : w40.cell? ⟨gb230, 1, none⟩ = some (.int .i64 x231001_1) := (blk_cell BK230.out 1).trans rfl; have hcz41_2 : w40.cell? ⟨gb230, 2, none⟩ = some (.slice none 0 0) := (blk_cell BK230.out 2).trans rfl; have hfz41_0 := blk_frozen BK230.out 0; have hfz41_1 := blk_frozen BK230.out 1; have hfz41_2 := blk_frozen BK230.out 2))
                      refine bodyPost_ret (results_ct rfl _ _ gb230 64 #[.int .i64 0, .int .i64 0, .slice none 0 0] (0, 0) _ rfl (by (with_reducible repeat (first | refine blk_drewN ?_ _ | refine blk_drew ?_ | refine blk_alloc ?_ _)); refine blk_put (cs := #[.int .i64 0, .int .i64 0, .slice none 0 0]) ?_ 2 _ rfl; (with_reducible repeat (first | refine blk_drewN ?_ _ | refine blk_drew ?_ | refine blk_alloc ?_ _)); refine blk_put (cs := #[.int .i64 0, .int .i64 x231001_1, .slice none 0 0]) ?_ 1 _ rfl; (with_reducible repeat (first | refine blk_drewN ?_ _ | refine blk_drew ?_ | refine blk_alloc ?_ _)); refine blk_put (cs := #[.int .i64 x231000_1, .int .i64 x231001_1, .slice none 0 0]) ?_ 0 _ rfl; (with_reducible repeat (first | refine blk_drewN ?_ _ | refine blk_drew ?_ | refine blk_alloc ?_ _)); exact BK230.out) Try.underlying64 rfl (by kernel_rfl)) rfl ?_
                      exact ⟨_, by first | rfl | (simp [errW_none, errW_some] <;> rfl) | (simp only [← hji14]; first | rfl | (simp [errW_none, errW_some] <;> rfl)) | (simp [*, errW_none, errW_some] <;> rfl), by first | exact Kd.S_nil _ _ _ _ _ | exact Kd.N_nil _ _ _ _ _ | exact Kd.V_nil _ _ _ _ _ | exact Kd.Q_nil _ _ _ _ _ | exact Kd.R_nil _ _ _ _ _, by repeat (first | (with_reducible first | exact HB.out | apply below_alloc | apply pw_below_drewN | apply below_drew1 | refine below_set ?_ GE230.out | refine below_set ?_ GE232.out) | exact HB.out)⟩
                  · rw [if_neg c19] at H
                    have c19b0 : ((a0.extract ((ji14) : Int).toNat ((wrap64 (64 + (wrap64 (48 * x5_1)))) : Int).toNat).toList == t235.toList) = false := beq_eq_false_iff_ne.mpr c19
                    have c19b1 : ((a0.extract ((ji14) : Int).toNat ((wrap64 (64 + (wrap64 (48 * x5_1)))) : Int).toNat).toList != t235.toList) = true := bne_iff_ne.mpr c19
                    by_cases c42 : 4 ≤ 12
                    · rw [if_pos c42] at H
                      have c42b0 := eq_true c42
                      have c42b1 : decide (4 ≤ 12) = true := decide_eq_true c42
                      clear c42
                      by_cases c43 : 12 ≤ ((a0.extract ((ji14) : Int).toNat ((wrap64 (64 + (wrap64 (48 * x5_1)))) : Int).toNat).size : Int)
                      · rw [if_pos c43] at H
                        have c43b0 := eq_true c43
                        have c43b1 : decide (12 ≤ ((a0.extract ((ji14) : Int).toNat ((wrap64 (64 + (wrap64 (48 * x5_1)))) : Int).toNat).size : Int)) = true := decide_eq_true c43
                        replace H := Option.bind_eq_some_iff.mp H
                        obtain ⟨t238, A440, H⟩ := H
                        replace H : (if 1 < ((a0.extract ((ji14) : Int).toNat ((wrap64 (64 + (wrap64 (48 * x5_1)))) : Int).toNat).size : Int) then ((aumbryref15_number.f k1 (a0.extract ((ji14) : Int).toNat ((wrap64 (64 + (wrap64 (48 * x5_1)))) : Int).toNat) 13 4).bind fun t239 => ((aumbryref15_number.f k1 (a0.extract ((ji14) : Int).toNat ((wrap64 (64 + (wrap64 (48 * x5_1)))) : Int).toNat) 17 6).bind fun t240 => (if 12 < ((a0.extract ((ji14) : Int).toNat ((wrap64 (64 + (wrap64 (48 * x5_1)))) : Int).toNat).size : Int) then (if (bt (a0.extract ((ji14) : Int).toNat ((wrap64 (64 + (wrap64 (48 * x5_1)))) : Int).toNat) 12) > 4 then (some (0, 0, ([] : List (S76)), 3)) else (aumbryref15_Unpack.l1 k1 a0 x5_1 (a0.extract ((ji14) : Int).toNat ((wrap64 (64 + (wrap64 (48 * x5_1)))) : Int).toNat) 0 (wrap64 (bt a0 1)) (wrap64 (t231)) x233002_1 0 t238 ([] : List Int) (wrap64 (t239)) ((bt (a0.extract ((ji14) : Int).toNat ((wrap64 (64 + (wrap64 (48 * x5_1)))) : Int).toNat) 1) == 1) t240)) else (none)))) else (none)) = some (r1, r2, r3, r4) := H
                        have A44 := Aside0.mk A440
                        clear A440
                        by_cases c45 : 1 < ((a0.extract ((ji14) : Int).toNat ((wrap64 (64 + (wrap64 (48 * x5_1)))) : Int).toNat).size : Int)
                        · rw [if_pos c45] at H
                          have c45b0 : decide (1 < ((a0.extract ((ji14) : Int).toNat ((wrap64 (64 + (wrap64 (48 * x5_1)))) : Int).toNat).size : Int)) = true := decide_eq_true c45
                          have c45b1 : decide (1 < (a0.extract ((ji14) : Int).toNat ((wrap64 (64 + (wrap64 (48 * x5_1)))) : Int).toNat).size) = true := decide_eq_true (by omega)
                          clear c45
                          replace H := Option.bind_eq_some_iff.mp H
                          obtain ⟨t239, A470, H⟩ := H
                          replace H : ((aumbryref15_number.f k1 (a0.extract ((ji14) : Int).toNat ((wrap64 (64 + (wrap64 (48 * x5_1)))) : Int).toNat) 17 6).bind fun t240 => (if 12 < ((a0.extract ((ji14) : Int).toNat ((wrap64 (64 + (wrap64 (48 * x5_1)))) : Int).toNat).size : Int) then (if (bt (a0.extract ((ji14) : Int).toNat ((wrap64 (64 + (wrap64 (48 * x5_1)))) : Int).toNat) 12) > 4 then (some (0, 0, ([] : List (S76)), 3)) else (aumbryref15_Unpack.l1 k1 a0 x5_1 (a0.extract ((ji14) : Int).toNat ((wrap64 (64 + (wrap64 (48 * x5_1)))) : Int).toNat) 0 (wrap64 (bt a0 1)) (wrap64 (t231)) x233002_1 0 t238 ([] : List Int) (wrap64 (t239)) ((bt (a0.extract ((ji14) : Int).toNat ((wrap64 (64 + (wrap64 (48 * x5_1)))) : Int).toNat) 1) == 1) t240)) else (none))) = some (r1, r2, r3, r4) := H
                          have A47 := Aside0.mk A470
                          clear A470
                          replace H := Option.bind_eq_some_iff.mp H
                          obtain ⟨t240, A480, H⟩ := H
                          replace H : (if 12 < ((a0.extract ((ji14) : Int).toNat ((wrap64 (64 + (wrap64 (48 * x5_1)))) : Int).toNat).size : Int) then (if (bt (a0.extract ((ji14) : Int).toNat ((wrap64 (64 + (wrap64 (48 * x5_1)))) : Int).toNat) 12) > 4 then (some (0, 0, ([] : List (S76)), 3)) else (aumbryref15_Unpack.l1 k1 a0 x5_1 (a0.extract ((ji14) : Int).toNat ((wrap64 (64 + (wrap64 (48 * x5_1)))) : Int).toNat) 0 (wrap64 (bt a0 1)) (wrap64 (t231)) x233002_1 0 t238 ([] : List Int) (wrap64 (t239)) ((bt (a0.extract ((ji14) : Int).toNat ((wrap64 (64 + (wrap64 (48 * x5_1)))) : Int).toNat) 1) == 1) t240)) else (none)) = some (r1, r2, r3, r4) := H
                          have A48 := Aside0.mk A480
                          clear A480
                          by_cases c49 : 12 < ((a0.extract ((ji14) : Int).toNat ((wrap64 (64 + (wrap64 (48 * x5_1)))) : Int).toNat).size : Int)
                          · rw [if_pos c49] at H
                            have c49b0 : decide (12 < ((a0.extract ((ji14) : Int).toNat ((wrap64 (64 + (wrap64 (48 * x5_1)))) : Int).toNat).size : Int)) = true := decide_eq_true c49
                            have c49b1 : decide (12 < (a0.extract ((ji14) : Int).toNat ((wrap64 (64 + (wrap64 (48 * x5_1)))) : Int).toNat).size) = true := decide_eq_true (by omega)
                            clear c49
                            have HH0 := Aside0.mk H
                            clear H
                            try go_wp2_with (first | ((with_reducible refine gate_callee (f := 43) rfl ?_); refine goesL_ (some 37) rfl rfl Try.func43 (by kernel_rfl) rfl #[.int .i64 48] rfl (by (try simp only [List.map_toArray, List.map_cons, List.map_nil]); first | done | rfl | (simp only [List.length_drop, List.length_take]; rfl)) ?_; (with_reducible refine (aumbryref01_Zeros.calls 48 t235 _ A18.out).mono ?_); rintro e w52 ⟨rfl, hb⟩; refine ⟨_, rfl, ?_⟩; have n0_ := Aside0.mk (Kd.S_below (by (with_reducible repeat (first | apply Kd.S_alloc | apply Kd.S_drewN | apply Kd.S_drew)); exact HO_233002.out) hb); have n1_ := Aside0.mk (blk_below (g := gb230) (o := .cells #[.int .i64 x231000_1, .int .i64 x231001_1, .slice none 0 0] 64 (0, 0)) (by (with_reducible repeat (first | refine blk_drewN ?_ _ | refine blk_drew ?_ | refine blk_alloc ?_ _)); exact BK230.out) hb); have n2_ := Aside0.mk (blk_below (g := gb232) (o := .cells #[.int .i64 (wrap64 (bt a0 1)), .int .i64 (wrap64 (t231)), u233002] 64 (0, 0)) (by (with_reducible repeat (first | refine blk_drewN ?_ _ | refine blk_drew ?_ | refine blk_alloc ?_ _)); exact BK232.out) hb); have n3_ := Aside0.mk (below_step (by repeat (first | (with_reducible first | exact HB.out | apply below_alloc | apply pw_below_drewN | apply below_drew1 | refine below_set ?_ GE230.out | refine below_set ?_ GE232.out) | exact HB.out)) hb); clear HO_233002; clear BK230; clear BK232; clear HB; have HO_233002 := n0_; have BK230 := n1_; have BK232 := n2_; have HB := n3_; clear n0_ n1_ n2_ n3_; (try clear hb); (try clear hb2); (try clear hk); (try clear hi)))
                            generalize hTX : a0.extract ji14.toNat (wrap64 (64 + wrap64 (48 * x5_1))).toNat = tx at *
                            have n0_ := Aside0.mk (Kd.S_drew HO_233002.out)
                            have n1_ := Aside0.mk (blk_drew BK230.out)
                            have n2_ := Aside0.mk (blk_drew BK232.out)
                            have n3_ := Aside0.mk (below_drew1 HB.out)
                            clear HO_233002
                            clear BK230
                            clear BK232
                            clear HB
                            have HO_233002 := n0_
                            have BK230 := n1_
                            have BK232 := n2_
                            have HB := n3_
                            clear n0_ n1_ n2_ n3_
                            have p46 : 0 ≤ (1 : Int) := (by omega)
                            have q46 : 1 < tx.size := (by have : (1 : Int) < (tx.size : Int) := of_decide_eq_true (by first | (with_reducible assumption) | assumption); omega)
                            have hx46 : ∀ h : 1 < tx.size, ((tx[1]'h).toNat : Int) = bt tx 1 := bt_at tx 1
                            clear p46
                            have qi46 : (1 < (tx.size : Int)) = True := eq_true (of_decide_eq_true (by first | (with_reducible assumption) | assumption))
                            replace q46 := eq_true q46
                            refine start_ (n := 14) (S := fun w' => True) (ds := []) #[false, false, false, false, false, false, false, false, false, false, false, false, false, false] (by kernel_rfl) rfl rfl trivial (fun hHeld => ?_); refine with_tabW aumbryref15_Unpack.tab9 aumbryref15_Unpack.bits9 (fun HT_ HW_ => ?_)
                            generalize w52.drew = w53 at HO_233002 BK230 BK232 HB hHeld ⊢
                            refine pure_ (i := 0) (N := some 39) (v := ?_) (a' := ?_) #[true, false, false, false, false, false, false, false, false, false, false, false, false, false] rfl rfl (any_of HT_.out (by kernel_rfl)) (fun _ _ _ h => h) (Or.inl ⟨by rfl, ?_⟩) ?_ ?_
                            rotate_left
                            · intro w'
                              go_simp
                              with_reducible rfl
                            rotate_left
                            · simp only [Act.put, List.setIfInBounds_toArray, List.set_cons_zero, List.set_cons_succ, i64_w, i32_w]
                              rfl
                            refine pure_ (i := 1) (N := some 40) (v := ?_) (a' := ?_) #[true, true, false, false, false, false, false, false, false, false, false, false, false, false] rfl rfl (any_of HT_.out (by kernel_rfl)) (fun _ _ _ h => h) (Or.inl ⟨by rfl, ?_⟩) ?_ ?_
                            rotate_left
                            · intro w'
                              go_simp
                              with_reducible rfl
                            rotate_left
                            · simp only [Act.put, List.setIfInBounds_toArray, List.set_cons_zero, List.set_cons_succ, i64_w, i32_w]
                              rfl
                            refine pure_ (i := 3) (N := some 42) (v := ?_) (a' := ?_) #[true, true, false, true, false, false, false, false, false, false, false, false, false, false] rfl rfl (any_of HT_.out (by kernel_rfl)) (fun _ _ _ h => h) (Or.inl ⟨by rfl, ?_⟩) ?_ ?_
                            rotate_left
                            · intro w'
                              go_simp
                              with_reducible rfl
                            rotate_left
                            · simp only [Act.put, List.setIfInBounds_toArray, List.set_cons_zero, List.set_cons_succ, i64_w, i32_w]
                              rfl
                            refine pure_ (i := 6) (N := some 45) (v := ?_) (a' := ?_) #[true, true, false, true, false, false, true, false, false, false, false, false, false, false] rfl rfl (any_of HT_.out (by kernel_rfl)) (fun _ _ _ h => h) (Or.inl ⟨by rfl, ?_⟩) ?_ ?_
                            rotate_left
                            · intro w'
                              go_simp
                              with_reducible rfl
                            rotate_left
                            · simp only [Act.put, List.setIfInBounds_toArray, List.set_cons_zero, List.set_cons_succ, i64_w, i32_w]
                              rfl
                            refine pure_ (i := 9) (N := some 48) (v := ?_) (a' := ?_) #[true, true, false, true, false, false, true, false, false, true, false, false, false, false] rfl rfl (any_of HT_.out (by kernel_rfl)) (fun _ _ _ h => h) (Or.inl ⟨by rfl, ?_⟩) ?_ ?_
                            rotate_left
                            · intro w'
                              go_simp
                              with_reducible rfl
                            rotate_left
                            · simp only [Act.put, List.setIfInBounds_toArray, List.set_cons_zero, List.set_cons_succ, i64_w, i32_w]
                              rfl
                            refine take_ (i := 4) (N := some 43) (v := ?_) (a' := ?_) #[true, true, false, true, true, false, true, false, false, true, false, false, false, false] rfl rfl (take_ofW HT_.out HW_.out (by kernel_rfl)) (fun _ _ _ h => h) (Or.inl ⟨by rfl, ?_⟩) hHeld ?_ ?_
                            rotate_left
                            · intro w' _
                              go_simp
                              with_reducible rfl
                            rotate_left
                            · simp only [Act.put, List.setIfInBounds_toArray, List.set_cons_zero, List.set_cons_succ, i64_w, i32_w]
                              rfl
                            refine pure_ (i := 5) (N := some 44) (v := ?_) (a' := ?_) #[true, true, false, true, true, true, true, false, false, true, false, false, false, false] rfl rfl (any_of HT_.out (by kernel_rfl)) (fun _ _ _ h => h) (Or.inl ⟨by rfl, ?_⟩) ?_ ?_
                            rotate_left
                            · intro w'
                              go_simp
                              with_reducible rfl
                            rotate_left
                            · simp only [Act.put, List.setIfInBounds_toArray, List.set_cons_zero, List.set_cons_succ, i64_w, i32_w]
                              rfl
                            refine join_ (σ := Nat) 1 #[true, true, true, true, true, true, true, true, true, true, true, true, true, false] (fun s_ => [(41, .string t238), (46, .int .u64 t239), (49, .int .u64 t240), (7, .pointer (some ⟨s_, 0, none⟩)), (47, .int .i64 (wrap64 (t239))), (50, .agg #[.int .u64 0, .string t238, .slice none 0 0, .int .i64 (wrap64 (t239)), .bool ((bt tx 1) == 1), .int .u64 t240])]) (fun s_ w' => (Kd.S k76 76 w' w.heap.size (fun k_ => k_ ≠ s_) u233002 x233002_1) ∧ (w'.heap[gb230]? = some (.cells #[.int .i64 x231000_1, .int .i64 x231001_1, .slice none 0 0] 64 (0, 0))) ∧ (w'.heap[gb232]? = some (.cells #[.int .i64 (wrap64 (bt a0 1)), .int .i64 (wrap64 (t231)), u233002] 64 (0, 0))) ∧ (w'.heap[s_]? = some (.cells #[.int .u64 0, .string (⟨#[]⟩ : ByteArray), .slice none 0 0, .int .i64 0, .bool false, .int .u64 0] 76 (0, 0))) ∧ (w.heap.size ≤ s_) ∧ (w.heap.size ≤ s_) ∧ (gb230 ≠ s_) ∧ (s_ ≠ gb230) ∧ (gb232 ≠ s_) ∧ (s_ ≠ gb232) ∧ (Below w.heap.size w w')) ?_ ?_
                            rotate_left
                            · intro hCont
                              refine two_ (i := 2) (j := 12) (Ni := some 41) (Nj := some 7) #[true, true, true, true, true, true, true, false, false, true, false, false, false, false] #[true, true, false, true, true, true, true, false, false, true, false, false, true, false] rfl rfl rfl rfl (two_of HT_.out (by kernel_rfl)) (by decide) (by decide) (fun K hK => ?_) (fun K hK => ?_)
                              · skip
                                refine goes_ Try.func66 (by kernel_rfl) rfl #[.string (tx.extract 4 12)] (by rfl) rfl rfl (by (try simp only [List.map_toArray, List.map_cons, List.map_nil]); first | done | (simp only [hji14]; rfl) | rfl | (simp only [List.length_drop, List.length_take]; rfl)) ?_
                                with_reducible refine (aumbryref01_Trim.calls k1 (tx.extract 4 12) t238 _ A44.out).mono ?_
                                rintro e w' ⟨rfl, ⟨nd, rfl⟩⟩
                                refine ⟨_, rfl, ?_⟩
                                refine hK.out _ _ trivial (fun hHeld => ?_)
                                clear hK K
                                refine norm_ (a' := ?_) ?_ ?_
                                rotate_left
                                · show Act.put _ (some 41) _ = _
                                  simp only [Act.put, List.setIfInBounds_toArray, List.set_cons_zero, List.set_cons_succ, i64_w, i32_w]
                                  rfl
                                refine two_ (i := 7) (j := 12) (Ni := some 46) (Nj := some 7) #[true, true, true, true, true, true, true, true, false, true, false, false, false, false] #[true, true, true, true, true, true, true, false, false, true, false, false, true, false] rfl rfl rfl rfl (two_of HT_.out (by kernel_rfl)) (by decide) (by decide) (fun K hK => ?_) (fun K hK => ?_)
                                · skip
                                  refine goes_ Try.func65 (by kernel_rfl) rfl #[.string tx, .int .i64 13, .int .i64 4] (by rfl) rfl rfl (by (try simp only [List.map_toArray, List.map_cons, List.map_nil]); first | done | (simp only [hji14]; rfl) | rfl | (simp only [List.length_drop, List.length_take]; rfl)) ?_
                                  with_reducible refine (aumbryref15_number.calls k1 tx 13 4 t239 _ A47.out).mono ?_
                                  rintro e w' ⟨rfl, ⟨nd, rfl⟩⟩
                                  refine ⟨_, rfl, ?_⟩
                                  refine hK.out _ _ trivial (fun hHeld => ?_)
                                  clear hK K
                                  refine norm_ (a' := ?_) ?_ ?_
                                  rotate_left
                                  · show Act.put _ (some 46) _ = _
                                    simp only [Act.put, List.setIfInBounds_toArray, List.set_cons_zero, List.set_cons_succ, i64_w, i32_w]
                                    rfl
                                  refine pure_ (i := 8) (N := some 47) (v := ?_) (a' := ?_) #[true, true, true, true, true, true, true, true, true, true, false, false, false, false] rfl rfl (any_of HT_.out (by kernel_rfl)) (fun _ _ _ h => h) (Or.inl ⟨by rfl, ?_⟩) ?_ ?_
                                  rotate_left
                                  · intro w'
                                    go_simp
                                    with_reducible rfl
                                  rotate_left
                                  · simp only [Act.put, List.setIfInBounds_toArray, List.set_cons_zero, List.set_cons_succ, i64_w, i32_w]
                                    rfl
                                  refine two_ (i := 10) (j := 12) (Ni := some 49) (Nj := some 7) #[true, true, true, true, true, true, true, true, true, true, true, false, false, false] #[true, true, true, true, true, true, true, true, true, true, false, false, true, false] rfl rfl rfl rfl (two_of HT_.out (by kernel_rfl)) (by decide) (by decide) (fun K hK => ?_) (fun K hK => ?_)
                                  · skip
                                    refine goes_ Try.func65 (by kernel_rfl) rfl #[.string tx, .int .i64 17, .int .i64 6] (by rfl) rfl rfl (by (try simp only [List.map_toArray, List.map_cons, List.map_nil]); first | done | (simp only [hji14]; rfl) | rfl | (simp only [List.length_drop, List.length_take]; rfl)) ?_
                                    with_reducible refine (aumbryref15_number.calls k1 tx 17 6 t240 _ A48.out).mono ?_
                                    rintro e w' ⟨rfl, ⟨nd, rfl⟩⟩
                                    refine ⟨_, rfl, ?_⟩
                                    refine hK.out _ _ trivial (fun hHeld => ?_)
                                    clear hK K
                                    refine norm_ (a' := ?_) ?_ ?_
                                    rotate_left
                                    · show Act.put _ (some 49) _ = _
                                      simp only [Act.put, List.setIfInBounds_toArray, List.set_cons_zero, List.set_cons_succ, i64_w, i32_w]
                                      rfl
                                    refine pure_ (i := 11) (N := some 50) (v := ?_) (a' := ?_) #[true, true, true, true, true, true, true, true, true, true, true, true, false, false] rfl rfl (any_of HT_.out (by kernel_rfl)) (fun _ _ _ h => h) (Or.inl ⟨by rfl, ?_⟩) ?_ ?_
                                    rotate_left
                                    · intro w'
                                      go_simp
                                      with_reducible rfl
                                    rotate_left
                                    · simp only [Act.put, List.setIfInBounds_toArray, List.set_cons_zero, List.set_cons_succ, i64_w, i32_w]
                                      rfl
                                    refine one_ (i := 12) (N := some 7) #[true, true, true, true, true, true, true, true, true, true, true, true, true, false] rfl rfl (one_of HT_.out (by kernel_rfl)) (by decide) (fun K hK => ?_)
                                    refine box_step ?hg (N := 7) ?hd (cs := #[.int .u64 0, .string (⟨#[]⟩ : ByteArray), .slice none 0 0, .int .i64 0, .bool false, .int .u64 0]) (t := 76) ?hr ?_; (case hd => rfl); (case hg => rfl); (case hr => first | (go_simp; done) | (go_simp; rfl))
                                    intro gb241 hg w54 hbox hb
                                    have n0_ := Aside0.mk (Kd.S_below (Kd.S_elderB (by (with_reducible repeat (first | apply Kd.S_alloc | apply Kd.S_drewN | apply Kd.S_drew)); exact HO_233002.out) gb241 (Nat.le_of_eq hg.symm)) hb)
                                    have n1_ := Aside0.mk (blk_below (g := gb230) (o := .cells #[.int .i64 x231000_1, .int .i64 x231001_1, .slice none 0 0] 64 (0, 0)) (by (with_reducible repeat (first | refine blk_drewN ?_ _ | refine blk_drew ?_ | refine blk_alloc ?_ _)); exact BK230.out) hb)
                                    have n2_ := Aside0.mk (blk_below (g := gb232) (o := .cells #[.int .i64 (wrap64 (bt a0 1)), .int .i64 (wrap64 (t231)), u233002] 64 (0, 0)) (by (with_reducible repeat (first | refine blk_drewN ?_ _ | refine blk_drew ?_ | refine blk_alloc ?_ _)); exact BK232.out) hb)
                                    have n3_ := Aside0.mk (below_step (by repeat (first | (with_reducible first | exact HB.out | apply below_alloc | apply pw_below_drewN | apply below_drew1 | refine below_set ?_ GE230.out | refine below_set ?_ GE232.out) | exact HB.out)) hb)
                                    have n4_ := Aside0.mk (hbox)
                                    have n5_ := Aside0.mk ((by rw [hg]; exact (below_size (by repeat (first | (with_reducible first | exact HB.out | apply below_alloc | apply pw_below_drewN | apply below_drew1 | refine below_set ?_ GE230.out | refine below_set ?_ GE232.out) | exact HB.out))) : w.heap.size ≤ gb241))
                                    have n6_ := Aside0.mk ((by rw [hg]; exact (below_size (by repeat (first | (with_reducible first | exact HB.out | apply below_alloc | apply pw_below_drewN | apply below_drew1 | refine below_set ?_ GE230.out | refine below_set ?_ GE232.out) | exact HB.out))) : w.heap.size ≤ gb241))
                                    have n7_ := Aside0.mk ((by rw [hg]; exact Nat.ne_of_lt (blk_lt (g := gb230) (o := .cells #[.int .i64 x231000_1, .int .i64 x231001_1, .slice none 0 0] 64 (0, 0)) (by (with_reducible repeat (first | refine blk_drewN ?_ _ | refine blk_drew ?_ | refine blk_alloc ?_ _)); exact BK230.out)) : gb230 ≠ gb241))
                                    have n8_ := Aside0.mk ((by rw [hg]; exact Nat.ne_of_gt (blk_lt (g := gb230) (o := .cells #[.int .i64 x231000_1, .int .i64 x231001_1, .slice none 0 0] 64 (0, 0)) (by (with_reducible repeat (first | refine blk_drewN ?_ _ | refine blk_drew ?_ | refine blk_alloc ?_ _)); exact BK230.out)) : gb241 ≠ gb230))
                                    have n9_ := Aside0.mk ((by rw [hg]; exact Nat.ne_of_lt (blk_lt (g := gb232) (o := .cells #[.int .i64 (wrap64 (bt a0 1)), .int .i64 (wrap64 (t231)), u233002] 64 (0, 0)) (by (with_reducible repeat (first | refine blk_drewN ?_ _ | refine blk_drew ?_ | refine blk_alloc ?_ _)); exact BK232.out)) : gb232 ≠ gb241))
                                    have n10_ := Aside0.mk ((by rw [hg]; exact Nat.ne_of_gt (blk_lt (g := gb232) (o := .cells #[.int .i64 (wrap64 (bt a0 1)), .int .i64 (wrap64 (t231)), u233002] 64 (0, 0)) (by (with_reducible repeat (first | refine blk_drewN ?_ _ | refine blk_drew ?_ | refine blk_alloc ?_ _)); exact BK232.out)) : gb241 ≠ gb232))
                                    clear HO_233002
                                    clear BK230
                                    clear BK232
                                    clear HB
                                    have HO_233002 := n0_
                                    have BK230 := n1_
                                    have BK232 := n2_
                                    have HB := n3_
                                    have BK241 := n4_
                                    have GW241 := n5_
                                    have GE241 := n6_
                                    have NB230_241 := n7_
                                    have NB241_230 := n8_
                                    have NB232_241 := n9_
                                    have NB241_232 := n10_
                                    clear n0_ n1_ n2_ n3_ n4_ n5_ n6_ n7_ n8_ n9_ n10_
                                    clear hb hbox hg
                                    refine hK.out _ _ trivial (fun hHeld => ?_)
                                    clear hK K
                                    refine norm_ (a' := ?_) ?_ ?_
                                    rotate_left
                                    · show Act.put _ (some 7) _ = _
                                      simp only [Act.put, List.setIfInBounds_toArray, List.set_cons_zero, List.set_cons_succ, i64_w, i32_w]
                                      rfl
                                    exact norm_ (by simp only [putAll, Act.put, List.setIfInBounds_toArray, List.set_cons_zero, List.set_cons_succ]) (hCont (gb241) _ ⟨(by (with_reducible repeat (first | apply Kd.S_alloc | apply Kd.S_drewN | apply Kd.S_drew)); exact Kd.S_mono HO_233002.out (fun _ hk => hk.2)), (by (with_reducible repeat (first | refine blk_drewN ?_ _ | refine blk_drew ?_ | refine blk_alloc ?_ _)); exact BK230.out), (by (with_reducible repeat (first | refine blk_drewN ?_ _ | refine blk_drew ?_ | refine blk_alloc ?_ _)); exact BK232.out), (by (with_reducible repeat (first | refine blk_drewN ?_ _ | refine blk_drew ?_ | refine blk_alloc ?_ _)); exact BK241.out), GW241.out, GE241.out, NB230_241.out, NB241_230.out, NB232_241.out, NB241_232.out, (by repeat (first | (with_reducible first | exact HB.out | apply below_alloc | apply pw_below_drewN | apply below_drew1 | refine below_set ?_ GE230.out | refine below_set ?_ GE232.out | refine below_set ?_ GE241.out) | exact HB.out))⟩)
                                  · skip
                                    refine box_step ?hg (N := 7) ?hd (cs := #[.int .u64 0, .string (⟨#[]⟩ : ByteArray), .slice none 0 0, .int .i64 0, .bool false, .int .u64 0]) (t := 76) ?hr ?_; (case hd => rfl); (case hg => rfl); (case hr => first | (go_simp; done) | (go_simp; rfl))
                                    intro gb241 hg w54 hbox hb
                                    have n0_ := Aside0.mk (Kd.S_below (Kd.S_elderB (by (with_reducible repeat (first | apply Kd.S_alloc | apply Kd.S_drewN | apply Kd.S_drew)); exact HO_233002.out) gb241 (Nat.le_of_eq hg.symm)) hb)
                                    have n1_ := Aside0.mk (blk_below (g := gb230) (o := .cells #[.int .i64 x231000_1, .int .i64 x231001_1, .slice none 0 0] 64 (0, 0)) (by (with_reducible repeat (first | refine blk_drewN ?_ _ | refine blk_drew ?_ | refine blk_alloc ?_ _)); exact BK230.out) hb)
                                    have n2_ := Aside0.mk (blk_below (g := gb232) (o := .cells #[.int .i64 (wrap64 (bt a0 1)), .int .i64 (wrap64 (t231)), u233002] 64 (0, 0)) (by (with_reducible repeat (first | refine blk_drewN ?_ _ | refine blk_drew ?_ | refine blk_alloc ?_ _)); exact BK232.out) hb)
                                    have n3_ := Aside0.mk (below_step (by repeat (first | (with_reducible first | exact HB.out | apply below_alloc | apply pw_below_drewN | apply below_drew1 | refine below_set ?_ GE230.out | refine below_set ?_ GE232.out) | exact HB.out)) hb)
                                    have n4_ := Aside0.mk (hbox)
                                    have n5_ := Aside0.mk ((by rw [hg]; exact (below_size (by repeat (first | (with_reducible first | exact HB.out | apply below_alloc | apply pw_below_drewN | apply below_drew1 | refine below_set ?_ GE230.out | refine below_set ?_ GE232.out) | exact HB.out))) : w.heap.size ≤ gb241))
                                    have n6_ := Aside0.mk ((by rw [hg]; exact (below_size (by repeat (first | (with_reducible first | exact HB.out | apply below_alloc | apply pw_below_drewN | apply below_drew1 | refine below_set ?_ GE230.out | refine below_set ?_ GE232.out) | exact HB.out))) : w.heap.size ≤ gb241))
                                    have n7_ := Aside0.mk ((by rw [hg]; exact Nat.ne_of_lt (blk_lt (g := gb230) (o := .cells #[.int .i64 x231000_1, .int .i64 x231001_1, .slice none 0 0] 64 (0, 0)) (by (with_reducible repeat (first | refine blk_drewN ?_ _ | refine blk_drew ?_ | refine blk_alloc ?_ _)); exact BK230.out)) : gb230 ≠ gb241))
                                    have n8_ := Aside0.mk ((by rw [hg]; exact Nat.ne_of_gt (blk_lt (g := gb230) (o := .cells #[.int .i64 x231000_1, .int .i64 x231001_1, .slice none 0 0] 64 (0, 0)) (by (with_reducible repeat (first | refine blk_drewN ?_ _ | refine blk_drew ?_ | refine blk_alloc ?_ _)); exact BK230.out)) : gb241 ≠ gb230))
                                    have n9_ := Aside0.mk ((by rw [hg]; exact Nat.ne_of_lt (blk_lt (g := gb232) (o := .cells #[.int .i64 (wrap64 (bt a0 1)), .int .i64 (wrap64 (t231)), u233002] 64 (0, 0)) (by (with_reducible repeat (first | refine blk_drewN ?_ _ | refine blk_drew ?_ | refine blk_alloc ?_ _)); exact BK232.out)) : gb232 ≠ gb241))
                                    have n10_ := Aside0.mk ((by rw [hg]; exact Nat.ne_of_gt (blk_lt (g := gb232) (o := .cells #[.int .i64 (wrap64 (bt a0 1)), .int .i64 (wrap64 (t231)), u233002] 64 (0, 0)) (by (with_reducible repeat (first | refine blk_drewN ?_ _ | refine blk_drew ?_ | refine blk_alloc ?_ _)); exact BK232.out)) : gb241 ≠ gb232))
                                    clear HO_233002
                                    clear BK230
                                    clear BK232
                                    clear HB
                                    have HO_233002 := n0_
                                    have BK230 := n1_
                                    have BK232 := n2_
                                    have HB := n3_
                                    have BK241 := n4_
                                    have GW241 := n5_
                                    have GE241 := n6_
                                    have NB230_241 := n7_
                                    have NB241_230 := n8_
                                    have NB232_241 := n9_
                                    have NB241_232 := n10_
                                    clear n0_ n1_ n2_ n3_ n4_ n5_ n6_ n7_ n8_ n9_ n10_
                                    clear hb hbox hg
                                    refine hK.out _ _ trivial (fun hHeld => ?_)
                                    clear hK K
                                    refine norm_ (a' := ?_) ?_ ?_
                                    rotate_left
                                    · show Act.put _ (some 7) _ = _
                                      simp only [Act.put, List.setIfInBounds_toArray, List.set_cons_zero, List.set_cons_succ, i64_w, i32_w]
                                      rfl
                                    refine one_ (i := 10) (N := some 49) #[true, true, true, true, true, true, true, true, true, true, true, false, true, false] rfl rfl (one_of HT_.out (by kernel_rfl)) (by decide) (fun K hK => ?_)
                                    refine goes_ Try.func65 (by kernel_rfl) rfl #[.string tx, .int .i64 17, .int .i64 6] (by rfl) rfl rfl (by (try simp only [List.map_toArray, List.map_cons, List.map_nil]); first | done | (simp only [hji14]; rfl) | rfl | (simp only [List.length_drop, List.length_take]; rfl)) ?_
                                    with_reducible refine (aumbryref15_number.calls k1 tx 17 6 t240 _ A48.out).mono ?_
                                    rintro e w' ⟨rfl, ⟨nd, rfl⟩⟩
                                    refine ⟨_, rfl, ?_⟩
                                    refine hK.out _ _ trivial (fun hHeld => ?_)
                                    clear hK K
                                    refine norm_ (a' := ?_) ?_ ?_
                                    rotate_left
                                    · show Act.put _ (some 49) _ = _
                                      simp only [Act.put, List.setIfInBounds_toArray, List.set_cons_zero, List.set_cons_succ, i64_w, i32_w]
                                      rfl
                                    refine pure_ (i := 11) (N := some 50) (v := ?_) (a' := ?_) #[true, true, true, true, true, true, true, true, true, true, true, true, true, false] rfl rfl (any_of HT_.out (by kernel_rfl)) (fun _ _ _ h => h) (Or.inl ⟨by rfl, ?_⟩) ?_ ?_
                                    rotate_left
                                    · intro w'
                                      go_simp
                                      with_reducible rfl
                                    rotate_left
                                    · simp only [Act.put, List.setIfInBounds_toArray, List.set_cons_zero, List.set_cons_succ, i64_w, i32_w]
                                      rfl
                                    exact norm_ (by simp only [putAll, Act.put, List.setIfInBounds_toArray, List.set_cons_zero, List.set_cons_succ]) (hCont (gb241) _ ⟨(by (with_reducible repeat (first | apply Kd.S_alloc | apply Kd.S_drewN | apply Kd.S_drew)); exact Kd.S_mono HO_233002.out (fun _ hk => hk.2)), (by (with_reducible repeat (first | refine blk_drewN ?_ _ | refine blk_drew ?_ | refine blk_alloc ?_ _)); exact BK230.out), (by (with_reducible repeat (first | refine blk_drewN ?_ _ | refine blk_drew ?_ | refine blk_alloc ?_ _)); exact BK232.out), (by (with_reducible repeat (first | refine blk_drewN ?_ _ | refine blk_drew ?_ | refine blk_alloc ?_ _)); exact BK241.out), GW241.out, GE241.out, NB230_241.out, NB241_230.out, NB232_241.out, NB241_232.out, (by repeat (first | (with_reducible first | exact HB.out | apply below_alloc | apply pw_below_drewN | apply below_drew1 | refine below_set ?_ GE230.out | refine below_set ?_ GE232.out | refine below_set ?_ GE241.out) | exact HB.out))⟩)
                                · skip
                                  refine box_step ?hg (N := 7) ?hd (cs := #[.int .u64 0, .string (⟨#[]⟩ : ByteArray), .slice none 0 0, .int .i64 0, .bool false, .int .u64 0]) (t := 76) ?hr ?_; (case hd => rfl); (case hg => rfl); (case hr => first | (go_simp; done) | (go_simp; rfl))
                                  intro gb241 hg w54 hbox hb
                                  have n0_ := Aside0.mk (Kd.S_below (Kd.S_elderB (by (with_reducible repeat (first | apply Kd.S_alloc | apply Kd.S_drewN | apply Kd.S_drew)); exact HO_233002.out) gb241 (Nat.le_of_eq hg.symm)) hb)
                                  have n1_ := Aside0.mk (blk_below (g := gb230) (o := .cells #[.int .i64 x231000_1, .int .i64 x231001_1, .slice none 0 0] 64 (0, 0)) (by (with_reducible repeat (first | refine blk_drewN ?_ _ | refine blk_drew ?_ | refine blk_alloc ?_ _)); exact BK230.out) hb)
                                  have n2_ := Aside0.mk (blk_below (g := gb232) (o := .cells #[.int .i64 (wrap64 (bt a0 1)), .int .i64 (wrap64 (t231)), u233002] 64 (0, 0)) (by (with_reducible repeat (first | refine blk_drewN ?_ _ | refine blk_drew ?_ | refine blk_alloc ?_ _)); exact BK232.out) hb)
                                  have n3_ := Aside0.mk (below_step (by repeat (first | (with_reducible first | exact HB.out | apply below_alloc | apply pw_below_drewN | apply below_drew1 | refine below_set ?_ GE230.out | refine below_set ?_ GE232.out) | exact HB.out)) hb)
                                  have n4_ := Aside0.mk (hbox)
                                  have n5_ := Aside0.mk ((by rw [hg]; exact (below_size (by repeat (first | (with_reducible first | exact HB.out | apply below_alloc | apply pw_below_drewN | apply below_drew1 | refine below_set ?_ GE230.out | refine below_set ?_ GE232.out) | exact HB.out))) : w.heap.size ≤ gb241))
                                  have n6_ := Aside0.mk ((by rw [hg]; exact (below_size (by repeat (first | (with_reducible first | exact HB.out | apply below_alloc | apply pw_below_drewN | apply below_drew1 | refine below_set ?_ GE230.out | refine below_set ?_ GE232.out) | exact HB.out))) : w.heap.size ≤ gb241))
                                  have n7_ := Aside0.mk ((by rw [hg]; exact Nat.ne_of_lt (blk_lt (g := gb230) (o := .cells #[.int .i64 x231000_1, .int .i64 x231001_1, .slice none 0 0] 64 (0, 0)) (by (with_reducible repeat (first | refine blk_drewN ?_ _ | refine blk_drew ?_ | refine blk_alloc ?_ _)); exact BK230.out)) : gb230 ≠ gb241))
                                  have n8_ := Aside0.mk ((by rw [hg]; exact Nat.ne_of_gt (blk_lt (g := gb230) (o := .cells #[.int .i64 x231000_1, .int .i64 x231001_1, .slice none 0 0] 64 (0, 0)) (by (with_reducible repeat (first | refine blk_drewN ?_ _ | refine blk_drew ?_ | refine blk_alloc ?_ _)); exact BK230.out)) : gb241 ≠ gb230))
                                  have n9_ := Aside0.mk ((by rw [hg]; exact Nat.ne_of_lt (blk_lt (g := gb232) (o := .cells #[.int .i64 (wrap64 (bt a0 1)), .int .i64 (wrap64 (t231)), u233002] 64 (0, 0)) (by (with_reducible repeat (first | refine blk_drewN ?_ _ | refine blk_drew ?_ | refine blk_alloc ?_ _)); exact BK232.out)) : gb232 ≠ gb241))
                                  have n10_ := Aside0.mk ((by rw [hg]; exact Nat.ne_of_gt (blk_lt (g := gb232) (o := .cells #[.int .i64 (wrap64 (bt a0 1)), .int .i64 (wrap64 (t231)), u233002] 64 (0, 0)) (by (with_reducible repeat (first | refine blk_drewN ?_ _ | refine blk_drew ?_ | refine blk_alloc ?_ _)); exact BK232.out)) : gb241 ≠ gb232))
                                  clear HO_233002
                                  clear BK230
                                  clear BK232
                                  clear HB
                                  have HO_233002 := n0_
                                  have BK230 := n1_
                                  have BK232 := n2_
                                  have HB := n3_
                                  have BK241 := n4_
                                  have GW241 := n5_
                                  have GE241 := n6_
                                  have NB230_241 := n7_
                                  have NB241_230 := n8_
                                  have NB232_241 := n9_
                                  have NB241_232 := n10_
                                  clear n0_ n1_ n2_ n3_ n4_ n5_ n6_ n7_ n8_ n9_ n10_
                                  clear hb hbox hg
                                  refine hK.out _ _ trivial (fun hHeld => ?_)
                                  clear hK K
                                  refine norm_ (a' := ?_) ?_ ?_
                                  rotate_left
                                  · show Act.put _ (some 7) _ = _
                                    simp only [Act.put, List.setIfInBounds_toArray, List.set_cons_zero, List.set_cons_succ, i64_w, i32_w]
                                    rfl
                                  refine one_ (i := 7) (N := some 46) #[true, true, true, true, true, true, true, true, false, true, false, false, true, false] rfl rfl (one_of HT_.out (by kernel_rfl)) (by decide) (fun K hK => ?_)
                                  refine goes_ Try.func65 (by kernel_rfl) rfl #[.string tx, .int .i64 13, .int .i64 4] (by rfl) rfl rfl (by (try simp only [List.map_toArray, List.map_cons, List.map_nil]); first | done | (simp only [hji14]; rfl) | rfl | (simp only [List.length_drop, List.length_take]; rfl)) ?_
                                  with_reducible refine (aumbryref15_number.calls k1 tx 13 4 t239 _ A47.out).mono ?_
                                  rintro e w' ⟨rfl, ⟨nd, rfl⟩⟩
                                  refine ⟨_, rfl, ?_⟩
                                  refine hK.out _ _ trivial (fun hHeld => ?_)
                                  clear hK K
                                  refine norm_ (a' := ?_) ?_ ?_
                                  rotate_left
                                  · show Act.put _ (some 46) _ = _
                                    simp only [Act.put, List.setIfInBounds_toArray, List.set_cons_zero, List.set_cons_succ, i64_w, i32_w]
                                    rfl
                                  refine pure_ (i := 8) (N := some 47) (v := ?_) (a' := ?_) #[true, true, true, true, true, true, true, true, true, true, false, false, true, false] rfl rfl (any_of HT_.out (by kernel_rfl)) (fun _ _ _ h => h) (Or.inl ⟨by rfl, ?_⟩) ?_ ?_
                                  rotate_left
                                  · intro w'
                                    go_simp
                                    with_reducible rfl
                                  rotate_left
                                  · simp only [Act.put, List.setIfInBounds_toArray, List.set_cons_zero, List.set_cons_succ, i64_w, i32_w]
                                    rfl
                                  refine one_ (i := 10) (N := some 49) #[true, true, true, true, true, true, true, true, true, true, true, false, true, false] rfl rfl (one_of HT_.out (by kernel_rfl)) (by decide) (fun K hK => ?_)
                                  refine goes_ Try.func65 (by kernel_rfl) rfl #[.string tx, .int .i64 17, .int .i64 6] (by rfl) rfl rfl (by (try simp only [List.map_toArray, List.map_cons, List.map_nil]); first | done | (simp only [hji14]; rfl) | rfl | (simp only [List.length_drop, List.length_take]; rfl)) ?_
                                  with_reducible refine (aumbryref15_number.calls k1 tx 17 6 t240 _ A48.out).mono ?_
                                  rintro e w' ⟨rfl, ⟨nd, rfl⟩⟩
                                  refine ⟨_, rfl, ?_⟩
                                  refine hK.out _ _ trivial (fun hHeld => ?_)
                                  clear hK K
                                  refine norm_ (a' := ?_) ?_ ?_
                                  rotate_left
                                  · show Act.put _ (some 49) _ = _
                                    simp only [Act.put, List.setIfInBounds_toArray, List.set_cons_zero, List.set_cons_succ, i64_w, i32_w]
                                    rfl
                                  refine pure_ (i := 11) (N := some 50) (v := ?_) (a' := ?_) #[true, true, true, true, true, true, true, true, true, true, true, true, true, false] rfl rfl (any_of HT_.out (by kernel_rfl)) (fun _ _ _ h => h) (Or.inl ⟨by rfl, ?_⟩) ?_ ?_
                                  rotate_left
                                  · intro w'
                                    go_simp
                                    with_reducible rfl
                                  rotate_left
                                  · simp only [Act.put, List.setIfInBounds_toArray, List.set_cons_zero, List.set_cons_succ, i64_w, i32_w]
                                    rfl
                                  exact norm_ (by simp only [putAll, Act.put, List.setIfInBounds_toArray, List.set_cons_zero, List.set_cons_succ]) (hCont (gb241) _ ⟨(by (with_reducible repeat (first | apply Kd.S_alloc | apply Kd.S_drewN | apply Kd.S_drew)); exact Kd.S_mono HO_233002.out (fun _ hk => hk.2)), (by (with_reducible repeat (first | refine blk_drewN ?_ _ | refine blk_drew ?_ | refine blk_alloc ?_ _)); exact BK230.out), (by (with_reducible repeat (first | refine blk_drewN ?_ _ | refine blk_drew ?_ | refine blk_alloc ?_ _)); exact BK232.out), (by (with_reducible repeat (first | refine blk_drewN ?_ _ | refine blk_drew ?_ | refine blk_alloc ?_ _)); exact BK241.out), GW241.out, GE241.out, NB230_241.out, NB241_230.out, NB232_241.out, NB241_232.out, (by repeat (first | (with_reducible first | exact HB.out | apply below_alloc | apply pw_below_drewN | apply below_drew1 | refine below_set ?_ GE230.out | refine below_set ?_ GE232.out | refine below_set ?_ GE241.out) | exact HB.out))⟩)
                              · skip
                                refine box_step ?hg (N := 7) ?hd (cs := #[.int .u64 0, .string (⟨#[]⟩ : ByteArray), .slice none 0 0, .int .i64 0, .bool false, .int .u64 0]) (t := 76) ?hr ?_; (case hd => rfl); (case hg => rfl); (case hr => first | (go_simp; done) | (go_simp; rfl))
                                intro gb241 hg w54 hbox hb
                                have n0_ := Aside0.mk (Kd.S_below (Kd.S_elderB (by (with_reducible repeat (first | apply Kd.S_alloc | apply Kd.S_drewN | apply Kd.S_drew)); exact HO_233002.out) gb241 (Nat.le_of_eq hg.symm)) hb)
                                have n1_ := Aside0.mk (blk_below (g := gb230) (o := .cells #[.int .i64 x231000_1, .int .i64 x231001_1, .slice none 0 0] 64 (0, 0)) (by (with_reducible repeat (first | refine blk_drewN ?_ _ | refine blk_drew ?_ | refine blk_alloc ?_ _)); exact BK230.out) hb)
                                have n2_ := Aside0.mk (blk_below (g := gb232) (o := .cells #[.int .i64 (wrap64 (bt a0 1)), .int .i64 (wrap64 (t231)), u233002] 64 (0, 0)) (by (with_reducible repeat (first | refine blk_drewN ?_ _ | refine blk_drew ?_ | refine blk_alloc ?_ _)); exact BK232.out) hb)
                                have n3_ := Aside0.mk (below_step (by repeat (first | (with_reducible first | exact HB.out | apply below_alloc | apply pw_below_drewN | apply below_drew1 | refine below_set ?_ GE230.out | refine below_set ?_ GE232.out) | exact HB.out)) hb)
                                have n4_ := Aside0.mk (hbox)
                                have n5_ := Aside0.mk ((by rw [hg]; exact (below_size (by repeat (first | (with_reducible first | exact HB.out | apply below_alloc | apply pw_below_drewN | apply below_drew1 | refine below_set ?_ GE230.out | refine below_set ?_ GE232.out) | exact HB.out))) : w.heap.size ≤ gb241))
                                have n6_ := Aside0.mk ((by rw [hg]; exact (below_size (by repeat (first | (with_reducible first | exact HB.out | apply below_alloc | apply pw_below_drewN | apply below_drew1 | refine below_set ?_ GE230.out | refine below_set ?_ GE232.out) | exact HB.out))) : w.heap.size ≤ gb241))
                                have n7_ := Aside0.mk ((by rw [hg]; exact Nat.ne_of_lt (blk_lt (g := gb230) (o := .cells #[.int .i64 x231000_1, .int .i64 x231001_1, .slice none 0 0] 64 (0, 0)) (by (with_reducible repeat (first | refine blk_drewN ?_ _ | refine blk_drew ?_ | refine blk_alloc ?_ _)); exact BK230.out)) : gb230 ≠ gb241))
                                have n8_ := Aside0.mk ((by rw [hg]; exact Nat.ne_of_gt (blk_lt (g := gb230) (o := .cells #[.int .i64 x231000_1, .int .i64 x231001_1, .slice none 0 0] 64 (0, 0)) (by (with_reducible repeat (first | refine blk_drewN ?_ _ | refine blk_drew ?_ | refine blk_alloc ?_ _)); exact BK230.out)) : gb241 ≠ gb230))
                                have n9_ := Aside0.mk ((by rw [hg]; exact Nat.ne_of_lt (blk_lt (g := gb232) (o := .cells #[.int .i64 (wrap64 (bt a0 1)), .int .i64 (wrap64 (t231)), u233002] 64 (0, 0)) (by (with_reducible repeat (first | refine blk_drewN ?_ _ | refine blk_drew ?_ | refine blk_alloc ?_ _)); exact BK232.out)) : gb232 ≠ gb241))
                                have n10_ := Aside0.mk ((by rw [hg]; exact Nat.ne_of_gt (blk_lt (g := gb232) (o := .cells #[.int .i64 (wrap64 (bt a0 1)), .int .i64 (wrap64 (t231)), u233002] 64 (0, 0)) (by (with_reducible repeat (first | refine blk_drewN ?_ _ | refine blk_drew ?_ | refine blk_alloc ?_ _)); exact BK232.out)) : gb241 ≠ gb232))
                                clear HO_233002
                                clear BK230
                                clear BK232
                                clear HB
                                have HO_233002 := n0_
                                have BK230 := n1_
                                have BK232 := n2_
                                have HB := n3_
                                have BK241 := n4_
                                have GW241 := n5_
                                have GE241 := n6_
                                have NB230_241 := n7_
                                have NB241_230 := n8_
                                have NB232_241 := n9_
                                have NB241_232 := n10_
                                clear n0_ n1_ n2_ n3_ n4_ n5_ n6_ n7_ n8_ n9_ n10_
                                clear hb hbox hg
                                refine hK.out _ _ trivial (fun hHeld => ?_)
                                clear hK K
                                refine norm_ (a' := ?_) ?_ ?_
                                rotate_left
                                · show Act.put _ (some 7) _ = _
                                  simp only [Act.put, List.setIfInBounds_toArray, List.set_cons_zero, List.set_cons_succ, i64_w, i32_w]
                                  rfl
                                refine one_ (i := 2) (N := some 41) #[true, true, true, true, true, true, true, false, false, true, false, false, true, false] rfl rfl (one_of HT_.out (by kernel_rfl)) (by decide) (fun K hK => ?_)
                                refine goes_ Try.func66 (by kernel_rfl) rfl #[.string (tx.extract 4 12)] (by rfl) rfl rfl (by (try simp only [List.map_toArray, List.map_cons, List.map_nil]); first | done | (simp only [hji14]; rfl) | rfl | (simp only [List.length_drop, List.length_take]; rfl)) ?_
                                with_reducible refine (aumbryref01_Trim.calls k1 (tx.extract 4 12) t238 _ A44.out).mono ?_
                                rintro e w' ⟨rfl, ⟨nd, rfl⟩⟩
                                refine ⟨_, rfl, ?_⟩
                                refine hK.out _ _ trivial (fun hHeld => ?_)
                                clear hK K
                                refine norm_ (a' := ?_) ?_ ?_
                                rotate_left
                                · show Act.put _ (some 41) _ = _
                                  simp only [Act.put, List.setIfInBounds_toArray, List.set_cons_zero, List.set_cons_succ, i64_w, i32_w]
                                  rfl
                                refine one_ (i := 7) (N := some 46) #[true, true, true, true, true, true, true, true, false, true, false, false, true, false] rfl rfl (one_of HT_.out (by kernel_rfl)) (by decide) (fun K hK => ?_)
                                refine goes_ Try.func65 (by kernel_rfl) rfl #[.string tx, .int .i64 13, .int .i64 4] (by rfl) rfl rfl (by (try simp only [List.map_toArray, List.map_cons, List.map_nil]); first | done | (simp only [hji14]; rfl) | rfl | (simp only [List.length_drop, List.length_take]; rfl)) ?_
                                with_reducible refine (aumbryref15_number.calls k1 tx 13 4 t239 _ A47.out).mono ?_
                                rintro e w' ⟨rfl, ⟨nd, rfl⟩⟩
                                refine ⟨_, rfl, ?_⟩
                                refine hK.out _ _ trivial (fun hHeld => ?_)
                                clear hK K
                                refine norm_ (a' := ?_) ?_ ?_
                                rotate_left
                                · show Act.put _ (some 46) _ = _
                                  simp only [Act.put, List.setIfInBounds_toArray, List.set_cons_zero, List.set_cons_succ, i64_w, i32_w]
                                  rfl
                                refine pure_ (i := 8) (N := some 47) (v := ?_) (a' := ?_) #[true, true, true, true, true, true, true, true, true, true, false, false, true, false] rfl rfl (any_of HT_.out (by kernel_rfl)) (fun _ _ _ h => h) (Or.inl ⟨by rfl, ?_⟩) ?_ ?_
                                rotate_left
                                · intro w'
                                  go_simp
                                  with_reducible rfl
                                rotate_left
                                · simp only [Act.put, List.setIfInBounds_toArray, List.set_cons_zero, List.set_cons_succ, i64_w, i32_w]
                                  rfl
                                refine one_ (i := 10) (N := some 49) #[true, true, true, true, true, true, true, true, true, true, true, false, true, false] rfl rfl (one_of HT_.out (by kernel_rfl)) (by decide) (fun K hK => ?_)
                                refine goes_ Try.func65 (by kernel_rfl) rfl #[.string tx, .int .i64 17, .int .i64 6] (by rfl) rfl rfl (by (try simp only [List.map_toArray, List.map_cons, List.map_nil]); first | done | (simp only [hji14]; rfl) | rfl | (simp only [List.length_drop, List.length_take]; rfl)) ?_
                                with_reducible refine (aumbryref15_number.calls k1 tx 17 6 t240 _ A48.out).mono ?_
                                rintro e w' ⟨rfl, ⟨nd, rfl⟩⟩
                                refine ⟨_, rfl, ?_⟩
                                refine hK.out _ _ trivial (fun hHeld => ?_)
                                clear hK K
                                refine norm_ (a' := ?_) ?_ ?_
                                rotate_left
                                · show Act.put _ (some 49) _ = _
                                  simp only [Act.put, List.setIfInBounds_toArray, List.set_cons_zero, List.set_cons_succ, i64_w, i32_w]
                                  rfl
                                refine pure_ (i := 11) (N := some 50) (v := ?_) (a' := ?_) #[true, true, true, true, true, true, true, true, true, true, true, true, true, false] rfl rfl (any_of HT_.out (by kernel_rfl)) (fun _ _ _ h => h) (Or.inl ⟨by rfl, ?_⟩) ?_ ?_
                                rotate_left
                                · intro w'
                                  go_simp
                                  with_reducible rfl
                                rotate_left
                                · simp only [Act.put, List.setIfInBounds_toArray, List.set_cons_zero, List.set_cons_succ, i64_w, i32_w]
                                  rfl
                                exact norm_ (by simp only [putAll, Act.put, List.setIfInBounds_toArray, List.set_cons_zero, List.set_cons_succ]) (hCont (gb241) _ ⟨(by (with_reducible repeat (first | apply Kd.S_alloc | apply Kd.S_drewN | apply Kd.S_drew)); exact Kd.S_mono HO_233002.out (fun _ hk => hk.2)), (by (with_reducible repeat (first | refine blk_drewN ?_ _ | refine blk_drew ?_ | refine blk_alloc ?_ _)); exact BK230.out), (by (with_reducible repeat (first | refine blk_drewN ?_ _ | refine blk_drew ?_ | refine blk_alloc ?_ _)); exact BK232.out), (by (with_reducible repeat (first | refine blk_drewN ?_ _ | refine blk_drew ?_ | refine blk_alloc ?_ _)); exact BK241.out), GW241.out, GE241.out, NB230_241.out, NB241_230.out, NB232_241.out, NB241_232.out, (by repeat (first | (with_reducible first | exact HB.out | apply below_alloc | apply pw_below_drewN | apply below_drew1 | refine below_set ?_ GE230.out | refine below_set ?_ GE232.out | refine below_set ?_ GE241.out) | exact HB.out))⟩)
                            rintro gb241 w55 ⟨h0_, h1_, h2_, h3_, h4_, h5_, h6_, h7_, h8_, h9_, h10_⟩
                            have n0_ : Aside0 (Kd.S k76 76 w55 w.heap.size (fun k_ => k_ ≠ gb241) u233002 x233002_1) := ⟨h0_⟩
                            have n1_ : Aside0 (w55.heap[gb230]? = some (.cells #[.int .i64 x231000_1, .int .i64 x231001_1, .slice none 0 0] 64 (0, 0))) := ⟨h1_⟩
                            have n2_ : Aside0 (w55.heap[gb232]? = some (.cells #[.int .i64 (wrap64 (bt a0 1)), .int .i64 (wrap64 (t231)), u233002] 64 (0, 0))) := ⟨h2_⟩
                            have n3_ : Aside0 (w55.heap[gb241]? = some (.cells #[.int .u64 0, .string (⟨#[]⟩ : ByteArray), .slice none 0 0, .int .i64 0, .bool false, .int .u64 0] 76 (0, 0))) := ⟨h3_⟩
                            have n4_ : Aside0 (w.heap.size ≤ gb241) := ⟨h4_⟩
                            have n5_ : Aside0 (w.heap.size ≤ gb241) := ⟨h5_⟩
                            have n6_ : Aside0 (gb230 ≠ gb241) := ⟨h6_⟩
                            have n7_ : Aside0 (gb241 ≠ gb230) := ⟨h7_⟩
                            have n8_ : Aside0 (gb232 ≠ gb241) := ⟨h8_⟩
                            have n9_ : Aside0 (gb241 ≠ gb232) := ⟨h9_⟩
                            have n10_ : Aside0 (Below w.heap.size w w55) := ⟨h10_⟩
                            clear HO_233002
                            clear BK230
                            clear BK232
                            clear HB
                            clear h0_ h1_ h2_ h3_ h4_ h5_ h6_ h7_ h8_ h9_ h10_
                            have HO_233002 := n0_
                            have BK230 := n1_
                            have BK232 := n2_
                            have BK241 := n3_
                            have GW241 := n4_
                            have GE241 := n5_
                            have NB230_241 := n6_
                            have NB241_230 := n7_
                            have NB232_241 := n8_
                            have NB241_232 := n9_
                            have HB := n10_
                            clear n0_ n1_ n2_ n3_ n4_ n5_ n6_ n7_ n8_ n9_ n10_
                            have hHeld := trivial
                            refine norm_ (a' := ?_) ?_ ?_
                            rotate_left
                            · simp only [putAll, Act.put, List.setIfInBounds_toArray, List.set_cons_zero, List.set_cons_succ]
                              rfl
                            refine one_ (i := 13) (N := none) #[true, true, true, true, true, true, true, true, true, true, true, true, true, true] rfl rfl (one_of HT_.out (by kernel_rfl)) (by decide) (fun K hK => ?_)
                            have hs56 : w55.cell? ⟨gb241, 0, none⟩ = some (.int .u64 0) := (blk_cell BK241.out 0).trans rfl
                            have hfs56 := blk_frozen BK241.out 0
                            have hns56_0 := NB230_241.out
                            have hns56_1 := NB232_241.out
                            have hms56_0 := NB241_230.out
                            have hms56_1 := NB241_232.out
                            have hs57 : w55.cell? ⟨gb241, 1, none⟩ = some (.string (⟨#[]⟩ : ByteArray)) := (blk_cell BK241.out 1).trans rfl
                            have hfs57 := blk_frozen BK241.out 1
                            have hns57_0 := NB230_241.out
                            have hns57_1 := NB232_241.out
                            have hms57_0 := NB241_230.out
                            have hms57_1 := NB241_232.out
                            have hs58 : w55.cell? ⟨gb241, 2, none⟩ = some (.slice none 0 0) := (blk_cell BK241.out 2).trans rfl
                            have hfs58 := blk_frozen BK241.out 2
                            have hns58_0 := NB230_241.out
                            have hns58_1 := NB232_241.out
                            have hms58_0 := NB241_230.out
                            have hms58_1 := NB241_232.out
                            have hs59 : w55.cell? ⟨gb241, 3, none⟩ = some (.int .i64 0) := (blk_cell BK241.out 3).trans rfl
                            have hfs59 := blk_frozen BK241.out 3
                            have hns59_0 := NB230_241.out
                            have hns59_1 := NB232_241.out
                            have hms59_0 := NB241_230.out
                            have hms59_1 := NB241_232.out
                            have hs60 : w55.cell? ⟨gb241, 4, none⟩ = some (.bool false) := (blk_cell BK241.out 4).trans rfl
                            have hfs60 := blk_frozen BK241.out 4
                            have hns60_0 := NB230_241.out
                            have hns60_1 := NB232_241.out
                            have hms60_0 := NB241_230.out
                            have hms60_1 := NB241_232.out
                            have hs61 : w55.cell? ⟨gb241, 5, none⟩ = some (.int .u64 0) := (blk_cell BK241.out 5).trans rfl
                            have hfs61 := blk_frozen BK241.out 5
                            have hns61_0 := NB230_241.out
                            have hns61_1 := NB232_241.out
                            have hms61_0 := NB241_230.out
                            have hms61_1 := NB241_232.out
                            refine skip_ (w1 := ?_) (by rfl) rfl ?_ ?_
                            rotate_left
                            · go_simp
                              rfl
                            refine hK.out _ _ trivial (fun hHeld => ?_)
                            clear hK K
                            refine done_ (done_of HT_.out (by kernel_rfl)) ?_
                            have H := HH0.out
                            clear HH0
                            by_cases c51 : (bt tx 12) > 4
                            · rw [if_pos c51] at H
                              have c51b0 : decide (4 < (bt tx 12)) = true := decide_eq_true c51
                              clear c51
                              simp only [Option.some.injEq, Prod.mk.injEq] at H
                              obtain ⟨rfl, rfl, rfl, rfl⟩ := H
                              have p50 : 0 ≤ (12 : Int) := (by omega)
                              have q50 : 12 < tx.size := (by have : (12 : Int) < (tx.size : Int) := of_decide_eq_true (by first | (with_reducible assumption) | assumption); omega)
                              have hx50 : ∀ h : 12 < tx.size, ((tx[12]'h).toNat : Int) = bt tx 12 := bt_at tx 12
                              clear p50
                              have qi50 : (12 < (tx.size : Int)) = True := eq_true (of_decide_eq_true (by first | (with_reducible assumption) | assumption))
                              replace q50 := eq_true q50
                              have hnb62 := NB230_232.out
                              have hnc62 := NB232_230.out
                              have hnb63 := NB230_241.out
                              have hnc63 := NB241_230.out
                              have hcz64_0 : w55.cell? ⟨gb230, 0, none⟩ = some (.int .i64 x231000_1) := (blk_cell BK230.out 0).trans rfl
                              have hcz64_1 : w55.cell? ⟨gb230, 1, none⟩ = some (.int .i64 x231001_1) := (blk_cell BK230.out 1).trans rfl
                              have hcz64_2 : w55.cell? ⟨gb230, 2, none⟩ = some (.slice none 0 0) := (blk_cell BK230.out 2).trans rfl
                              have hfz64_0 := blk_frozen BK230.out 0
                              have hfz64_1 := blk_frozen BK230.out 1
                              have hfz64_2 := blk_frozen BK230.out 2
                              try go_wp2
                              refine bodyPost_ret (results_ct rfl _ _ gb230 64 #[.int .i64 0, .int .i64 0, .slice none 0 0] (0, 0) _ rfl (by (with_reducible repeat (first | refine blk_drewN ?_ _ | refine blk_drew ?_ | refine blk_alloc ?_ _)); refine blk_put (cs := #[.int .i64 0, .int .i64 0, .slice none 0 0]) ?_ 2 _ rfl; (with_reducible repeat (first | refine blk_drewN ?_ _ | refine blk_drew ?_ | refine blk_alloc ?_ _)); refine blk_put (cs := #[.int .i64 0, .int .i64 x231001_1, .slice none 0 0]) ?_ 1 _ rfl; (with_reducible repeat (first | refine blk_drewN ?_ _ | refine blk_drew ?_ | refine blk_alloc ?_ _)); refine blk_put (cs := #[.int .i64 x231000_1, .int .i64 x231001_1, .slice none 0 0]) ?_ 0 _ rfl; (with_reducible repeat (first | refine blk_drewN ?_ _ | refine blk_drew ?_ | refine blk_alloc ?_ _)); refine blk_far ?_ NB230_241.out _; (with_reducible repeat (first | refine blk_drewN ?_ _ | refine blk_drew ?_ | refine blk_alloc ?_ _)); refine blk_far ?_ NB230_241.out _; (with_reducible repeat (first | refine blk_drewN ?_ _ | refine blk_drew ?_ | refine blk_alloc ?_ _)); refine blk_far ?_ NB230_241.out _; (with_reducible repeat (first | refine blk_drewN ?_ _ | refine blk_drew ?_ | refine blk_alloc ?_ _)); refine blk_far ?_ NB230_241.out _; (with_reducible repeat (first | refine blk_drewN ?_ _ | refine blk_drew ?_ | refine blk_alloc ?_ _)); refine blk_far ?_ NB230_241.out _; (with_reducible repeat (first | refine blk_drewN ?_ _ | refine blk_drew ?_ | refine blk_alloc ?_ _)); refine blk_far ?_ NB230_241.out _; (with_reducible repeat (first | refine blk_drewN ?_ _ | refine blk_drew ?_ | refine blk_alloc ?_ _)); exact BK230.out) Try.underlying64 rfl (by kernel_rfl)) rfl ?_
                              exact ⟨_, by first | rfl | (simp [errW_none, errW_some] <;> rfl) | (simp only [← hji14]; first | rfl | (simp [errW_none, errW_some] <;> rfl)) | (simp [*, errW_none, errW_some] <;> rfl), by first | exact Kd.S_nil _ _ _ _ _ | exact Kd.N_nil _ _ _ _ _ | exact Kd.V_nil _ _ _ _ _ | exact Kd.Q_nil _ _ _ _ _ | exact Kd.R_nil _ _ _ _ _, by repeat (first | (with_reducible first | exact HB.out | apply below_alloc | apply pw_below_drewN | apply below_drew1 | refine below_set ?_ GE230.out | refine below_set ?_ GE232.out | refine below_set ?_ GE241.out) | exact HB.out)⟩
                            · rw [if_neg c51] at H
                              have c51b0 : decide (4 < (bt tx 12)) = false := decide_eq_false c51
                              clear c51
                              have H' := Aside0.mk H
                              clear H
                              have p50 : 0 ≤ (12 : Int) := (by omega)
                              have q50 : 12 < tx.size := (by have : (12 : Int) < (tx.size : Int) := of_decide_eq_true (by first | (with_reducible assumption) | assumption); omega)
                              have hx50 : ∀ h : 12 < tx.size, ((tx[12]'h).toNat : Int) = bt tx 12 := bt_at tx 12
                              clear p50
                              have qi50 : (12 < (tx.size : Int)) = True := eq_true (of_decide_eq_true (by first | (with_reducible assumption) | assumption))
                              replace q50 := eq_true q50
                              try go_wp2
                              go_loopg [8] k1 (fun kq v8 w' => ∃ (x8_2 : Int) (x242002_2 : List Int) (u242002 : Value), v8 = .int .i64 x8_2 ∧ Aside0 (aumbryref15_Unpack.l1 kq a0 x5_1 tx x8_2 (wrap64 (bt a0 1)) (wrap64 (t231)) x233002_1 0 t238 x242002_2 (wrap64 (t239)) ((bt tx 1) == 1) t240 = some (r1, r2, r3, r4)) ∧ Aside0 (kq ≤ k1) ∧ Aside0 (Kd.S k76 76 w' w.heap.size (fun k_ => some k_ ≠ (u242002 : Value).ownBlock ∧ k_ ≠ gb241) u233002 x233002_1) ∧ Aside0 (Kd.R (Kd.int .u64) 55 w' w.heap.size (fun _ => True) u242002 x242002_2) ∧ Aside0 (w'.heap[gb230]? = some (.cells #[.int .i64 x231000_1, .int .i64 x231001_1, (.slice none 0 0)] 64 (0, 0))) ∧ Aside0 (w'.heap[gb232]? = some (.cells #[.int .i64 (wrap64 (bt a0 1)), .int .i64 (wrap64 (t231)), u233002] 64 (0, 0))) ∧ Aside0 (w'.heap[gb241]? = some (.cells #[.int .u64 0, .string t238, u242002, .int .i64 (wrap64 (t239)), .bool ((bt tx 1) == 1), .int .u64 t240] 76 (0, 0))) ∧ Aside0 (Below w.heap.size w w'))
                              case atStart => exact ⟨(0), (([] : List Int)), (.slice none 0 0), (by first | rfl | (simp; done) | (simp [*]; done)), H', ⟨Nat.le_refl _⟩, ⟨by (with_reducible repeat (first | apply Kd.S_alloc | apply Kd.S_drewN | apply Kd.S_drew)); exact Kd.S_mono (Kd.S_far (p := ⟨gb241, 5, none⟩) (Kd.S_far (p := ⟨gb241, 4, none⟩) (Kd.S_far (p := ⟨gb241, 3, none⟩) (Kd.S_far (p := ⟨gb241, 2, none⟩) (Kd.S_far (p := ⟨gb241, 1, none⟩) (Kd.S_far (p := ⟨gb241, 0, none⟩) (Kd.S_mono HO_233002.out (fun k_ hk => (⟨hk, hk⟩ : _ ∧ k_ ≠ gb241))) (fun _ hk => hk.2) (.int .u64 0)) (fun _ hk => hk.2) (.string t238)) (fun _ hk => hk.2) (.slice none 0 0)) (fun _ hk => hk.2) (.int .i64 (wrap64 (t239)))) (fun _ hk => hk.2) (.bool ((bt tx 1) == 1))) (fun _ hk => hk.2) (.int .u64 t240)) (fun _ hk => ⟨(by simp [Value.ownBlock]), hk.1⟩)⟩, ⟨by first | exact Kd.R_nil _ _ _ _ _ | exact Kd.N_nil _ _ _ _ _ | exact Kd.V_nil _ _ _ _ _ | exact Kd.Q_nil _ _ _ _ _ | exact Kd.S_nil _ _ _ _ _⟩, ⟨by (with_reducible repeat (first | refine blk_drewN ?_ _ | refine blk_drew ?_ | refine blk_alloc ?_ _)); refine blk_far ?_ NB230_241.out _; (with_reducible repeat (first | refine blk_drewN ?_ _ | refine blk_drew ?_ | refine blk_alloc ?_ _)); refine blk_far ?_ NB230_241.out _; (with_reducible repeat (first | refine blk_drewN ?_ _ | refine blk_drew ?_ | refine blk_alloc ?_ _)); refine blk_far ?_ NB230_241.out _; (with_reducible repeat (first | refine blk_drewN ?_ _ | refine blk_drew ?_ | refine blk_alloc ?_ _)); refine blk_far ?_ NB230_241.out _; (with_reducible repeat (first | refine blk_drewN ?_ _ | refine blk_drew ?_ | refine blk_alloc ?_ _)); refine blk_far ?_ NB230_241.out _; (with_reducible repeat (first | refine blk_drewN ?_ _ | refine blk_drew ?_ | refine blk_alloc ?_ _)); refine blk_far ?_ NB230_241.out _; (with_reducible repeat (first | refine blk_drewN ?_ _ | refine blk_drew ?_ | refine blk_alloc ?_ _)); exact BK230.out⟩, ⟨by (with_reducible repeat (first | refine blk_drewN ?_ _ | refine blk_drew ?_ | refine blk_alloc ?_ _)); refine blk_far ?_ NB232_241.out _; (with_reducible repeat (first | refine blk_drewN ?_ _ | refine blk_drew ?_ | refine blk_alloc ?_ _)); refine blk_far ?_ NB232_241.out _; (with_reducible repeat (first | refine blk_drewN ?_ _ | refine blk_drew ?_ | refine blk_alloc ?_ _)); refine blk_far ?_ NB232_241.out _; (with_reducible repeat (first | refine blk_drewN ?_ _ | refine blk_drew ?_ | refine blk_alloc ?_ _)); refine blk_far ?_ NB232_241.out _; (with_reducible repeat (first | refine blk_drewN ?_ _ | refine blk_drew ?_ | refine blk_alloc ?_ _)); refine blk_far ?_ NB232_241.out _; (with_reducible repeat (first | refine blk_drewN ?_ _ | refine blk_drew ?_ | refine blk_alloc ?_ _)); refine blk_far ?_ NB232_241.out _; (with_reducible repeat (first | refine blk_drewN ?_ _ | refine blk_drew ?_ | refine blk_alloc ?_ _)); exact BK232.out⟩, ⟨by (with_reducible repeat (first | refine blk_drewN ?_ _ | refine blk_drew ?_ | refine blk_alloc ?_ _)); refine blk_put (cs := #[.int .u64 0, .string t238, .slice none 0 0, .int .i64 (wrap64 (t239)), .bool ((bt tx 1) == 1), .int .u64 0]) ?_ 5 _ rfl; (with_reducible repeat (first | refine blk_drewN ?_ _ | refine blk_drew ?_ | refine blk_alloc ?_ _)); refine blk_put (cs := #[.int .u64 0, .string t238, .slice none 0 0, .int .i64 (wrap64 (t239)), .bool false, .int .u64 0]) ?_ 4 _ rfl; (with_reducible repeat (first | refine blk_drewN ?_ _ | refine blk_drew ?_ | refine blk_alloc ?_ _)); refine blk_put (cs := #[.int .u64 0, .string t238, .slice none 0 0, .int .i64 0, .bool false, .int .u64 0]) ?_ 3 _ rfl; (with_reducible repeat (first | refine blk_drewN ?_ _ | refine blk_drew ?_ | refine blk_alloc ?_ _)); refine blk_put (cs := #[.int .u64 0, .string t238, .slice none 0 0, .int .i64 0, .bool false, .int .u64 0]) ?_ 2 _ rfl; (with_reducible repeat (first | refine blk_drewN ?_ _ | refine blk_drew ?_ | refine blk_alloc ?_ _)); refine blk_put (cs := #[.int .u64 0, .string (⟨#[]⟩ : ByteArray), .slice none 0 0, .int .i64 0, .bool false, .int .u64 0]) ?_ 1 _ rfl; (with_reducible repeat (first | refine blk_drewN ?_ _ | refine blk_drew ?_ | refine blk_alloc ?_ _)); refine blk_put (cs := #[.int .u64 0, .string (⟨#[]⟩ : ByteArray), .slice none 0 0, .int .i64 0, .bool false, .int .u64 0]) ?_ 0 _ rfl; (with_reducible repeat (first | refine blk_drewN ?_ _ | refine blk_drew ?_ | refine blk_alloc ?_ _)); exact BK241.out⟩, ⟨by repeat (first | (with_reducible first | exact HB.out | apply below_alloc | apply pw_below_drewN | apply below_drew1 | refine below_set ?_ GE230.out | refine below_set ?_ GE232.out | refine below_set ?_ GE241.out) | exact HB.out)⟩⟩
                              case round =>
                                clear H'
                                try clear p2
                                try clear c4
                                try clear p4
                                try clear q4
                                try clear hx4
                                try clear qi4
                                try clear c5
                                try clear p5
                                try clear q5
                                try clear hx5
                                try clear qi5
                                try clear c6
                                try clear p6
                                try clear c43
                                try clear p46
                                try clear q46
                                try clear hx46
                                try clear qi46
                                try clear p50
                                try clear q50
                                try clear hx50
                                try clear qi50
                                try clear c51
                                try clear c51b0
                                try clear c62
                                try clear c63
                                try clear p64
                                try clear c65
                                try clear c66
                                try clear hcz64_0
                                try clear hcz64_1
                                try clear hcz64_2
                                try clear hfz64_0
                                try clear hfz64_1
                                try clear hfz64_2
                                try clear p46
                                try clear p50
                                try clear q46
                                try clear q50
                                obtain ⟨x8_2, x242002_2, u242002, rfl, HA, HK2, HO_233002, HO_242002, BK230, BK232, BK241, HB⟩ := hrel
                                cases gk with
                                | zero => exact absurd HA.out (by simp [aumbryref15_Unpack.l1])
                                | succ k2 =>
                                  have H := HA.out
                                  clear HA
                                  simp only [aumbryref15_Unpack.l1] at H
                                  by_cases c75 : 12 < (tx.size : Int)
                                  · rw [if_pos c75] at H
                                    have c75b0 : decide (12 < (tx.size : Int)) = true := decide_eq_true c75
                                    have c75b1 : decide (12 < tx.size) = true := decide_eq_true (by omega)
                                    clear c75
                                    by_cases c77 : x8_2 < (wrap64 (bt tx 12))
                                    · rw [if_pos c77] at H
                                      have c77b0 : decide (x8_2 < (wrap64 (bt tx 12))) = true := decide_eq_true c77
                                      clear c77
                                      replace H := Option.bind_eq_some_iff.mp H
                                      obtain ⟨t242, A780, H⟩ := H
                                      replace H : (if x242002_2.length < 17592186044416 then (aumbryref15_Unpack.l1 k2 a0 x5_1 tx (wrap64 (x8_2 + 1)) (wrap64 (bt a0 1)) (wrap64 (t231)) x233002_1 0 t238 (x242002_2 ++ [t242]) (wrap64 (t239)) ((bt tx 1) == 1) t240) else (none)) = some (r1, r2, r3, r4) := H
                                      have A78 := Aside0.mk A780
                                      clear A780
                                      by_cases c79 : x242002_2.length < 17592186044416
                                      · rw [if_pos c79] at H
                                        have LMc79 := Aside0.mk c79
                                        clear c79
                                        obtain ⟨y243, hy243⟩ : ∃ y_ : List Int, y_ = (x242002_2 ++ [t242]) := ⟨_, rfl⟩
                                        replace H : (aumbryref15_Unpack.l1 k2 a0 x5_1 tx (wrap64 (x8_2 + 1)) (wrap64 (bt a0 1)) (wrap64 (t231)) x233002_1 0 t238 y243 (wrap64 (t239)) ((bt tx 1) == 1) t240) = some (r1, r2, r3, r4) := by first | (rw [hy243]; with_reducible exact H) | (have H2_ := (Option.bind_some _ _).symm.trans H; rw [hy243]; with_reducible exact H2_) | (have H2_ := (Option.bind_some _ _).symm.trans H; with_reducible exact H2_) | with_reducible exact H | (rw [hy243]; exact H) | exact H
                                        have Ny243 := Aside0.mk hy243
                                        clear hy243
                                        have H' := Aside0.mk H
                                        clear H
                                        have p76 : 0 ≤ (12 : Int) := (by omega)
                                        have q76 : 12 < tx.size := (by have : (12 : Int) < (tx.size : Int) := of_decide_eq_true (by first | (with_reducible assumption) | assumption); omega)
                                        have hx76 : ∀ h : 12 < tx.size, ((tx[12]'h).toNat : Int) = bt tx 12 := bt_at tx 12
                                        clear p76
                                        have qi76 : (12 < (tx.size : Int)) = True := eq_true (of_decide_eq_true (by first | (with_reducible assumption) | assumption))
                                        replace q76 := eq_true q76
                                        try go_wp2
                                        have n0_ := Aside0.mk (Kd.S_drew HO_233002.out)
                                        have n1_ := Aside0.mk (Kd.R_drew HO_242002.out)
                                        have n2_ := Aside0.mk (blk_drew BK230.out)
                                        have n3_ := Aside0.mk (blk_drew BK232.out)
                                        have n4_ := Aside0.mk (blk_drew BK241.out)
                                        have n5_ := Aside0.mk (below_drew1 HB.out)
                                        clear HO_233002
                                        clear HO_242002
                                        clear BK230
                                        clear BK232
                                        clear BK241
                                        clear HB
                                        have HO_233002 := n0_
                                        have HO_242002 := n1_
                                        have BK230 := n2_
                                        have BK232 := n3_
                                        have BK241 := n4_
                                        have HB := n5_
                                        clear n0_ n1_ n2_ n3_ n4_ n5_
                                        refine start_ (n := 11) (S := fun w' => w'.cell? ⟨gb241, 0, none⟩ = some (.int .u64 0) ∧ w'.cell? ⟨gb241, 1, none⟩ = some (.string t238) ∧ w'.cell? ⟨gb241, 2, none⟩ = some (u242002) ∧ w'.cell? ⟨gb241, 3, none⟩ = some (.int .i64 (wrap64 (t239))) ∧ w'.cell? ⟨gb241, 4, none⟩ = some (.bool ((bt tx 1) == 1)) ∧ w'.cell? ⟨gb241, 5, none⟩ = some (.int .u64 t240)) (ds := [10]) #[false, false, false, false, false, false, false, false, false, false, false] (by kernel_rfl) rfl rfl ⟨(blk_cell BK241.out 0).trans rfl, (blk_cell BK241.out 1).trans rfl, (blk_cell BK241.out 2).trans rfl, (blk_cell BK241.out 3).trans rfl, (blk_cell BK241.out 4).trans rfl, (blk_cell BK241.out 5).trans rfl⟩ (fun hHeld => ?_); refine with_tabW aumbryref15_Unpack.tab15 aumbryref15_Unpack.bits15 (fun HT_ HW_ => ?_)
                                        generalize wr.drew = w80 at HO_233002 HO_242002 BK230 BK232 BK241 HB hHeld ⊢
                                        refine pure_ (i := 0) (N := some 62) (v := ?_) (a' := ?_) #[true, false, false, false, false, false, false, false, false, false, false] rfl rfl (any_of HT_.out (by kernel_rfl)) (fun _ _ _ h => h) (Or.inl ⟨by rfl, ?_⟩) ?_ ?_
                                        rotate_left
                                        · intro w'
                                          go_simp
                                          with_reducible rfl
                                        rotate_left
                                        · simp only [Act.put, List.setIfInBounds_toArray, List.set_cons_zero, List.set_cons_succ, i64_w, i32_w]
                                          rfl
                                        refine pure_ (i := 2) (N := some 64) (v := ?_) (a' := ?_) #[true, false, true, false, false, false, false, false, false, false, false] rfl rfl (any_of HT_.out (by kernel_rfl)) (fun _ _ _ h => h) (Or.inl ⟨by rfl, ?_⟩) ?_ ?_
                                        rotate_left
                                        · intro w'
                                          go_simp
                                          with_reducible rfl
                                        rotate_left
                                        · simp only [Act.put, List.setIfInBounds_toArray, List.set_cons_zero, List.set_cons_succ, i64_w, i32_w]
                                          rfl
                                        refine pure_ (i := 3) (N := some 65) (v := ?_) (a' := ?_) #[true, false, true, true, false, false, false, false, false, false, false] rfl rfl (any_of HT_.out (by kernel_rfl)) (fun _ _ _ h => h) (Or.inl ⟨by rfl, ?_⟩) ?_ ?_
                                        rotate_left
                                        · intro w'
                                          go_simp
                                          with_reducible rfl
                                        rotate_left
                                        · simp only [Act.put, List.setIfInBounds_toArray, List.set_cons_zero, List.set_cons_succ, i64_w, i32_w]
                                          rfl
                                        refine pure_ (i := 4) (N := some 66) (v := ?_) (a' := ?_) #[true, false, true, true, true, false, false, false, false, false, false] rfl rfl (any_of HT_.out (by kernel_rfl)) (fun _ _ _ h => h) (Or.inl ⟨by rfl, ?_⟩) ?_ ?_
                                        rotate_left
                                        · intro w'
                                          go_simp
                                          with_reducible rfl
                                        rotate_left
                                        · simp only [Act.put, List.setIfInBounds_toArray, List.set_cons_zero, List.set_cons_succ, i64_w, i32_w]
                                          rfl
                                        refine pure_ (i := 5) (N := some 67) (v := ?_) (a' := ?_) #[true, false, true, true, true, true, false, false, false, false, false] rfl rfl (any_of HT_.out (by kernel_rfl)) (fun _ _ _ h => h) (Or.inl ⟨by rfl, ?_⟩) ?_ ?_
                                        rotate_left
                                        · intro w'
                                          go_simp
                                          with_reducible rfl
                                        rotate_left
                                        · simp only [Act.put, List.setIfInBounds_toArray, List.set_cons_zero, List.set_cons_succ, i64_w, i32_w]
                                          rfl
                                        refine take_ (i := 1) (N := some 63) (v := ?_) (a' := ?_) #[true, true, true, true, true, true, false, false, false, false, false] rfl rfl (take_ofW HT_.out HW_.out (by kernel_rfl)) (fun _ _ _ h => h) (Or.inl ⟨by rfl, ?_⟩) hHeld ?_ ?_
                                        rotate_left
                                        · rintro w' ⟨s0, s1, s2, s3, s4, s5⟩
                                          go_simp
                                          with_reducible rfl
                                        rotate_left
                                        · simp only [Act.put, List.setIfInBounds_toArray, List.set_cons_zero, List.set_cons_succ, i64_w, i32_w]
                                          rfl
                                        refine one_ (i := 6) (N := some 68) #[true, true, true, true, true, true, true, false, false, false, false] rfl rfl (one_of HT_.out (by kernel_rfl)) (by decide) (fun K hK => ?_)
                                        refine goes_ Try.func65 (by kernel_rfl) rfl #[.string tx, .int .i64 (wrap64 (23 + (wrap64 (6 * x8_2)))), .int .i64 6] (by rfl) rfl rfl (by (try simp only [List.map_toArray, List.map_cons, List.map_nil]); first | done | (simp only [hji14]; rfl) | rfl | (simp only [List.length_drop, List.length_take]; rfl)) ?_
                                        with_reducible refine (aumbryref15_number.calls k2 tx (wrap64 (23 + (wrap64 (6 * x8_2)))) 6 t242 _ A78.out).mono ?_
                                        rintro e w' ⟨rfl, ⟨nd, rfl⟩⟩
                                        refine ⟨_, rfl, ?_⟩
                                        refine hK.out _ _ ⟨(blk_cell BK241.out 0).trans rfl, (blk_cell BK241.out 1).trans rfl, (blk_cell BK241.out 2).trans rfl, (blk_cell BK241.out 3).trans rfl, (blk_cell BK241.out 4).trans rfl, (blk_cell BK241.out 5).trans rfl⟩ (fun hHeld => ?_)
                                        clear hK K
                                        refine norm_ (a' := ?_) ?_ ?_
                                        rotate_left
                                        · show Act.put _ (some 68) _ = _
                                          simp only [Act.put, List.setIfInBounds_toArray, List.set_cons_zero, List.set_cons_succ, i64_w, i32_w]
                                          rfl
                                        refine one_ (i := 7) (N := some 69) #[true, true, true, true, true, true, true, true, false, false, false] rfl rfl (one_of HT_.out (by kernel_rfl)) (by decide) (fun K hK => ?_)
                                        refine value_ (w1 := ?_) (v := ?_) (by rfl) rfl ?_ ?_
                                        rotate_left 2
                                        · go_simp
                                          constructor
                                          · rfl
                                          · rfl
                                        refine hK.out _ _ ⟨(blk_cell (blk_alloc BK241.out _) 0).trans rfl, (blk_cell (blk_alloc BK241.out _) 1).trans rfl, (blk_cell (blk_alloc BK241.out _) 2).trans rfl, (blk_cell (blk_alloc BK241.out _) 3).trans rfl, (blk_cell (blk_alloc BK241.out _) 4).trans rfl, (blk_cell (blk_alloc BK241.out _) 5).trans rfl⟩ (fun hHeld => ?_)
                                        clear hK K
                                        refine norm_ (a' := ?_) ?_ ?_
                                        rotate_left
                                        · show Act.put _ (some 69) _ = _
                                          simp only [Act.put, List.setIfInBounds_toArray, List.set_cons_zero, List.set_cons_succ, i64_w, i32_w]
                                          rfl
                                        refine one_ (i := 8) (N := some 70) #[true, true, true, true, true, true, true, true, true, false, false] rfl rfl (one_of HT_.out (by kernel_rfl)) (by decide) (fun K hK => ?_)
                                        refine Kd.R_append_step (Kd.int .u64) (w0 := w) w.heap.size (by rfl) (.tmp 63) (.tmp 69) 46 55 (.int .u64 0) 8 rfl Try.underlying46 info55 rfl (by decide) (by omega) u242002 x242002_2 t242 [.int .u64 t242] (fun _ => True) (fun _ => False) rfl rfl ?aP (fun _ hk => hk.elim) ?aF ?aO ?aB ?aS ?aL ?_
                                        (case aP => exact rfl)
                                        (case aB => exact (by repeat (first | (with_reducible first | exact HB.out | apply below_alloc | apply pw_below_drewN | apply below_drew1 | refine below_set ?_ GE230.out | refine below_set ?_ GE232.out | refine below_set ?_ GE241.out) | exact HB.out)))
                                        (case aF => exact (fun _ _ => trivial))
                                        (case aO => exact (by (with_reducible repeat (first | apply Kd.R_alloc | apply Kd.R_drewN | apply Kd.R_drew)); exact HO_242002.out))
                                        (case aS => exact (below_size (by repeat (first | (with_reducible first | exact HB.out | apply below_alloc | apply pw_below_drewN | apply below_drew1 | refine below_set ?_ GE230.out | refine below_set ?_ GE232.out | refine below_set ?_ GE241.out) | exact HB.out))))
                                        (case aL => have := LMc79.out; omega)
                                        intro v244 w81 ho hb hg hat
                                        rw [← Ny243.out] at ho
                                        have n0_ := Aside0.mk (Kd.S_after (ok := (fun k_ => k_ ≠ gb241)) (by (with_reducible repeat (first | apply Kd.S_alloc | apply Kd.S_drewN | apply Kd.S_drew)); exact Kd.S_mono HO_233002.out (fun _ hk => ⟨hk.2, hk.1⟩)) hg hat)
                                        have n1_ := Aside0.mk (blk_grown (g := gb230) (o := .cells #[.int .i64 x231000_1, .int .i64 x231001_1, .slice none 0 0] 64 (0, 0)) (by (with_reducible repeat (first | refine blk_drewN ?_ _ | refine blk_drew ?_ | refine blk_alloc ?_ _)); exact BK230.out) hg (Kd.R_ne HO_242002.out BK230.out (by decide)))
                                        have n2_ := Aside0.mk (blk_grown (g := gb232) (o := .cells #[.int .i64 (wrap64 (bt a0 1)), .int .i64 (wrap64 (t231)), u233002] 64 (0, 0)) (by (with_reducible repeat (first | refine blk_drewN ?_ _ | refine blk_drew ?_ | refine blk_alloc ?_ _)); exact BK232.out) hg (Kd.R_ne HO_242002.out BK232.out (by decide)))
                                        have n3_ := Aside0.mk (blk_grown (g := gb241) (o := .cells #[.int .u64 0, .string t238, u242002, .int .i64 (wrap64 (t239)), .bool ((bt tx 1) == 1), .int .u64 t240] 76 (0, 0)) (by (with_reducible repeat (first | refine blk_drewN ?_ _ | refine blk_drew ?_ | refine blk_alloc ?_ _)); exact BK241.out) hg (Kd.R_ne HO_242002.out BK241.out (by decide)))
                                        have n4_ := Aside0.mk (hb)
                                        have n5_ := Aside0.mk (ho)
                                        clear HO_233002
                                        clear BK230
                                        clear BK232
                                        clear BK241
                                        clear HB
                                        clear HO_242002
                                        have HO_233002 := n0_
                                        have BK230 := n1_
                                        have BK232 := n2_
                                        have BK241 := n3_
                                        have HB := n4_
                                        have HO245 := n5_
                                        clear n0_ n1_ n2_ n3_ n4_ n5_
                                        clear ho hb hg hat
                                        obtain ⟨Ao82, co82, eo82⟩ := Kd.R_slice HO245.out
                                        (first | subst eo82 | (injection eo82 with f1_ f2_ f3_; have f4_ := f1_.symm; have f5_ := f3_.symm; clear f1_ f2_ f3_; subst f4_; subst f5_))
                                        refine hK.out _ _ ⟨(blk_cell BK241.out 0).trans rfl, (blk_cell BK241.out 1).trans rfl, (blk_cell BK241.out 2).trans rfl, (blk_cell BK241.out 3).trans rfl, (blk_cell BK241.out 4).trans rfl, (blk_cell BK241.out 5).trans rfl⟩ (fun hHeld => ?_)
                                        clear hK K
                                        refine norm_ (a' := ?_) ?_ ?_
                                        rotate_left
                                        · show Act.put _ (some 70) _ = _
                                          simp only [Act.put, List.setIfInBounds_toArray, List.set_cons_zero, List.set_cons_succ, i64_w, i32_w]
                                          rfl
                                        refine pure_ (i := 9) (N := some 71) (v := ?_) (a' := ?_) #[true, true, true, true, true, true, true, true, true, true, false] rfl rfl (any_of HT_.out (by kernel_rfl)) (fun _ _ _ h => h) (Or.inl ⟨by rfl, ?_⟩) ?_ ?_
                                        rotate_left
                                        · intro w'
                                          go_simp
                                          with_reducible rfl
                                        rotate_left
                                        · simp only [Act.put, List.setIfInBounds_toArray, List.set_cons_zero, List.set_cons_succ, i64_w, i32_w]
                                          rfl
                                        refine last_ (i := 10) (N := none) #[true, true, true, true, true, true, true, true, true, true, true] rfl rfl (one_of HT_.out (by kernel_rfl)) (by decide) (fun K hK => ?_)
                                        have hs83 : w81.cell? ⟨gb241, 2, none⟩ = some (u242002) := (blk_cell BK241.out 2).trans rfl
                                        have hfs83 := blk_frozen BK241.out 2
                                        have hns83_0 := NB230_241.out
                                        have hns83_1 := NB232_241.out
                                        have hms83_0 := NB241_230.out
                                        have hms83_1 := NB241_232.out
                                        refine skip_ (w1 := ?_) (by rfl) rfl ?_ ?_
                                        rotate_left
                                        · go_simp
                                          rfl
                                        refine hK.out _ _ ?_
                                        clear hK K
                                        refine done_ (done_of HT_.out (by kernel_rfl)) ?_
                                        try go_wp2
                                        go_roundg k2
                                        case measure => have := HK1.out; have := HK2.out; omega
                                        case rel => exact ⟨(wrap64 (x8_2 + 1)), (y243), (.slice Ao82 y243.length co82), (by first | rfl | (simp; done) | (simp [*]; done)), H', ⟨by have := HK1.out; have := HK2.out; omega⟩, ⟨by (with_reducible repeat (first | apply Kd.S_alloc | apply Kd.S_drewN | apply Kd.S_drew)); exact Kd.S_mono (Kd.S_far (p := ⟨gb241, 2, none⟩) (Kd.S_mono HO_233002.out (fun k_ hk => (⟨hk, hk.1⟩ : _ ∧ k_ ≠ gb241))) (fun _ hk => hk.2) (.slice Ao82 y243.length co82)) (fun _ hk => ⟨hk.1.2, hk.1.1⟩)⟩, ⟨by (with_reducible repeat (first | apply Kd.R_alloc | apply Kd.R_drewN | apply Kd.R_drew)); exact Kd.R_mono (Kd.R_far (p := ⟨gb241, 2, none⟩) (Kd.R_types HO245.out BK241.out (by decide)) (fun _ hk => hk.2) (.slice Ao82 y243.length co82)) (fun _ hk => trivial)⟩, ⟨by (with_reducible repeat (first | refine blk_drewN ?_ _ | refine blk_drew ?_ | refine blk_alloc ?_ _)); refine blk_far ?_ NB230_241.out _; (with_reducible repeat (first | refine blk_drewN ?_ _ | refine blk_drew ?_ | refine blk_alloc ?_ _)); exact BK230.out⟩, ⟨by (with_reducible repeat (first | refine blk_drewN ?_ _ | refine blk_drew ?_ | refine blk_alloc ?_ _)); refine blk_far ?_ NB232_241.out _; (with_reducible repeat (first | refine blk_drewN ?_ _ | refine blk_drew ?_ | refine blk_alloc ?_ _)); exact BK232.out⟩, ⟨by (with_reducible repeat (first | refine blk_drewN ?_ _ | refine blk_drew ?_ | refine blk_alloc ?_ _)); refine blk_put (cs := #[.int .u64 0, .string t238, u242002, .int .i64 (wrap64 (t239)), .bool ((bt tx 1) == 1), .int .u64 t240]) ?_ 2 _ rfl; (with_reducible repeat (first | refine blk_drewN ?_ _ | refine blk_drew ?_ | refine blk_alloc ?_ _)); exact BK241.out⟩, ⟨by repeat (first | (with_reducible first | exact HB.out | apply below_alloc | apply pw_below_drewN | apply below_drew1 | refine below_set ?_ GE230.out | refine below_set ?_ GE232.out | refine below_set ?_ GE241.out) | exact HB.out)⟩⟩
                                      · rw [if_neg c79] at H
                                        exact absurd H (by simp)
                                    · rw [if_neg c77] at H
                                      have c77b0 : decide (x8_2 < (wrap64 (bt tx 12))) = false := decide_eq_false c77
                                      clear c77
                                      replace H := Option.bind_eq_some_iff.mp H
                                      obtain ⟨⟨t246, t247⟩, A840, H⟩ := H
                                      replace H : (if t247 = 0 then ((aumbryref15_number.f k2 tx 2 2).bind fun t248 => (if x233002_1.length < 1954687338268 then (aumbryref15_Unpack.l0 k2 a0 (wrap64 (x5_1 + 1)) (wrap64 (bt a0 1)) (wrap64 (t231)) (x233002_1 ++ [(⟨IntKind.u64.wrap ((IntKind.u64.wrap ((IntKind.u64.wrap (t246)) * 65536)) + t248), t238, x242002_2, (wrap64 (t239)), ((bt tx 1) == 1), t240⟩ : S76)])) else (none))) else (some (0, 0, ([] : List (S76)), 3))) = some (r1, r2, r3, r4) := H
                                      have A84 := Aside0.mk A840
                                      clear A840
                                      by_cases c85 : t247 = 0
                                      · rw [if_pos c85] at H
                                        have c85b0 : (t247 == 0) = true := beq_iff_eq.mpr c85
                                        have c85b1 : (t247 != 0) = false := bne_eq_false_iff_eq.mpr c85
                                        clear c85
                                        replace H := Option.bind_eq_some_iff.mp H
                                        obtain ⟨t248, A860, H⟩ := H
                                        replace H : (if x233002_1.length < 1954687338268 then (aumbryref15_Unpack.l0 k2 a0 (wrap64 (x5_1 + 1)) (wrap64 (bt a0 1)) (wrap64 (t231)) (x233002_1 ++ [(⟨IntKind.u64.wrap ((IntKind.u64.wrap ((IntKind.u64.wrap (t246)) * 65536)) + t248), t238, x242002_2, (wrap64 (t239)), ((bt tx 1) == 1), t240⟩ : S76)])) else (none)) = some (r1, r2, r3, r4) := H
                                        have A86 := Aside0.mk A860
                                        clear A860
                                        by_cases c87 : x233002_1.length < 1954687338268
                                        · rw [if_pos c87] at H
                                          have LMc87 := Aside0.mk c87
                                          clear c87
                                          obtain ⟨y249, hy249⟩ : ∃ y_ : List (S76), y_ = (x233002_1 ++ [(⟨IntKind.u64.wrap ((IntKind.u64.wrap ((IntKind.u64.wrap (t246)) * 65536)) + t248), t238, x242002_2, (wrap64 (t239)), ((bt tx 1) == 1), t240⟩ : S76)]) := ⟨_, rfl⟩
                                          replace H : (aumbryref15_Unpack.l0 k2 a0 (wrap64 (x5_1 + 1)) (wrap64 (bt a0 1)) (wrap64 (t231)) y249) = some (r1, r2, r3, r4) := by first | (rw [hy249]; with_reducible exact H) | (have H2_ := (Option.bind_some _ _).symm.trans H; rw [hy249]; with_reducible exact H2_) | (have H2_ := (Option.bind_some _ _).symm.trans H; with_reducible exact H2_) | with_reducible exact H | (rw [hy249]; exact H) | exact H
                                          have Ny249 := Aside0.mk hy249
                                          clear hy249
                                          have H' := Aside0.mk H
                                          clear H
                                          have p76 : 0 ≤ (12 : Int) := (by omega)
                                          have q76 : 12 < tx.size := (by have : (12 : Int) < (tx.size : Int) := of_decide_eq_true (by first | (with_reducible assumption) | assumption); omega)
                                          have hx76 : ∀ h : 12 < tx.size, ((tx[12]'h).toNat : Int) = bt tx 12 := bt_at tx 12
                                          clear p76
                                          have qi76 : (12 < (tx.size : Int)) = True := eq_true (of_decide_eq_true (by first | (with_reducible assumption) | assumption))
                                          replace q76 := eq_true q76
                                          have hnb88 := NB241_230.out
                                          have hnc88 := NB230_241.out
                                          have hnb89 := NB241_232.out
                                          have hnc89 := NB232_241.out
                                          have hcz90_0 : wr.cell? ⟨gb241, 0, none⟩ = some (.int .u64 0) := (blk_cell BK241.out 0).trans rfl
                                          have hcz90_1 : wr.cell? ⟨gb241, 1, none⟩ = some (.string t238) := (blk_cell BK241.out 1).trans rfl
                                          have hcz90_2 : wr.cell? ⟨gb241, 2, none⟩ = some (u242002) := (blk_cell BK241.out 2).trans rfl
                                          have hcz90_3 : wr.cell? ⟨gb241, 3, none⟩ = some (.int .i64 (wrap64 (t239))) := (blk_cell BK241.out 3).trans rfl
                                          have hcz90_4 : wr.cell? ⟨gb241, 4, none⟩ = some (.bool ((bt tx 1) == 1)) := (blk_cell BK241.out 4).trans rfl
                                          have hcz90_5 : wr.cell? ⟨gb241, 5, none⟩ = some (.int .u64 t240) := (blk_cell BK241.out 5).trans rfl
                                          have hfz90_0 := blk_frozen BK241.out 0
                                          have hfz90_1 := blk_frozen BK241.out 1
                                          have hfz90_2 := blk_frozen BK241.out 2
                                          have hfz90_3 := blk_frozen BK241.out 3
                                          have hfz90_4 := blk_frozen BK241.out 4
                                          have hfz90_5 := blk_frozen BK241.out 5
                                          obtain ⟨Ao91, co91, eo91⟩ := Kd.R_slice HO_242002.out
                                          subst eo91
                                          go_wp2_with (first | ((with_reducible refine gate_callee (f := 32) rfl ?_); refine goesL_ (some 77) rfl rfl Try.func32 (by kernel_rfl) rfl #[.string t238, .slice Ao91 x242002_2.length co91] rfl (by (try simp only [List.map_toArray, List.map_cons, List.map_nil]); first | done | rfl | (simp only [List.length_drop, List.length_take]; rfl)) ?_; (with_reducible refine (aumbryref15_Hash.calls k2 t238 _ _ x242002_2 t246 t247 _ ?side1 ?side2 A84.out).mono ?_); (case side1 => repeat (first | exact (Kd.R_reads' HO_242002.out).2.2 | (with_reducible refine Kd.C_alloc ?_ _) | (with_reducible refine Kd.C_drewN ?_ _) | (with_reducible refine Kd.C_drew ?_))); (case side2 => exact (Kd.R_reads' HO_242002.out).2.1); rintro e w92 ⟨rfl, hb⟩; refine ⟨_, rfl, ?_⟩; have n0_ := Aside0.mk (Kd.S_below (by (with_reducible repeat (first | apply Kd.S_alloc | apply Kd.S_drewN | apply Kd.S_drew)); exact HO_233002.out) hb); have n1_ := Aside0.mk (Kd.R_below (by (with_reducible repeat (first | apply Kd.R_alloc | apply Kd.R_drewN | apply Kd.R_drew)); exact HO_242002.out) hb); have n2_ := Aside0.mk (blk_below (g := gb230) (o := .cells #[.int .i64 x231000_1, .int .i64 x231001_1, .slice none 0 0] 64 (0, 0)) (by (with_reducible repeat (first | refine blk_drewN ?_ _ | refine blk_drew ?_ | refine blk_alloc ?_ _)); exact BK230.out) hb); have n3_ := Aside0.mk (blk_below (g := gb232) (o := .cells #[.int .i64 (wrap64 (bt a0 1)), .int .i64 (wrap64 (t231)), u233002] 64 (0, 0)) (by (with_reducible repeat (first | refine blk_drewN ?_ _ | refine blk_drew ?_ | refine blk_alloc ?_ _)); exact BK232.out) hb); have n4_ := Aside0.mk (blk_below (g := gb241) (o := .cells #[.int .u64 0, .string t238, .slice Ao91 x242002_2.length co91, .int .i64 (wrap64 (t239)), .bool ((bt tx 1) == 1), .int .u64 t240] 76 (0, 0)) (by (with_reducible repeat (first | refine blk_drewN ?_ _ | refine blk_drew ?_ | refine blk_alloc ?_ _)); exact BK241.out) hb); have n5_ := Aside0.mk (below_step (by repeat (first | (with_reducible first | exact HB.out | apply below_alloc | apply pw_below_drewN | apply below_drew1 | refine below_set ?_ GE230.out | refine below_set ?_ GE232.out | refine below_set ?_ GE241.out) | exact HB.out)) hb); clear HO_233002; clear HO_242002; clear BK230; clear BK232; clear BK241; clear HB; have HO_233002 := n0_; have HO_242002 := n1_; have BK230 := n2_; have BK232 := n3_; have BK241 := n4_; have HB := n5_; clear n0_ n1_ n2_ n3_ n4_ n5_; (try clear hb); (try clear hb2); (try clear hk); (try clear hi)) | ((with_reducible refine gate_callee (f := 65) rfl ?_); refine goesL_ (some 87) rfl rfl Try.func65 (by kernel_rfl) rfl #[.string tx, .int .i64 2, .int .i64 2] rfl (by (try simp only [List.map_toArray, List.map_cons, List.map_nil]); first | done | (simp only [hji14]; rfl) | rfl | (simp only [List.length_drop, List.length_take]; rfl)) ?_; (with_reducible refine (aumbryref15_number.calls k2 tx 2 2 t248 _ A86.out).mono ?_); rintro e w' ⟨rfl, ⟨nd, rfl⟩⟩; refine ⟨_, rfl, ?_⟩; (try (rw [drewN_self w92]; generalize hq_ : World.drewN w92 _ = w92; have n0_ : Aside0 (Kd.S k76 76 w92 w.heap.size (fun k_ => some k_ ≠ (.slice Ao91 x242002_2.length co91 : Value).ownBlock ∧ k_ ≠ gb241) u233002 x233002_1) := ⟨by rw [← hq_]; exact (by (with_reducible repeat (first | apply Kd.S_alloc | apply Kd.S_drewN | apply Kd.S_drew)); exact HO_233002.out)⟩; have n1_ : Aside0 (Kd.R (Kd.int .u64) 55 w92 w.heap.size (fun _ => True) (.slice Ao91 x242002_2.length co91) x242002_2) := ⟨by rw [← hq_]; exact (by (with_reducible repeat (first | apply Kd.R_alloc | apply Kd.R_drewN | apply Kd.R_drew)); exact HO_242002.out)⟩; have n2_ : Aside0 (w92.heap[gb230]? = some (.cells #[.int .i64 x231000_1, .int .i64 x231001_1, .slice none 0 0] 64 (0, 0))) := ⟨by rw [← hq_]; exact (by (with_reducible repeat (first | refine blk_drewN ?_ _ | refine blk_drew ?_ | refine blk_alloc ?_ _)); exact BK230.out)⟩; have n3_ : Aside0 (w92.heap[gb232]? = some (.cells #[.int .i64 (wrap64 (bt a0 1)), .int .i64 (wrap64 (t231)), u233002] 64 (0, 0))) := ⟨by rw [← hq_]; exact (by (with_reducible repeat (first | refine blk_drewN ?_ _ | refine blk_drew ?_ | refine blk_alloc ?_ _)); exact BK232.out)⟩; have n4_ : Aside0 (w92.heap[gb241]? = some (.cells #[.int .u64 0, .string t238, .slice Ao91 x242002_2.length co91, .int .i64 (wrap64 (t239)), .bool ((bt tx 1) == 1), .int .u64 t240] 76 (0, 0))) := ⟨by rw [← hq_]; exact (by (with_reducible repeat (first | refine blk_drewN ?_ _ | refine blk_drew ?_ | refine blk_alloc ?_ _)); exact BK241.out)⟩; have n5_ : Aside0 (Below w.heap.size w w92) := ⟨by rw [← hq_]; exact (by repeat (first | (with_reducible first | exact HB.out | apply below_alloc | apply pw_below_drewN | apply below_drew1 | refine below_set ?_ GE230.out | refine below_set ?_ GE232.out | refine below_set ?_ GE241.out) | exact HB.out))⟩; clear HO_233002 HO_242002 BK230 BK232 BK241 HB hq_; have HO_233002 := n0_; have HO_242002 := n1_; have BK230 := n2_; have BK232 := n3_; have BK241 := n4_; have HB := n5_; clear n0_ n1_ n2_ n3_ n4_ n5_)); have hcz93_0 : w92.cell? ⟨gb241, 0, none⟩ = some (.int .u64 0) := (blk_cell BK241.out 0).trans rfl; have hcz93_1 : w92.cell? ⟨gb241, 1, none⟩ = some (.string t238) := (blk_cell BK241.out 1).trans rfl; have hcz93_2 : w92.cell? ⟨gb241, 2, none⟩ = some (.slice Ao91 x242002_2.length co91) := (blk_cell BK241.out 2).trans rfl; have hcz93_3 : w92.cell? ⟨gb241, 3, none⟩ = some (.int .i64 (wrap64 (t239))) := (blk_cell BK241.out 3).trans rfl; have hcz93_4 : w92.cell? ⟨gb241, 4, none⟩ = some (.bool ((bt tx 1) == 1)) := (blk_cell BK241.out 4).trans rfl; have hcz93_5 : w92.cell? ⟨gb241, 5, none⟩ = some (.int .u64 t240) := (blk_cell BK241.out 5).trans rfl; have hfz93_0 := blk_frozen BK241.out 0; have hfz93_1 := blk_frozen BK241.out 1; have hfz93_2 := blk_frozen BK241.out 2; have hfz93_3 := blk_frozen BK241.out 3; have hfz93_4 := blk_frozen BK241.out 4; have hfz93_5 := blk_frozen BK241.out 5) | ((with_reducible refine gate_store (t := 55) (p := 89) rfl ?_); refine store_event (t := 55) (p := 89) (v := ?vo_w94) (w1 := (w92.setCell ⟨gb241, 0, none⟩ (.int .u64 (IntKind.u64.wrap ((IntKind.u64.wrap ((IntKind.u64.wrap (t246)) * 65536)) + t248))))) ?hg ?ho ?hn ?hr ?_; (case ho => rfl); (case hg => rfl); (case hn => rfl); (case hr => first | (go_simp; done) | (go_simp; rfl)); intro w94 hw; have n0_ : Aside0 (Kd.S k76 76 w94 w.heap.size (fun k_ => some k_ ≠ (.slice Ao91 x242002_2.length co91 : Value).ownBlock ∧ k_ ≠ gb241) u233002 x233002_1) := ⟨(by rw [hw]; exact (by (with_reducible repeat (first | apply Kd.S_alloc | apply Kd.S_drewN | apply Kd.S_drew)); exact Kd.S_mono (Kd.S_far (p := ⟨gb241, 0, none⟩) (Kd.S_mono HO_233002.out (fun k_ hk => (⟨hk, hk.2⟩ : _ ∧ k_ ≠ gb241))) (fun _ hk => hk.2) (.int .u64 (IntKind.u64.wrap ((IntKind.u64.wrap ((IntKind.u64.wrap (t246)) * 65536)) + t248)))) (fun _ hk => ⟨hk.1.1, hk.1.2⟩)))⟩; have n1_ : Aside0 (Kd.R (Kd.int .u64) 55 w94 w.heap.size (fun _ => True) (.slice Ao91 x242002_2.length co91) x242002_2) := ⟨(by rw [hw]; exact (by (with_reducible repeat (first | apply Kd.R_alloc | apply Kd.R_drewN | apply Kd.R_drew)); exact Kd.R_mono (Kd.R_far (p := ⟨gb241, 0, none⟩) (Kd.R_types HO_242002.out BK241.out (by decide)) (fun _ hk => hk.2) (.int .u64 (IntKind.u64.wrap ((IntKind.u64.wrap ((IntKind.u64.wrap (t246)) * 65536)) + t248)))) (fun _ hk => trivial)))⟩; have n2_ : Aside0 (w94.heap[gb230]? = some (.cells #[.int .i64 x231000_1, .int .i64 x231001_1, .slice none 0 0] 64 (0, 0))) := ⟨(by rw [hw]; exact (by (with_reducible repeat (first | refine blk_drewN ?_ _ | refine blk_drew ?_ | refine blk_alloc ?_ _)); refine blk_far ?_ NB230_241.out _; (with_reducible repeat (first | refine blk_drewN ?_ _ | refine blk_drew ?_ | refine blk_alloc ?_ _)); exact BK230.out))⟩; have n3_ : Aside0 (w94.heap[gb232]? = some (.cells #[.int .i64 (wrap64 (bt a0 1)), .int .i64 (wrap64 (t231)), u233002] 64 (0, 0))) := ⟨(by rw [hw]; exact (by (with_reducible repeat (first | refine blk_drewN ?_ _ | refine blk_drew ?_ | refine blk_alloc ?_ _)); refine blk_far ?_ NB232_241.out _; (with_reducible repeat (first | refine blk_drewN ?_ _ | refine blk_drew ?_ | refine blk_alloc ?_ _)); exact BK232.out))⟩; have n4_ : Aside0 (w94.heap[gb241]? = some (.cells #[.int .u64 (IntKind.u64.wrap ((IntKind.u64.wrap ((IntKind.u64.wrap (t246)) * 65536)) + t248)), .string t238, .slice Ao91 x242002_2.length co91, .int .i64 (wrap64 (t239)), .bool ((bt tx 1) == 1), .int .u64 t240] 76 (0, 0))) := ⟨(by rw [hw]; exact (by (with_reducible repeat (first | refine blk_drewN ?_ _ | refine blk_drew ?_ | refine blk_alloc ?_ _)); refine blk_put (cs := #[.int .u64 0, .string t238, .slice Ao91 x242002_2.length co91, .int .i64 (wrap64 (t239)), .bool ((bt tx 1) == 1), .int .u64 t240]) ?_ 0 _ rfl; (with_reducible repeat (first | refine blk_drewN ?_ _ | refine blk_drew ?_ | refine blk_alloc ?_ _)); exact BK241.out))⟩; have n5_ : Aside0 (Below w.heap.size w w94) := ⟨(by rw [hw]; exact (by repeat (first | (with_reducible first | exact HB.out | apply below_alloc | apply pw_below_drewN | apply below_drew1 | refine below_set ?_ GE230.out | refine below_set ?_ GE232.out | refine below_set ?_ GE241.out) | exact HB.out)))⟩; clear hw; clear HO_233002; clear HO_242002; clear BK230; clear BK232; clear BK241; clear HB; have HO_233002 := n0_; have HO_242002 := n1_; have BK230 := n2_; have BK232 := n3_; have BK241 := n4_; have HB := n5_; clear n0_ n1_ n2_ n3_ n4_ n5_; have hnb95 := NB232_230.out; have hnc95 := NB230_232.out; have hcz96_0 : w94.cell? ⟨gb232, 0, none⟩ = some (.int .i64 (wrap64 (bt a0 1))) := (blk_cell BK232.out 0).trans rfl; have hcz96_1 : w94.cell? ⟨gb232, 1, none⟩ = some (.int .i64 (wrap64 (t231))) := (blk_cell BK232.out 1).trans rfl; have hcz96_2 : w94.cell? ⟨gb232, 2, none⟩ = some (u233002) := (blk_cell BK232.out 2).trans rfl; have hfz96_0 := blk_frozen BK232.out 0; have hfz96_1 := blk_frozen BK232.out 1; have hfz96_2 := blk_frozen BK232.out 2; have hcz97_0 : w94.cell? ⟨gb241, 0, none⟩ = some (.int .u64 (IntKind.u64.wrap ((IntKind.u64.wrap ((IntKind.u64.wrap (t246)) * 65536)) + t248))) := (blk_cell BK241.out 0).trans rfl; have hcz97_1 : w94.cell? ⟨gb241, 1, none⟩ = some (.string t238) := (blk_cell BK241.out 1).trans rfl; have hcz97_2 : w94.cell? ⟨gb241, 2, none⟩ = some (.slice Ao91 x242002_2.length co91) := (blk_cell BK241.out 2).trans rfl; have hcz97_3 : w94.cell? ⟨gb241, 3, none⟩ = some (.int .i64 (wrap64 (t239))) := (blk_cell BK241.out 3).trans rfl; have hcz97_4 : w94.cell? ⟨gb241, 4, none⟩ = some (.bool ((bt tx 1) == 1)) := (blk_cell BK241.out 4).trans rfl; have hcz97_5 : w94.cell? ⟨gb241, 5, none⟩ = some (.int .u64 t240) := (blk_cell BK241.out 5).trans rfl; have hfz97_0 := blk_frozen BK241.out 0; have hfz97_1 := blk_frozen BK241.out 1; have hfz97_2 := blk_frozen BK241.out 2; have hfz97_3 := blk_frozen BK241.out 3; have hfz97_4 := blk_frozen BK241.out 4; have hfz97_5 := blk_frozen BK241.out 5) | ((with_reducible refine gate_builtin (b := .append) (xs := #[.tmp 91, .tmp 93]) rfl ?_); at_builtin; refine Kd.S_append k76 (w0 := w) w.heap.size rfl (.tmp 91) (.tmp 93) 62 76 (.agg #[(.int .u64 0), (.string ⟨#[]⟩), (.slice none 0 0), (.int .i64 0), (.bool false), (.int .u64 0)]) 72 rfl Try.underlying62 info76 rfl (by decide) (by omega) u233002 x233002_1 (⟨IntKind.u64.wrap ((IntKind.u64.wrap ((IntKind.u64.wrap (t246)) * 65536)) + t248), t238, x242002_2, (wrap64 (t239)), ((bt tx 1) == 1), t240⟩ : S76) [.int .u64 (IntKind.u64.wrap ((IntKind.u64.wrap ((IntKind.u64.wrap (t246)) * 65536)) + t248)), .string t238, .slice Ao91 x242002_2.length co91, .int .i64 (wrap64 (t239)), .bool ((bt tx 1) == 1), .int .u64 t240] (fun k_ => k_ ≠ gb241) (fun k_ => some k_ = (.slice Ao91 x242002_2.length co91 : Value).ownBlock) rfl rfl ?aP (fun k_ hk_ => ((Kd.R_mono (ok' := fun k_ => ((fun k_ => k_ ≠ gb241)) k_ ∧ some k_ ≠ (u233002 : Value).ownBlock) (Kd.R_types (Kd.R_apart' (HO_242002.out) (Kd.S_typed HO_233002.out) (by decide)) BK241.out (by decide)) (fun k_ hk => ⟨hk.2, hk.1.2⟩))).1 k_ hk_.symm) ?aF ?aO ?aB ?aS ?aL ?_; (case aP => exact k76_mkM _ _ _ (⟨IntKind.u64.wrap ((IntKind.u64.wrap ((IntKind.u64.wrap (t246)) * 65536)) + t248), t238, x242002_2, (wrap64 (t239)), ((bt tx 1) == 1), t240⟩ : S76) (Kd.R_mono (Kd.R_tight rfl (Kd.R_mono (ok' := fun k_ => ((fun k_ => k_ ≠ gb241)) k_ ∧ some k_ ≠ (u233002 : Value).ownBlock) (Kd.R_types (Kd.R_apart' (HO_242002.out) (Kd.S_typed HO_233002.out) (by decide)) BK241.out (by decide)) (fun k_ hk => ⟨hk.2, hk.1.2⟩))) (fun _ h_ => h_))); (case aB => exact (by repeat (first | (with_reducible first | exact HB.out | apply below_alloc | apply pw_below_drewN | apply below_drew1 | refine below_set ?_ GE230.out | refine below_set ?_ GE232.out | refine below_set ?_ GE241.out) | exact HB.out))); (case aF => exact (fun k_ hk => Kd.freshB (g := gb241) (o := .cells #[.int .u64 (IntKind.u64.wrap ((IntKind.u64.wrap ((IntKind.u64.wrap (t246)) * 65536)) + t248)), .string t238, .slice Ao91 x242002_2.length co91, .int .i64 (wrap64 (t239)), .bool ((bt tx 1) == 1), .int .u64 t240] 76 (0, 0)) (by (with_reducible repeat (first | refine blk_drewN ?_ _ | refine blk_drew ?_ | refine blk_alloc ?_ _)); exact BK241.out) k_ hk)); (case aO => exact (by (with_reducible repeat (first | apply Kd.S_alloc | apply Kd.S_drewN | apply Kd.S_drew)); exact Kd.S_mono HO_233002.out (fun k_ hk => ⟨hk.2, fun e_ => hk.1 e_⟩))); (case aS => exact (below_size (by repeat (first | (with_reducible first | exact HB.out | apply below_alloc | apply pw_below_drewN | apply below_drew1 | refine below_set ?_ GE230.out | refine below_set ?_ GE232.out | refine below_set ?_ GE241.out) | exact HB.out)))); (case aL => have := LMc87.out; omega); intro v250 w98 ho hb hg hat; rw [← Ny249.out] at ho; have n0_ := Aside0.mk (blk_grown (g := gb230) (o := .cells #[.int .i64 x231000_1, .int .i64 x231001_1, .slice none 0 0] 64 (0, 0)) (by (with_reducible repeat (first | refine blk_drewN ?_ _ | refine blk_drew ?_ | refine blk_alloc ?_ _)); exact BK230.out) hg (Kd.S_ne HO_233002.out BK230.out (by decide))); have n1_ := Aside0.mk (blk_grown (g := gb232) (o := .cells #[.int .i64 (wrap64 (bt a0 1)), .int .i64 (wrap64 (t231)), u233002] 64 (0, 0)) (by (with_reducible repeat (first | refine blk_drewN ?_ _ | refine blk_drew ?_ | refine blk_alloc ?_ _)); exact BK232.out) hg (Kd.S_ne HO_233002.out BK232.out (by decide))); have n2_ := Aside0.mk (blk_grown (g := gb241) (o := .cells #[.int .u64 (IntKind.u64.wrap ((IntKind.u64.wrap ((IntKind.u64.wrap (t246)) * 65536)) + t248)), .string t238, .slice Ao91 x242002_2.length co91, .int .i64 (wrap64 (t239)), .bool ((bt tx 1) == 1), .int .u64 t240] 76 (0, 0)) (by (with_reducible repeat (first | refine blk_drewN ?_ _ | refine blk_drew ?_ | refine blk_alloc ?_ _)); exact BK241.out) hg (Kd.S_away HO_233002.out (fun _ hk => hk.2))); have n3_ := Aside0.mk (hb); have n4_ := Aside0.mk (ho); clear BK230; clear BK232; clear BK241; clear HB; clear HO_233002; clear HO_242002; have BK230 := n0_; have BK232 := n1_; have BK241 := n2_; have HB := n3_; have HO251 := n4_; clear n0_ n1_ n2_ n3_ n4_; clear ho hb hg hat; obtain ⟨Ao99, co99, eo99⟩ := Kd.S_slice HO251.out; subst eo99; have hcz100_0 : w98.cell? ⟨gb232, 0, none⟩ = some (.int .i64 (wrap64 (bt a0 1))) := (blk_cell BK232.out 0).trans rfl; have hcz100_1 : w98.cell? ⟨gb232, 1, none⟩ = some (.int .i64 (wrap64 (t231))) := (blk_cell BK232.out 1).trans rfl; have hcz100_2 : w98.cell? ⟨gb232, 2, none⟩ = some (u233002) := (blk_cell BK232.out 2).trans rfl; have hfz100_0 := blk_frozen BK232.out 0; have hfz100_1 := blk_frozen BK232.out 1; have hfz100_2 := blk_frozen BK232.out 2))
                                          go_roundg k2
                                          case measure => have := HK1.out; have := HK2.out; omega
                                          case rel => exact ⟨(wrap64 (x5_1 + 1)), (x231000_1), (x231001_1), (y249), (.slice Ao99 y249.length co99), (by first | rfl | (simp; done) | (simp [*]; done)), H', ⟨by have := HK1.out; have := HK2.out; omega⟩, ⟨by (with_reducible repeat (first | apply Kd.S_alloc | apply Kd.S_drewN | apply Kd.S_drew)); exact Kd.S_mono (Kd.S_far (p := ⟨gb232, 2, none⟩) (Kd.S_types HO251.out BK232.out (by decide)) (fun _ hk => hk.2) (.slice Ao99 y249.length co99)) (fun _ hk => trivial)⟩, ⟨by (with_reducible repeat (first | refine blk_drewN ?_ _ | refine blk_drew ?_ | refine blk_alloc ?_ _)); refine blk_far ?_ NB230_232.out _; (with_reducible repeat (first | refine blk_drewN ?_ _ | refine blk_drew ?_ | refine blk_alloc ?_ _)); exact BK230.out⟩, ⟨by (with_reducible repeat (first | refine blk_drewN ?_ _ | refine blk_drew ?_ | refine blk_alloc ?_ _)); refine blk_put (cs := #[.int .i64 (wrap64 (bt a0 1)), .int .i64 (wrap64 (t231)), u233002]) ?_ 2 _ rfl; (with_reducible repeat (first | refine blk_drewN ?_ _ | refine blk_drew ?_ | refine blk_alloc ?_ _)); exact BK232.out⟩, ⟨by repeat (first | (with_reducible first | exact HB.out | apply below_alloc | apply pw_below_drewN | apply below_drew1 | refine below_set ?_ GE230.out | refine below_set ?_ GE232.out | refine below_set ?_ GE241.out) | exact HB.out)⟩⟩
                                        · rw [if_neg c87] at H
                                          exact absurd H (by simp)
                                      · rw [if_neg c85] at H
                                        have c85b0 : (t247 == 0) = false := beq_eq_false_iff_ne.mpr c85
                                        have c85b1 : (t247 != 0) = true := bne_iff_ne.mpr c85
                                        simp only [Option.some.injEq, Prod.mk.injEq] at H
                                        obtain ⟨rfl, rfl, rfl, rfl⟩ := H
                                        have p76 : 0 ≤ (12 : Int) := (by omega)
                                        have q76 : 12 < tx.size := (by have : (12 : Int) < (tx.size : Int) := of_decide_eq_true (by first | (with_reducible assumption) | assumption); omega)
                                        have hx76 : ∀ h : 12 < tx.size, ((tx[12]'h).toNat : Int) = bt tx 12 := bt_at tx 12
                                        clear p76
                                        have qi76 : (12 < (tx.size : Int)) = True := eq_true (of_decide_eq_true (by first | (with_reducible assumption) | assumption))
                                        replace q76 := eq_true q76
                                        have hnb101 := NB241_230.out
                                        have hnc101 := NB230_241.out
                                        have hnb102 := NB241_232.out
                                        have hnc102 := NB232_241.out
                                        have hcz103_0 : wr.cell? ⟨gb241, 0, none⟩ = some (.int .u64 0) := (blk_cell BK241.out 0).trans rfl
                                        have hcz103_1 : wr.cell? ⟨gb241, 1, none⟩ = some (.string t238) := (blk_cell BK241.out 1).trans rfl
                                        have hcz103_2 : wr.cell? ⟨gb241, 2, none⟩ = some (u242002) := (blk_cell BK241.out 2).trans rfl
                                        have hcz103_3 : wr.cell? ⟨gb241, 3, none⟩ = some (.int .i64 (wrap64 (t239))) := (blk_cell BK241.out 3).trans rfl
                                        have hcz103_4 : wr.cell? ⟨gb241, 4, none⟩ = some (.bool ((bt tx 1) == 1)) := (blk_cell BK241.out 4).trans rfl
                                        have hcz103_5 : wr.cell? ⟨gb241, 5, none⟩ = some (.int .u64 t240) := (blk_cell BK241.out 5).trans rfl
                                        have hfz103_0 := blk_frozen BK241.out 0
                                        have hfz103_1 := blk_frozen BK241.out 1
                                        have hfz103_2 := blk_frozen BK241.out 2
                                        have hfz103_3 := blk_frozen BK241.out 3
                                        have hfz103_4 := blk_frozen BK241.out 4
                                        have hfz103_5 := blk_frozen BK241.out 5
                                        obtain ⟨Ao104, co104, eo104⟩ := Kd.R_slice HO_242002.out
                                        subst eo104
                                        go_wp2_with (first | ((with_reducible refine gate_callee (f := 32) rfl ?_); refine goesL_ (some 77) rfl rfl Try.func32 (by kernel_rfl) rfl #[.string t238, .slice Ao104 x242002_2.length co104] rfl (by (try simp only [List.map_toArray, List.map_cons, List.map_nil]); first | done | rfl | (simp only [List.length_drop, List.length_take]; rfl)) ?_; (with_reducible refine (aumbryref15_Hash.calls k2 t238 _ _ x242002_2 t246 t247 _ ?side1 ?side2 A84.out).mono ?_); (case side1 => repeat (first | exact (Kd.R_reads' HO_242002.out).2.2 | (with_reducible refine Kd.C_alloc ?_ _) | (with_reducible refine Kd.C_drewN ?_ _) | (with_reducible refine Kd.C_drew ?_))); (case side2 => exact (Kd.R_reads' HO_242002.out).2.1); rintro e w105 ⟨rfl, hb⟩; refine ⟨_, rfl, ?_⟩; have n0_ := Aside0.mk (Kd.S_below (by (with_reducible repeat (first | apply Kd.S_alloc | apply Kd.S_drewN | apply Kd.S_drew)); exact HO_233002.out) hb); have n1_ := Aside0.mk (Kd.R_below (by (with_reducible repeat (first | apply Kd.R_alloc | apply Kd.R_drewN | apply Kd.R_drew)); exact HO_242002.out) hb); have n2_ := Aside0.mk (blk_below (g := gb230) (o := .cells #[.int .i64 x231000_1, .int .i64 x231001_1, .slice none 0 0] 64 (0, 0)) (by (with_reducible repeat (first | refine blk_drewN ?_ _ | refine blk_drew ?_ | refine blk_alloc ?_ _)); exact BK230.out) hb); have n3_ := Aside0.mk (blk_below (g := gb232) (o := .cells #[.int .i64 (wrap64 (bt a0 1)), .int .i64 (wrap64 (t231)), u233002] 64 (0, 0)) (by (with_reducible repeat (first | refine blk_drewN ?_ _ | refine blk_drew ?_ | refine blk_alloc ?_ _)); exact BK232.out) hb); have n4_ := Aside0.mk (blk_below (g := gb241) (o := .cells #[.int .u64 0, .string t238, .slice Ao104 x242002_2.length co104, .int .i64 (wrap64 (t239)), .bool ((bt tx 1) == 1), .int .u64 t240] 76 (0, 0)) (by (with_reducible repeat (first | refine blk_drewN ?_ _ | refine blk_drew ?_ | refine blk_alloc ?_ _)); exact BK241.out) hb); have n5_ := Aside0.mk (below_step (by repeat (first | (with_reducible first | exact HB.out | apply below_alloc | apply pw_below_drewN | apply below_drew1 | refine below_set ?_ GE230.out | refine below_set ?_ GE232.out | refine below_set ?_ GE241.out) | exact HB.out)) hb); clear HO_233002; clear HO_242002; clear BK230; clear BK232; clear BK241; clear HB; have HO_233002 := n0_; have HO_242002 := n1_; have BK230 := n2_; have BK232 := n3_; have BK241 := n4_; have HB := n5_; clear n0_ n1_ n2_ n3_ n4_ n5_; (try clear hb); (try clear hb2); (try clear hk); (try clear hi); have hnb106 := NB230_232.out; have hnc106 := NB232_230.out; have hcz107_0 : w105.cell? ⟨gb230, 0, none⟩ = some (.int .i64 x231000_1) := (blk_cell BK230.out 0).trans rfl; have hcz107_1 : w105.cell? ⟨gb230, 1, none⟩ = some (.int .i64 x231001_1) := (blk_cell BK230.out 1).trans rfl; have hcz107_2 : w105.cell? ⟨gb230, 2, none⟩ = some (.slice none 0 0) := (blk_cell BK230.out 2).trans rfl; have hfz107_0 := blk_frozen BK230.out 0; have hfz107_1 := blk_frozen BK230.out 1; have hfz107_2 := blk_frozen BK230.out 2))
                                        refine bodyPost_ret (results_ct rfl _ _ gb230 64 #[.int .i64 0, .int .i64 0, .slice none 0 0] (0, 0) _ rfl (by (with_reducible repeat (first | refine blk_drewN ?_ _ | refine blk_drew ?_ | refine blk_alloc ?_ _)); refine blk_put (cs := #[.int .i64 0, .int .i64 0, .slice none 0 0]) ?_ 2 _ rfl; (with_reducible repeat (first | refine blk_drewN ?_ _ | refine blk_drew ?_ | refine blk_alloc ?_ _)); refine blk_put (cs := #[.int .i64 0, .int .i64 x231001_1, .slice none 0 0]) ?_ 1 _ rfl; (with_reducible repeat (first | refine blk_drewN ?_ _ | refine blk_drew ?_ | refine blk_alloc ?_ _)); refine blk_put (cs := #[.int .i64 x231000_1, .int .i64 x231001_1, .slice none 0 0]) ?_ 0 _ rfl; (with_reducible repeat (first | refine blk_drewN ?_ _ | refine blk_drew ?_ | refine blk_alloc ?_ _)); exact BK230.out) Try.underlying64 rfl (by kernel_rfl)) rfl ?_
                                        exact ⟨_, by first | rfl | (simp [errW_none, errW_some] <;> rfl) | (simp only [← hji14]; first | rfl | (simp [errW_none, errW_some] <;> rfl)) | (simp [*, errW_none, errW_some] <;> rfl), by first | exact Kd.S_nil _ _ _ _ _ | exact Kd.N_nil _ _ _ _ _ | exact Kd.V_nil _ _ _ _ _ | exact Kd.Q_nil _ _ _ _ _ | exact Kd.R_nil _ _ _ _ _, by repeat (first | (with_reducible first | exact HB.out | apply below_alloc | apply pw_below_drewN | apply below_drew1 | refine below_set ?_ GE230.out | refine below_set ?_ GE232.out | refine below_set ?_ GE241.out) | exact HB.out)⟩
                                  · rw [if_neg c75] at H
                                    exact absurd H (by simp)
                          · rw [if_neg c49] at H
                            exact absurd H (by simp)
                        · rw [if_neg c45] at H
                          exact absurd H (by simp)
                      · rw [if_neg c43] at H
                        exact absurd H (by simp)
                    · rw [if_neg c42] at H
                      exact absurd H (by simp)
                · rw [if_neg c17] at H
                  exact absurd H (by simp)
              · rw [if_neg c16] at H
                exact absurd H (by simp)
            · rw [if_neg c15] at H
              exact absurd H (by simp)
          · rw [if_neg c13] at H
            have c13b0 : decide (x5_1 < 5) = false := decide_eq_false c13
            clear c13
            replace H := Option.bind_eq_some_iff.mp H
            obtain ⟨⟨t233, t234⟩, A1080, H⟩ := H
            replace H : (if t234 = 0 then (if t233.toList = a0.toList then (some ((wrap64 (bt a0 1)), (wrap64 (t231)), x233002_1, 0)) else (some (0, 0, ([] : List (S76)), 3))) else (some (0, 0, ([] : List (S76)), 3))) = some (r1, r2, r3, r4) := H
            have A108 := Aside0.mk A1080
            clear A1080
            by_cases c109 : t234 = 0
            · rw [if_pos c109] at H
              have c109b0 : (t234 == 0) = true := beq_iff_eq.mpr c109
              have c109b1 : (t234 != 0) = false := bne_eq_false_iff_eq.mpr c109
              clear c109
              by_cases c110 : t233.toList = a0.toList
              · rw [if_pos c110] at H
                have c110b0 : (t233.toList == a0.toList) = true := beq_iff_eq.mpr c110
                have c110b1 : (t233.toList != a0.toList) = false := bne_eq_false_iff_eq.mpr c110
                clear c110
                simp only [Option.some.injEq, Prod.mk.injEq] at H
                obtain ⟨rfl, rfl, rfl, rfl⟩ := H
                have hnb111 := NB232_230.out
                have hnc111 := NB230_232.out
                have hcz112_0 : wr.cell? ⟨gb232, 0, none⟩ = some (.int .i64 (wrap64 (bt a0 1))) := (blk_cell BK232.out 0).trans rfl
                have hcz112_1 : wr.cell? ⟨gb232, 1, none⟩ = some (.int .i64 (wrap64 (t231))) := (blk_cell BK232.out 1).trans rfl
                have hcz112_2 : wr.cell? ⟨gb232, 2, none⟩ = some (u233002) := (blk_cell BK232.out 2).trans rfl
                have hfz112_0 := blk_frozen BK232.out 0
                have hfz112_1 := blk_frozen BK232.out 1
                have hfz112_2 := blk_frozen BK232.out 2
                obtain ⟨Ao113, co113, eo113⟩ := Kd.S_slice HO_233002.out
                subst eo113
                go_wp2_with (first | ((with_reducible refine gate_callee (f := 38) rfl ?_); refine goesL_ (some 98) rfl rfl Try.func38 (by kernel_rfl) rfl #[.agg #[.int .i64 (wrap64 (bt a0 1)), .int .i64 (wrap64 (t231)), .slice Ao113 x233002_1.length co113]] rfl (by (try simp only [List.map_toArray, List.map_cons, List.map_nil]); first | done | rfl | (simp only [List.length_drop, List.length_take]; rfl)) ?_; (with_reducible refine (aumbryref15_Pack.calls k1 (wrap64 (bt a0 1)) (wrap64 (t231)) _ _ x233002_1 t233 t234 _ ?side1 ?side2 A108.out).mono ?_); (case side1 => repeat (first | exact (Kd.S_reads' HO_233002.out).2.2 | (with_reducible refine Kd.C_alloc ?_ _) | (with_reducible refine Kd.C_drewN ?_ _) | (with_reducible refine Kd.C_drew ?_))); (case side2 => exact (Kd.S_reads' HO_233002.out).2.1); rintro e w114 ⟨rfl, hb⟩; refine ⟨_, rfl, ?_⟩; have n0_ := Aside0.mk (Kd.S_below (by (with_reducible repeat (first | apply Kd.S_alloc | apply Kd.S_drewN | apply Kd.S_drew)); exact HO_233002.out) hb); have n1_ := Aside0.mk (blk_below (g := gb230) (o := .cells #[.int .i64 x231000_1, .int .i64 x231001_1, .slice none 0 0] 64 (0, 0)) (by (with_reducible repeat (first | refine blk_drewN ?_ _ | refine blk_drew ?_ | refine blk_alloc ?_ _)); exact BK230.out) hb); have n2_ := Aside0.mk (blk_below (g := gb232) (o := .cells #[.int .i64 (wrap64 (bt a0 1)), .int .i64 (wrap64 (t231)), .slice Ao113 x233002_1.length co113] 64 (0, 0)) (by (with_reducible repeat (first | refine blk_drewN ?_ _ | refine blk_drew ?_ | refine blk_alloc ?_ _)); exact BK232.out) hb); have n3_ := Aside0.mk (below_step (by repeat (first | (with_reducible first | exact HB.out | apply below_alloc | apply pw_below_drewN | apply below_drew1 | refine below_set ?_ GE230.out | refine below_set ?_ GE232.out) | exact HB.out)) hb); clear HO_233002; clear BK230; clear BK232; clear HB; have HO_233002 := n0_; have BK230 := n1_; have BK232 := n2_; have HB := n3_; clear n0_ n1_ n2_ n3_; (try clear hb); (try clear hb2); (try clear hk); (try clear hi); have hcz115_0 : w114.cell? ⟨gb232, 0, none⟩ = some (.int .i64 (wrap64 (bt a0 1))) := (blk_cell BK232.out 0).trans rfl; have hcz115_1 : w114.cell? ⟨gb232, 1, none⟩ = some (.int .i64 (wrap64 (t231))) := (blk_cell BK232.out 1).trans rfl; have hcz115_2 : w114.cell? ⟨gb232, 2, none⟩ = some (.slice Ao113 x233002_1.length co113) := (blk_cell BK232.out 2).trans rfl; have hfz115_0 := blk_frozen BK232.out 0; have hfz115_1 := blk_frozen BK232.out 1; have hfz115_2 := blk_frozen BK232.out 2; have hcz116_0 : w114.cell? ⟨gb230, 0, none⟩ = some (.int .i64 x231000_1) := (blk_cell BK230.out 0).trans rfl; have hcz116_1 : w114.cell? ⟨gb230, 1, none⟩ = some (.int .i64 x231001_1) := (blk_cell BK230.out 1).trans rfl; have hcz116_2 : w114.cell? ⟨gb230, 2, none⟩ = some (.slice none 0 0) := (blk_cell BK230.out 2).trans rfl; have hfz116_0 := blk_frozen BK230.out 0; have hfz116_1 := blk_frozen BK230.out 1; have hfz116_2 := blk_frozen BK230.out 2))
                refine bodyPost_ret (results_ct rfl _ _ gb230 64 #[.int .i64 (wrap64 (bt a0 1)), .int .i64 (wrap64 (t231)), .slice Ao113 x233002_1.length co113] (0, 0) _ rfl (by (with_reducible repeat (first | refine blk_drewN ?_ _ | refine blk_drew ?_ | refine blk_alloc ?_ _)); refine blk_put (cs := #[.int .i64 (wrap64 (bt a0 1)), .int .i64 (wrap64 (t231)), .slice none 0 0]) ?_ 2 _ rfl; (with_reducible repeat (first | refine blk_drewN ?_ _ | refine blk_drew ?_ | refine blk_alloc ?_ _)); refine blk_put (cs := #[.int .i64 (wrap64 (bt a0 1)), .int .i64 x231001_1, .slice none 0 0]) ?_ 1 _ rfl; (with_reducible repeat (first | refine blk_drewN ?_ _ | refine blk_drew ?_ | refine blk_alloc ?_ _)); refine blk_put (cs := #[.int .i64 x231000_1, .int .i64 x231001_1, .slice none 0 0]) ?_ 0 _ rfl; (with_reducible repeat (first | refine blk_drewN ?_ _ | refine blk_drew ?_ | refine blk_alloc ?_ _)); exact BK230.out) Try.underlying64 rfl (by kernel_rfl)) rfl ?_
                exact ⟨_, by first | rfl | (simp [errW_none, errW_some] <;> rfl) | (simp [*, errW_none, errW_some] <;> rfl), by (with_reducible repeat (first | apply Kd.S_alloc | apply Kd.S_drewN | apply Kd.S_drew)); exact Kd.S_mono (Kd.S_far (p := ⟨gb230, 2, none⟩) (Kd.S_far (p := ⟨gb230, 1, none⟩) (Kd.S_far (p := ⟨gb230, 0, none⟩) (Kd.S_types HO_233002.out BK230.out (by decide)) (fun _ hk => hk.2) (.int .i64 (wrap64 (bt a0 1)))) (fun _ hk => hk.2) (.int .i64 (wrap64 (t231)))) (fun _ hk => hk.2) (.slice Ao113 x233002_1.length co113)) (fun _ hk => trivial), by repeat (first | (with_reducible first | exact HB.out | apply below_alloc | apply pw_below_drewN | apply below_drew1 | refine below_set ?_ GE230.out | refine below_set ?_ GE232.out) | exact HB.out)⟩
              · rw [if_neg c110] at H
                have c110b0 : (t233.toList == a0.toList) = false := beq_eq_false_iff_ne.mpr c110
                have c110b1 : (t233.toList != a0.toList) = true := bne_iff_ne.mpr c110
                simp only [Option.some.injEq, Prod.mk.injEq] at H
                obtain ⟨rfl, rfl, rfl, rfl⟩ := H
                have hnb117 := NB232_230.out
                have hnc117 := NB230_232.out
                have hcz118_0 : wr.cell? ⟨gb232, 0, none⟩ = some (.int .i64 (wrap64 (bt a0 1))) := (blk_cell BK232.out 0).trans rfl
                have hcz118_1 : wr.cell? ⟨gb232, 1, none⟩ = some (.int .i64 (wrap64 (t231))) := (blk_cell BK232.out 1).trans rfl
                have hcz118_2 : wr.cell? ⟨gb232, 2, none⟩ = some (u233002) := (blk_cell BK232.out 2).trans rfl
                have hfz118_0 := blk_frozen BK232.out 0
                have hfz118_1 := blk_frozen BK232.out 1
                have hfz118_2 := blk_frozen BK232.out 2
                obtain ⟨Ao119, co119, eo119⟩ := Kd.S_slice HO_233002.out
                subst eo119
                go_wp2_with (first | ((with_reducible refine gate_callee (f := 38) rfl ?_); refine goesL_ (some 98) rfl rfl Try.func38 (by kernel_rfl) rfl #[.agg #[.int .i64 (wrap64 (bt a0 1)), .int .i64 (wrap64 (t231)), .slice Ao119 x233002_1.length co119]] rfl (by (try simp only [List.map_toArray, List.map_cons, List.map_nil]); first | done | rfl | (simp only [List.length_drop, List.length_take]; rfl)) ?_; (with_reducible refine (aumbryref15_Pack.calls k1 (wrap64 (bt a0 1)) (wrap64 (t231)) _ _ x233002_1 t233 t234 _ ?side1 ?side2 A108.out).mono ?_); (case side1 => repeat (first | exact (Kd.S_reads' HO_233002.out).2.2 | (with_reducible refine Kd.C_alloc ?_ _) | (with_reducible refine Kd.C_drewN ?_ _) | (with_reducible refine Kd.C_drew ?_))); (case side2 => exact (Kd.S_reads' HO_233002.out).2.1); rintro e w120 ⟨rfl, hb⟩; refine ⟨_, rfl, ?_⟩; have n0_ := Aside0.mk (Kd.S_below (by (with_reducible repeat (first | apply Kd.S_alloc | apply Kd.S_drewN | apply Kd.S_drew)); exact HO_233002.out) hb); have n1_ := Aside0.mk (blk_below (g := gb230) (o := .cells #[.int .i64 x231000_1, .int .i64 x231001_1, .slice none 0 0] 64 (0, 0)) (by (with_reducible repeat (first | refine blk_drewN ?_ _ | refine blk_drew ?_ | refine blk_alloc ?_ _)); exact BK230.out) hb); have n2_ := Aside0.mk (blk_below (g := gb232) (o := .cells #[.int .i64 (wrap64 (bt a0 1)), .int .i64 (wrap64 (t231)), .slice Ao119 x233002_1.length co119] 64 (0, 0)) (by (with_reducible repeat (first | refine blk_drewN ?_ _ | refine blk_drew ?_ | refine blk_alloc ?_ _)); exact BK232.out) hb); have n3_ := Aside0.mk (below_step (by repeat (first | (with_reducible first | exact HB.out | apply below_alloc | apply pw_below_drewN | apply below_drew1 | refine below_set ?_ GE230.out | refine below_set ?_ GE232.out) | exact HB.out)) hb); clear HO_233002; clear BK230; clear BK232; clear HB; have HO_233002 := n0_; have BK230 := n1_; have BK232 := n2_; have HB := n3_; clear n0_ n1_ n2_ n3_; (try clear hb); (try clear hb2); (try clear hk); (try clear hi); have hcz121_0 : w120.cell? ⟨gb230, 0, none⟩ = some (.int .i64 x231000_1) := (blk_cell BK230.out 0).trans rfl; have hcz121_1 : w120.cell? ⟨gb230, 1, none⟩ = some (.int .i64 x231001_1) := (blk_cell BK230.out 1).trans rfl; have hcz121_2 : w120.cell? ⟨gb230, 2, none⟩ = some (.slice none 0 0) := (blk_cell BK230.out 2).trans rfl; have hfz121_0 := blk_frozen BK230.out 0; have hfz121_1 := blk_frozen BK230.out 1; have hfz121_2 := blk_frozen BK230.out 2))
                refine bodyPost_ret (results_ct rfl _ _ gb230 64 #[.int .i64 0, .int .i64 0, .slice none 0 0] (0, 0) _ rfl (by (with_reducible repeat (first | refine blk_drewN ?_ _ | refine blk_drew ?_ | refine blk_alloc ?_ _)); refine blk_put (cs := #[.int .i64 0, .int .i64 0, .slice none 0 0]) ?_ 2 _ rfl; (with_reducible repeat (first | refine blk_drewN ?_ _ | refine blk_drew ?_ | refine blk_alloc ?_ _)); refine blk_put (cs := #[.int .i64 0, .int .i64 x231001_1, .slice none 0 0]) ?_ 1 _ rfl; (with_reducible repeat (first | refine blk_drewN ?_ _ | refine blk_drew ?_ | refine blk_alloc ?_ _)); refine blk_put (cs := #[.int .i64 x231000_1, .int .i64 x231001_1, .slice none 0 0]) ?_ 0 _ rfl; (with_reducible repeat (first | refine blk_drewN ?_ _ | refine blk_drew ?_ | refine blk_alloc ?_ _)); exact BK230.out) Try.underlying64 rfl (by kernel_rfl)) rfl ?_
                exact ⟨_, by first | rfl | (simp [errW_none, errW_some] <;> rfl) | (simp [*, errW_none, errW_some] <;> rfl), by first | exact Kd.S_nil _ _ _ _ _ | exact Kd.N_nil _ _ _ _ _ | exact Kd.V_nil _ _ _ _ _ | exact Kd.Q_nil _ _ _ _ _ | exact Kd.R_nil _ _ _ _ _, by repeat (first | (with_reducible first | exact HB.out | apply below_alloc | apply pw_below_drewN | apply below_drew1 | refine below_set ?_ GE230.out | refine below_set ?_ GE232.out) | exact HB.out)⟩
            · rw [if_neg c109] at H
              have c109b0 : (t234 == 0) = false := beq_eq_false_iff_ne.mpr c109
              have c109b1 : (t234 != 0) = true := bne_iff_ne.mpr c109
              simp only [Option.some.injEq, Prod.mk.injEq] at H
              obtain ⟨rfl, rfl, rfl, rfl⟩ := H
              have hnb122 := NB232_230.out
              have hnc122 := NB230_232.out
              have hcz123_0 : wr.cell? ⟨gb232, 0, none⟩ = some (.int .i64 (wrap64 (bt a0 1))) := (blk_cell BK232.out 0).trans rfl
              have hcz123_1 : wr.cell? ⟨gb232, 1, none⟩ = some (.int .i64 (wrap64 (t231))) := (blk_cell BK232.out 1).trans rfl
              have hcz123_2 : wr.cell? ⟨gb232, 2, none⟩ = some (u233002) := (blk_cell BK232.out 2).trans rfl
              have hfz123_0 := blk_frozen BK232.out 0
              have hfz123_1 := blk_frozen BK232.out 1
              have hfz123_2 := blk_frozen BK232.out 2
              obtain ⟨Ao124, co124, eo124⟩ := Kd.S_slice HO_233002.out
              subst eo124
              go_wp2_with (first | ((with_reducible refine gate_callee (f := 38) rfl ?_); refine goesL_ (some 98) rfl rfl Try.func38 (by kernel_rfl) rfl #[.agg #[.int .i64 (wrap64 (bt a0 1)), .int .i64 (wrap64 (t231)), .slice Ao124 x233002_1.length co124]] rfl (by (try simp only [List.map_toArray, List.map_cons, List.map_nil]); first | done | rfl | (simp only [List.length_drop, List.length_take]; rfl)) ?_; (with_reducible refine (aumbryref15_Pack.calls k1 (wrap64 (bt a0 1)) (wrap64 (t231)) _ _ x233002_1 t233 t234 _ ?side1 ?side2 A108.out).mono ?_); (case side1 => repeat (first | exact (Kd.S_reads' HO_233002.out).2.2 | (with_reducible refine Kd.C_alloc ?_ _) | (with_reducible refine Kd.C_drewN ?_ _) | (with_reducible refine Kd.C_drew ?_))); (case side2 => exact (Kd.S_reads' HO_233002.out).2.1); rintro e w125 ⟨rfl, hb⟩; refine ⟨_, rfl, ?_⟩; have n0_ := Aside0.mk (Kd.S_below (by (with_reducible repeat (first | apply Kd.S_alloc | apply Kd.S_drewN | apply Kd.S_drew)); exact HO_233002.out) hb); have n1_ := Aside0.mk (blk_below (g := gb230) (o := .cells #[.int .i64 x231000_1, .int .i64 x231001_1, .slice none 0 0] 64 (0, 0)) (by (with_reducible repeat (first | refine blk_drewN ?_ _ | refine blk_drew ?_ | refine blk_alloc ?_ _)); exact BK230.out) hb); have n2_ := Aside0.mk (blk_below (g := gb232) (o := .cells #[.int .i64 (wrap64 (bt a0 1)), .int .i64 (wrap64 (t231)), .slice Ao124 x233002_1.length co124] 64 (0, 0)) (by (with_reducible repeat (first | refine blk_drewN ?_ _ | refine blk_drew ?_ | refine blk_alloc ?_ _)); exact BK232.out) hb); have n3_ := Aside0.mk (below_step (by repeat (first | (with_reducible first | exact HB.out | apply below_alloc | apply pw_below_drewN | apply below_drew1 | refine below_set ?_ GE230.out | refine below_set ?_ GE232.out) | exact HB.out)) hb); clear HO_233002; clear BK230; clear BK232; clear HB; have HO_233002 := n0_; have BK230 := n1_; have BK232 := n2_; have HB := n3_; clear n0_ n1_ n2_ n3_; (try clear hb); (try clear hb2); (try clear hk); (try clear hi); have hcz126_0 : w125.cell? ⟨gb230, 0, none⟩ = some (.int .i64 x231000_1) := (blk_cell BK230.out 0).trans rfl; have hcz126_1 : w125.cell? ⟨gb230, 1, none⟩ = some (.int .i64 x231001_1) := (blk_cell BK230.out 1).trans rfl; have hcz126_2 : w125.cell? ⟨gb230, 2, none⟩ = some (.slice none 0 0) := (blk_cell BK230.out 2).trans rfl; have hfz126_0 := blk_frozen BK230.out 0; have hfz126_1 := blk_frozen BK230.out 1; have hfz126_2 := blk_frozen BK230.out 2))
              refine bodyPost_ret (results_ct rfl _ _ gb230 64 #[.int .i64 0, .int .i64 0, .slice none 0 0] (0, 0) _ rfl (by (with_reducible repeat (first | refine blk_drewN ?_ _ | refine blk_drew ?_ | refine blk_alloc ?_ _)); refine blk_put (cs := #[.int .i64 0, .int .i64 0, .slice none 0 0]) ?_ 2 _ rfl; (with_reducible repeat (first | refine blk_drewN ?_ _ | refine blk_drew ?_ | refine blk_alloc ?_ _)); refine blk_put (cs := #[.int .i64 0, .int .i64 x231001_1, .slice none 0 0]) ?_ 1 _ rfl; (with_reducible repeat (first | refine blk_drewN ?_ _ | refine blk_drew ?_ | refine blk_alloc ?_ _)); refine blk_put (cs := #[.int .i64 x231000_1, .int .i64 x231001_1, .slice none 0 0]) ?_ 0 _ rfl; (with_reducible repeat (first | refine blk_drewN ?_ _ | refine blk_drew ?_ | refine blk_alloc ?_ _)); exact BK230.out) Try.underlying64 rfl (by kernel_rfl)) rfl ?_
              exact ⟨_, by first | rfl | (simp [errW_none, errW_some] <;> rfl) | (simp [*, errW_none, errW_some] <;> rfl), by first | exact Kd.S_nil _ _ _ _ _ | exact Kd.N_nil _ _ _ _ _ | exact Kd.V_nil _ _ _ _ _ | exact Kd.Q_nil _ _ _ _ _ | exact Kd.R_nil _ _ _ _ _, by repeat (first | (with_reducible first | exact HB.out | apply below_alloc | apply pw_below_drewN | apply below_drew1 | refine below_set ?_ GE230.out | refine below_set ?_ GE232.out) | exact HB.out)⟩
    · rw [if_neg c3] at H
      exact absurd H (by simp)
  · rw [if_neg c2] at H
    have c2b0 : ((a0.size : Int) == 256) = false := beq_eq_false_iff_ne.mpr c2
    have c2b1 : ((a0.size : Int) != 256) = true := bne_iff_ne.mpr c2
    simp only [Option.some.injEq, Prod.mk.injEq] at H
    obtain ⟨rfl, rfl, rfl, rfl⟩ := H
    go_enter Try.func40, Try.ntmps40
    go_wp2_with (first | ((with_reducible refine gate_dst (N := 2) rfl ?_); refine box_event ?hg (N := 2) ?hd (cs := #[.int .i64 0, .int .i64 0, .slice none 0 0]) (t := 64) ?hr ?_; (case hd => rfl); (case hg => rfl); (case hr => first | (go_simp; done) | (go_simp; rfl)); intro gb230 hg w127 hbox hb; have n0_ := Aside0.mk (below_step (by repeat (first | (with_reducible first | exact HB.out | apply below_alloc | apply pw_below_drewN | apply below_drew1) | exact HB.out)) hb); have n1_ := Aside0.mk (hbox); have n2_ := Aside0.mk ((by rw [hg]; exact (below_size (by repeat (first | (with_reducible first | exact HB.out | apply below_alloc | apply pw_below_drewN | apply below_drew1) | exact HB.out))) : w.heap.size ≤ gb230)); have n3_ := Aside0.mk ((by rw [hg]; exact (below_size (by repeat (first | (with_reducible first | exact HB.out | apply below_alloc | apply pw_below_drewN | apply below_drew1) | exact HB.out))) : w.heap.size ≤ gb230)); clear HB; have HB := n0_; have BK230 := n1_; have GW230 := n2_; have GE230 := n3_; clear n0_ n1_ n2_ n3_; clear hb hbox hg; have hcz128_0 : w127.cell? ⟨gb230, 0, none⟩ = some (.int .i64 0) := (blk_cell BK230.out 0).trans rfl; have hcz128_1 : w127.cell? ⟨gb230, 1, none⟩ = some (.int .i64 0) := (blk_cell BK230.out 1).trans rfl; have hcz128_2 : w127.cell? ⟨gb230, 2, none⟩ = some (.slice none 0 0) := (blk_cell BK230.out 2).trans rfl; have hfz128_0 := blk_frozen BK230.out 0; have hfz128_1 := blk_frozen BK230.out 1; have hfz128_2 := blk_frozen BK230.out 2))
    refine bodyPost_ret (results_ct rfl _ _ gb230 64 #[.int .i64 0, .int .i64 0, .slice none 0 0] (0, 0) _ rfl (by (with_reducible repeat (first | refine blk_drewN ?_ _ | refine blk_drew ?_ | refine blk_alloc ?_ _)); refine blk_put (cs := #[.int .i64 0, .int .i64 0, .slice none 0 0]) ?_ 2 _ rfl; (with_reducible repeat (first | refine blk_drewN ?_ _ | refine blk_drew ?_ | refine blk_alloc ?_ _)); refine blk_put (cs := #[.int .i64 0, .int .i64 0, .slice none 0 0]) ?_ 1 _ rfl; (with_reducible repeat (first | refine blk_drewN ?_ _ | refine blk_drew ?_ | refine blk_alloc ?_ _)); refine blk_put (cs := #[.int .i64 0, .int .i64 0, .slice none 0 0]) ?_ 0 _ rfl; (with_reducible repeat (first | refine blk_drewN ?_ _ | refine blk_drew ?_ | refine blk_alloc ?_ _)); exact BK230.out) Try.underlying64 rfl (by kernel_rfl)) rfl ?_
    exact ⟨_, by first | rfl | (simp [errW_none, errW_some] <;> rfl) | (simp [*, errW_none, errW_some] <;> rfl), by first | exact Kd.S_nil _ _ _ _ _ | exact Kd.N_nil _ _ _ _ _ | exact Kd.V_nil _ _ _ _ _ | exact Kd.Q_nil _ _ _ _ _ | exact Kd.R_nil _ _ _ _ _, by repeat (first | (with_reducible first | exact HB.out | apply below_alloc | apply pw_below_drewN | apply below_drew1 | refine below_set ?_ GE230.out) | exact HB.out)⟩

end Go.Proofs.Ytdieanikopjbjaa.QSlotUn
