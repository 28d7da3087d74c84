/- Disks: contracts and laws, walked by hand. No condition beside those that each theorem names. -/
import Derived.Test.YtgageigcjeaenaaDisk2
namespace Go.Proofs.Ytgageigcjeaenaa.Disk
open Go.RowKit Go.Proofs.YtgageigcjeaenaaW.PrintWords Go.Proofs.YtgageigcjeaenaaW.PrintLast Go.Proofs.YtgageigcjeaenaaW.PrintMore Go.Proofs.Ytgageigcjeaenaa.MixBase Go.Proofs.Ytgageigcjeaenaa.MixPlain Go.Proofs.Ytgageigcjeaenaa.NumBase Go.Proofs.Ytgageigcjeaenaa.PadPlain
attribute [local go_sem] max2_int min2_int max_two min_two max_three min_three max_four min_four
set_option linter.unusedVariables false
set_option linter.unusedSimpArgs false
theorem wpList_make_rows {P : Program} {w : World} {ops : Array Oper} {rest : List Oper} {o : Oper} {a : Act} {Q : Exit → Act → World → Prop} (hgd : o.guard = none) (x : Operand) {t e : TypeId} {size bytes : Nat} {z : Value} (ho : o.op = .makeSlice t x x) (ht : P.underlying t = some (.slice e))
    (hinfo : (P.info? e).map (fun i => (i.zero, i.size, i.bytes)) = some (some z, size, bytes)) (n : Nat) (hx : a.eval x = .int .i64 (n : Int)) (hb : bytes * n ≤ 281474976710656) (hn : n ≤ 9223372036854775807)
    (h : ∀ cur : Array Value, cur.size = n * size → wpList P ops Q rest (a.put o.dst (.slice (some ⟨w.heap.size, 0, none⟩) n n)) (w.alloc (.cells cur e (0, 0)))) :
    wpList P ops Q (o :: rest) a w := by
  refine wpList_plain hgd fun K hK => ?_
  obtain ⟨i, hi, hzz⟩ := Option.map_eq_some_iff.1 hinfo
  simp only [Prod.mk.injEq] at hzz
  obtain ⟨hz, hs, hb'⟩ := hzz
  have hbi : (i.bytes : Int) * (n : Int) ≤ 281474976710656 := by
    rw [hb']
    have : ((bytes * n : Nat) : Int) ≤ 281474976710656 := by omega
    rwa [Int.natCast_mul] at this
  have hrun := run_make (P := P) w t e i z ht hi hz .i64 .i64 n n (by omega) (by omega) hbi (by omega)
  rw [hs] at hrun
  simp only [Int.toNat_natCast] at hrun
  unfold Oper.wp
  simp [execOp, ho, hx, hrun, Result.andThen]
  exact hK _ _ (h _ (size_madeCells _ _))
theorem run_copy_all {P : Program} (w : World) (dT sT ty elem : TypeId) (size : Nat) (hu : P.underlying dT = some (.slice elem)) (hs : (P.info? elem).map (·.size) = some size) (g n dCap base e : Nat) (v : Value) (xs : List Value) (cur : Array Value) (t : TypeId)
    (hg : w.heap[g]? = some (.cells cur t (0, 0))) (hcur : cur.size = n * size) (ho : w.ownsRow base e size v n xs) (h1 : ∀ u ∈ xs, u.oneCell' = true) :
    (Builtin.copy_ #[dT, sT] ty #[.slice (some ⟨g, 0, none⟩) n dCap, v]).run P w = .ok (goInt n) (w.setRow g xs.toArray) := by
  have hxl := ho.1
  rcases ho.2 with ⟨rfl, rfl⟩ | ⟨gs, cap, cur2, rfl, _, hgs, hnc, _, hsz, htake⟩
  · have hx0 : xs = [] := List.eq_nil_of_length_eq_zero (by rw [hxl]; simp)
    have hc0 : cur = #[] := Array.eq_empty_of_size_eq_zero (by rw [hcur]; simp)
    subst hx0 hc0
    rw [run_copy_nil P w dT sT ty elem ⟨g, 0, none⟩ 0 dCap hu (by cases hq : P.info? elem with | none => simp [hq] at hs | some i => rfl)]
    rw [setRow_self w g _ t (0, 0) hg]
    rfl
  · have hsrc : ∀ j u, xs[j]? = some u → w.cell? ((⟨gs, 0, none⟩ : Addr).add j) = some u := by
      intro j u hj
      have hjl := (List.getElem?_eq_some_iff.1 hj).1
      have e2 : cur2[j]? = xs[j]? := by
        conv => rhs; rw [← htake]
        rw [List.getElem?_take_of_lt (by omega), Array.getElem?_toList]
      rw [show (⟨gs, 0, none⟩ : Addr).add j = ⟨gs, j, none⟩ by unfold Addr.add; split <;> simp_all, blk_cell hgs, e2, hj]
    have hl := run_loadCells_list (P := P) w ⟨gs, 0, none⟩ xs hsrc
    have hst := run_storeCells_at P g 0 t xs 0 cur w hg (by rw [hcur, hxl]; omega) h1
    have hdrop : cur.toList.drop (0 + 0 + xs.length) = [] := List.drop_eq_nil_of_le (by rw [Array.length_toList, hcur, hxl]; omega)
    have htk : cur.toList.take (0 + 0) = [] := by simp
    rw [hdrop, htk, List.nil_append, List.append_nil] at hst
    cases hq : P.info? elem with
    | none => simp [hq] at hs
    | some i =>
      have hi : i.size = size := by simpa [hq] using hs
      simp [Builtin.copy_, run_underlying hu, Builtin.lenOf, Builtin.firstCells, sizeOf, typeInfo, hq, hi, ← hxl, hl, hst]
theorem wpList_copy_all {P : Program} {w : World} {ops : Array Oper} {rest : List Oper} {o : Oper} {a : Act} {Q : Exit → Act → World → Prop} (hgd : o.guard = none) (d s : Operand) (dT sT : TypeId)
    (ho : o.op = .call { callee := .builtin .copy, args := #[d, s], argTypes := #[dT, sT] }) (elem : TypeId) (size : Nat) (hu : P.underlying dT = some (.slice elem)) (hsz : (P.info? elem).map (·.size) = some size)
    (g n dCap base e : Nat) (v : Value) (xs : List Value) (hd : a.eval d = .slice (some ⟨g, 0, none⟩) n dCap) (hs : a.eval s = v) (cur : Array Value) (t : TypeId) (hg : w.heap[g]? = some (.cells cur t (0, 0))) (hcur : cur.size = n * size)
    (hown : w.ownsRow base e size v n xs) (h1 : ∀ u ∈ xs, u.oneCell' = true)
    (h : wpList P ops Q rest (a.put o.dst (goInt n)) (w.setRow g xs.toArray)) : wpList P ops Q (o :: rest) a w := by
  refine wpList_plain hgd fun K hK => ?_
  have hrun := run_copy_all (P := P) w dT sT o.type elem size hu hsz g n dCap base e v xs cur t hg hcur hown h1
  unfold Oper.wp
  simp [execOp, ho, resolve, invoke, builtin, hd, hs, hrun, Result.andThen]
  exact hK _ _ h
theorem strs_one (l : List ByteArray) : ∀ u ∈ strs l, u.oneCell' = true := by
  intro u hu
  obtain ⟨x, _, rfl⟩ := List.mem_map.1 hu
  rfl
theorem pgs_one (l : List Pg) : ∀ u ∈ pgs l, u.oneCell' = true := by
  intro u hu
  obtain ⟨x, _, hx⟩ := List.mem_flatMap.1 hu
  simp at hx
  rcases hx with rfl | rfl <;> rfl
/-- A row that has been made and laid whole. -/
theorem own_laid {w : World} {e size n : Nat} {xs : List Value} {cur : Array Value} (hx : xs.length = n * size) (hn : n ≤ maxLen) :
    ((w.alloc (.cells cur e (0, 0))).setRow w.heap.size xs.toArray).ownsRow w.heap.size e size (.slice (some ⟨w.heap.size, 0, none⟩) n n) n xs ∧ Below w.heap.size w ((w.alloc (.cells cur e (0, 0))).setRow w.heap.size xs.toArray) :=
  ⟨⟨hx, Or.inr ⟨_, n, xs.toArray, rfl, Nat.le_refl _, setRow_heap _ _ cur _ e _ (blk_new w _), Nat.le_refl _, hn, by simp [hx], by simp [← hx]⟩⟩, below_setRow (below_alloc (Below.refl _ _) _) (Nat.le_refl _) _⟩
section
variable {w : World} {base g : Nat} {vb vl : Value} {d : Dk}
set_option maxRecDepth 100000 in
theorem Image_calls (h : DiskIs w base g vb vl d) (hn : d.blocks.length * 16 ≤ 140737488355328) : Calls Try.prog 24 #[.pointer (some ⟨g, 0, none⟩)] w fun e w' => ∃ v, e = .returned v ∧ w'.ownsRow w.heap.size 9 1 v d.blocks.length (strs d.blocks) ∧ Below w.heap.size w w' := by
  have hu78 := Try.underlying78
  obtain ⟨A, c, rfl, hm⟩ := own_slice h.2.2.1
  have HD := Aside0.mk h
  have HN := Aside0.mk hn
  have HM := Aside0.mk hm
  have c0 := (blk_cell h.2.1 0).trans rfl
  clear h hn hm
  go_enter Try.func24, Try.ntmps24
  go_wp2_with (first
    | (refine wpList_make_rows rfl (.tmp 10) rfl Try.underlying37 info9 d.blocks.length rfl (by have := HN.out; omega) (by have := HN.out; omega) ?_; intro cur hcur; have HCur := Aside0.mk hcur; have BG := Aside0.mk (blk_new w (.cells cur 9 (0, 0))); have HO := Aside0.mk (own_alloc HD.out.2.2.1 (.cells cur 9 (0, 0))); have c0' := (blk_cell (blk_alloc HD.out.2.1 (.cells cur 9 (0, 0))) 0).trans rfl; clear hcur)
    | (refine wpList_copy_all rfl (.tmp 12) (.tmp 16) 37 37 rfl 9 1 Try.underlying37 (by kernel_rfl) w.heap.size d.blocks.length d.blocks.length base 9 (.slice A d.blocks.length c) (strs d.blocks) rfl rfl cur 9 BG.out HCur.out HO.out (strs_one _) ?_))
  go_ret
  have hl := own_laid (w := w) (e := 9) (size := 1) (n := d.blocks.length) (xs := strs d.blocks) (cur := cur) (by rw [strs_length]; omega) HM.out
  exact ⟨_, rfl, hl⟩
theorem Image_nil (w : World) : Calls Try.prog 24 #[.pointer none] w fun e w' => e = .returned (.slice none 0 0) ∧ w' = w := by
  go_enter Try.func24, Try.ntmps24
  go_wp2
  go_ret
  exact ⟨rfl, rfl⟩
set_option maxRecDepth 100000 in
theorem Log_calls (h : DiskIs w base g vb vl d) (hn : d.log.length * 24 ≤ 140737488355328) : Calls Try.prog 19 #[.pointer (some ⟨g, 0, none⟩)] w fun e w' => ∃ v, e = .returned v ∧ w'.ownsRow w.heap.size 62 2 v d.log.length (pgs d.log) ∧ Below w.heap.size w w' := by
  have hu78 := Try.underlying78
  obtain ⟨A, c, rfl, hm⟩ := own_slice h.2.2.2
  have HD := Aside0.mk h
  have HN := Aside0.mk hn
  have HM := Aside0.mk hm
  have c0 := (blk_cell h.2.1 1).trans rfl
  clear h hn hm
  go_enter Try.func19, Try.ntmps19
  go_wp2_with (first
    | (refine wpList_make_rows rfl (.tmp 10) rfl Try.underlying35 info62 d.log.length rfl (by have := HN.out; omega) (by have := HN.out; omega) ?_; intro cur hcur; have HCur := Aside0.mk hcur; have BG := Aside0.mk (blk_new w (.cells cur 62 (0, 0))); have HO := Aside0.mk (own_alloc HD.out.2.2.2 (.cells cur 62 (0, 0))); have c0' := (blk_cell (blk_alloc HD.out.2.1 (.cells cur 62 (0, 0))) 1).trans rfl; clear hcur)
    | (refine wpList_copy_all rfl (.tmp 12) (.tmp 16) 35 35 rfl 62 2 Try.underlying35 (by kernel_rfl) w.heap.size d.log.length d.log.length base 62 (.slice A d.log.length c) (pgs d.log) rfl rfl cur 62 BG.out HCur.out HO.out (pgs_one _) ?_))
  go_ret
  have hl := own_laid (w := w) (e := 62) (size := 2) (n := d.log.length) (xs := pgs d.log) (cur := cur) (pgs_length _) HM.out
  exact ⟨_, rfl, hl⟩
theorem Log_nil (w : World) : Calls Try.prog 19 #[.pointer none] w fun e w' => e = .returned (.slice none 0 0) ∧ w' = w := by
  go_enter Try.func19, Try.ntmps19
  go_wp2
  go_ret
  exact ⟨rfl, rfl⟩
end
end Go.Proofs.Ytgageigcjeaenaa.Disk
