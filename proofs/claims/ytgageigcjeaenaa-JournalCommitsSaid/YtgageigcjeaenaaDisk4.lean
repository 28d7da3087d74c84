/- Disks: contracts and laws, walked by hand. No condition beside those that each theorem names. -/
import Derived.Test.YtgageigcjeaenaaDisk3
import Derived.Test.YtgageigcjeaenaaShelf
namespace Go.Proofs.Ytgageigcjeaenaa.Disk
open Go.RowKit Go.Proofs.YtgageigcjeaenaaW.PrintWords Go.Proofs.YtgageigcjeaenaaW.PrintLast Go.Proofs.YtgageigcjeaenaaW.PrintMore Go.Proofs.Ytgageigcjeaenaa.MixBase Go.Proofs.Ytgageigcjeaenaa.MixPlain Go.Proofs.Ytgageigcjeaenaa.NumBase Go.Proofs.Ytgageigcjeaenaa.PadPlain
attribute [local go_sem] max2_int min2_int max_two min_two max_three min_three max_four min_four
set_option linter.unusedVariables false
set_option linter.unusedSimpArgs false
theorem step_copy_strs {P : Program} {ops : Array Oper} {o : Oper} {a : Act} {w : World} {K : Act → World → Prop} {Q : Exit → Act → World → Prop} {E : Prop} (hgd : o.guard = none) (d s : Operand) (dT sT : TypeId)
    (ho : o.op = .call { callee := .builtin .copy, args := #[d, s], argTypes := #[dT, sT] }) (elem : TypeId) (hu : P.underlying dT = some (.slice elem)) (hsz : (P.info? elem).map (·.size) = some 1)
    (g off dLen dCap sLen sCap : Nat) (hd : a.eval d = .slice (some ⟨g, off, none⟩) dLen dCap) (hs : a.eval s = .slice (some ⟨g, 0, none⟩) sLen sCap)
    (cur : Array Value) (t : TypeId) (hg : w.heap[g]? = some (.cells cur t (0, 0))) (cs : List Value) (hn : cs.length = Nat.min sLen dLen)
    (hsrc : ∀ (j : Nat) (v : Value), cs[j]? = some v → cur[j]? = some v) (hfit : off + cs.length ≤ cur.size) (h1 : ∀ v ∈ cs, v.oneCell' = true)
    (h : K (a.put o.dst (goInt cs.length)) (w.setRow g (cur.toList.take off ++ (cs ++ cur.toList.drop (off + cs.length))).toArray)) :
    if Region.wanted o (yielded ops a.tmps) = true then Oper.wp P o a w K Q else E := by
  have hw : Region.wanted o (yielded ops a.tmps) = true := by simp [Region.wanted, hgd]
  rw [if_pos hw]
  have hsrc' : ∀ (j : Nat) (v : Value), cs[j]? = some v → w.cell? ((⟨g, 0, none⟩ : Addr).add j) = some v := by
    intro (j : Nat) v hj
    rw [show (⟨g, 0, none⟩ : Addr).add j = ⟨g, j, none⟩ by unfold Addr.add; split <;> simp_all, blk_cell hg]
    exact hsrc j v hj
  have hrun := run_copy_row P w dT sT o.type elem g off dLen dCap ⟨g, 0, none⟩ sLen sCap cur t cs hu hsz hg hn hsrc' hfit h1
  unfold Oper.wp
  simp [execOp, ho, resolve, invoke, builtin, hd, hs, hrun, Result.andThen]
  exact h
/-- A row of strings, laid as far as m. -/
def LaidTo (s : ByteArray) (n m : Nat) (cur : Array Value) : Prop := cur.size = n ∧ ∀ j, j < m → cur[j]? = some (.string s)
theorem laid_more {s : ByteArray} {n m k : Nat} {cur : Array Value} (h : LaidTo s n m cur) (hk : m + k ≤ n) : LaidTo s n (m + k) (cur.toList.take m ++ List.replicate k (Value.string s) ++ cur.toList.drop (m + k)).toArray := by
  obtain ⟨h1, h2⟩ := h
  have hl : (cur.toList.take m).length = m := by rw [List.length_take, Array.length_toList]; omega
  refine ⟨by simp [h1]; omega, fun j hj => ?_⟩
  rw [List.getElem?_toArray, List.append_assoc]
  by_cases hjm : j < m
  · rw [List.getElem?_append_left (by omega), List.getElem?_take_of_lt hjm, Array.getElem?_toList]
    exact h2 j hjm
  · rw [List.getElem?_append_right (by omega), List.getElem?_append_left (by rw [List.length_replicate, hl]; omega), List.getElem?_replicate, if_pos (by omega)]
theorem laid_all {s : ByteArray} {n : Nat} {cur : Array Value} (h : LaidTo s n n cur) : cur.toList = strs (List.replicate n s) := by
  apply List.ext_getElem?
  intro j
  rw [Array.getElem?_toList]
  by_cases hj : j < n
  · rw [h.2 j hj, strs, List.getElem?_map, List.getElem?_replicate, if_pos hj]
    rfl
  · rw [Array.getElem?_eq_none (by have := h.1; omega), List.getElem?_eq_none (by rw [strs_length, List.length_replicate]; omega)]
theorem laid_src {s : ByteArray} {n m k : Nat} {c : Array Value} (h : LaidTo s n m c) (hk : k ≤ m) : ∀ (j : Nat) (v : Value), (List.replicate k (Value.string s))[j]? = some v → c[j]? = some v := by
  intro j v hj
  rw [List.getElem?_replicate] at hj
  by_cases hjk : j < k
  · rw [if_pos hjk] at hj
    rw [h.2 j (by omega), hj]
  · rw [if_neg hjk] at hj
    cases hj
theorem first_copy {w : World} {cur : Array Value} {s : ByteArray} {n : Nat} (hcur : cur.size = n * 1) (h1 : 1 ≤ n) {Q : World → Prop} (h : ∀ w4 c, w4.heap[w.heap.size]? = some (.cells c 9 (0, 0)) → LaidTo s n 1 c → Below w.heap.size w w4 → Q w4) :
    Q ((w.alloc (.cells cur 9 (0, 0))).setRow w.heap.size (cur.toList.take 0 ++ ([Value.string s] ++ cur.toList.drop (0 + [Value.string s].length))).toArray) := by
  have hL0 : LaidTo s n 0 cur := ⟨by omega, fun j hj => absurd hj (by omega)⟩
  have hL1 := laid_more (k := 1) hL0 (by omega)
  exact h _ _ (setRow_heap _ _ cur _ 9 (0, 0) (blk_new w _)) (by simpa using hL1) (below_setRow (below_alloc (Below.refl _ _) _) (Nat.le_refl _) _)
theorem more_copy {w w0 : World} {g B : Nat} {cur : Array Value} {s : ByteArray} {n m k : Nat} (hg : w.heap[g]? = some (.cells cur 9 (0, 0))) (hL : LaidTo s n m cur) (hk : m + k ≤ n) (hB : B ≤ g) (hb : Below B w0 w) {Q : World → Prop} (h : ∀ w4 c, w4.heap[g]? = some (.cells c 9 (0, 0)) → LaidTo s n (m + k) c → Below B w0 w4 → w4.heap.size = w.heap.size → Q w4) :
    Q (w.setRow g (cur.toList.take m ++ (List.replicate k (Value.string s) ++ cur.toList.drop (m + (List.replicate k (Value.string s)).length))).toArray) := by
  have hL1 := laid_more (k := k) hL hk
  exact h _ _ (setRow_heap _ _ cur _ 9 (0, 0) hg) (by rw [List.length_replicate]; simpa using hL1) (below_setRow hb hB _) (by simp [World.setRow])
set_option maxRecDepth 100000 in
set_option maxHeartbeats 2000000 in
theorem sRepeat_calls (s : ByteArray) (n ga : Nat) (h1 : 1 ≤ n) (hn : n ≤ 4096) (w : World) (hA : w.heap[ga]? = some (.cells #[.string s] 9 (0, 0))) :
    Calls Try.prog 57 #[.slice (some ⟨ga, 0, none⟩) 1 1, .int .i64 (n : Int)] w fun e w' => ∃ v, e = .returned v ∧ w'.ownsRow w.heap.size 9 1 v n (strs (List.replicate n s)) ∧ Below w.heap.size w w' := by
  have HA := Aside0.mk hA
  have H1 := Aside0.mk h1
  have HN := Aside0.mk hn
  have b0 : decide ((n : Int) < 0) = false := decide_eq_false (by omega)
  have e1 : (1 * n / 18446744073709551616 : Nat) = 0 := by omega
  have e2 : (1 * n % 18446744073709551616 : Nat) = n := by omega
  have u1 : IntKind.u64.wrap (1 : Int) = ((1 : Nat) : Int) := rfl
  have u2 : IntKind.u64.wrap (n : Int) = (n : Int) := u64_small (by omega) (by omega)
  have b1 : decide ((9223372036854775807 : Int) < (n : Int)) = false := decide_eq_false (by omega)
  clear hA
  go_enter Try.func57, Try.ntmps57
  go_wp2_with (first
    | (go_at_call 78; refine (Try.bits_Mul 1 n (by decide) (by have := HN.out; omega) _).mono ?_; rintro e w2 ⟨rfl, hw⟩; obtain rfl := hw.symm; rw [e1, e2])
    | (refine wpList_make_rows rfl (.tmp 29) rfl Try.underlying37 info9 n rfl (by have := HN.out; omega) (by have := HN.out; omega) ?_; intro cur hcur; have HCur := Aside0.mk hcur; have BG := Aside0.mk (blk_new w (.cells cur 9 (0, 0))); have BA := Aside0.mk (blk_alloc HA.out (.cells cur 9 (0, 0))); clear hcur)
    | (refine wpList_copy_own rfl (.tmp 31) (.tmp 32) 37 37 rfl 9 Try.underlying37 (by kernel_rfl) w.heap.size 0 n n ⟨ga, 0, none⟩ 1 1 rfl rfl cur 9 BG.out [.string s] (Nat.min_eq_left H1.out).symm (fun j v hj => match j, hj with | 0, hj => (blk_cell BA.out 0).trans hj | j + 1, hj => by simp at hj) (by have := H1.out; have := HCur.out; show 0 + 1 ≤ cur.size; omega) (fun v hv => by simp at hv; subst hv; rfl) ?_; refine first_copy (Q := fun w4 => wpList _ _ _ _ _ w4) HCur.out H1.out ?_; intro w4 cur1 hr hl hb; have HR4 := Aside0.mk hr; have HL4 := Aside0.mk hl; have HB4 := Aside0.mk hb; clear hr hl hb HCur BG BA))
  go_loopg [8] (n - 1) (fun kq v8 wr => ∃ (m : Nat) (c : Array Value), v8 = .int .i64 (m : Int) ∧ m ≤ n ∧ Aside0 (kq = n - m) ∧ Aside0 (1 ≤ m) ∧ Aside0 (LaidTo s n m c) ∧ Aside0 (wr.heap[w.heap.size]? = some (.cells c 9 (0, 0))) ∧ Aside0 (Below w.heap.size w wr))
  case atStart => exact ⟨1, cur1, rfl, h1, ⟨rfl⟩, ⟨Nat.le_refl _⟩, HL4, HR4, HB4⟩
  case round =>
    clear HL4 HR4 HB4
    obtain ⟨m, c, rfl, hmn, hkq, HM1, HL, HR, HB⟩ := hrel
    by_cases hlt : m < n
    · have hz : (m : Int) < (n : Int) := by omega
      have hm0 : 0 ≤ (m : Int) := by omega
      have hmz : (m : Int) ≤ (n : Int) := by omega
      have hne : (n = m) = False := eq_false (by omega)
      go_wp2
      have HMN := Aside0.mk hlt
      go_region_held3 (fun w' => wr.heap.size ≤ w'.heap.size) (first | exact Nat.le_refl _ | exact HS5.out) (first | (refine step_copy_strs rfl (.tmp 41) (.tmp 44) 37 37 rfl 9 Try.underlying37 (by kernel_rfl) w.heap.size m (n - m) (n - m) m n rfl rfl c 9 (blk_drew HR.out) (List.replicate (min m (n - m)) (Value.string s)) (by simp) (laid_src HL.out (Nat.min_le_left _ _)) (by have := HL.out.1; have := HMN.out; rw [List.length_replicate]; omega) (fun v hv => by rw [List.eq_of_mem_replicate hv]; rfl) ?_; refine more_copy (Q := fun w4 => _) (k := min m (n - m)) (blk_drew HR.out) HL.out (by have := HMN.out; omega) (Nat.le_refl _) (below_drew1 HB.out) ?_; intro w5 c5 hr hl hb hs5; have HR5 := Aside0.mk hr; have HL5 := Aside0.mk hl; have HB5 := Aside0.mk hb; have HS5 : Aside0 (wr.heap.size ≤ w5.heap.size) := ⟨by rw [hs5]; exact Nat.le_refl _⟩; clear hr hl hb hs5))
      go_wp2
      go_roundg (n - (m + min m (n - m)))
      case measure => have := hkq.out; have := HM1.out; have := HMN.out; omega
      case rel => exact ⟨m + min m (n - m), c5, by have h1 := HMN.out; have h2 := HN.out; first | (rw [wrap64_small (by omega) (by omega)]; first | rfl | (simp; done) | (congr 1; omega)) | (have e : IntKind.i64.wrap ((m : Int) + ((min m (n - m) : Nat) : Int)) = (m : Int) + ((min m (n - m) : Nat) : Int) := (i64_w _).trans (wrap64_small (by omega) (by omega)); first | (simp [e]; done) | (simp; omega)), by have := HMN.out; omega, ⟨rfl⟩, ⟨by have := HM1.out; omega⟩, HL5, HR5, HB5⟩
    · obtain rfl : m = n := by omega
      clear hlt
      go_wp2
      go_ret
      refine ⟨_, rfl, ⟨by rw [strs_length, List.length_replicate, Nat.mul_one], Or.inr ⟨_, m, c, rfl, Nat.le_refl _, HR.out, Nat.le_refl _, by have := HN.out; simp only [maxLen]; omega, by rw [HL.out.1, Nat.mul_one], ?_⟩⟩, HB.out⟩
      rw [laid_all HL.out]
      exact List.take_of_length_le (by rw [strs_length, List.length_replicate]; omega)
end Go.Proofs.Ytgageigcjeaenaa.Disk
