/- Disks: contracts and laws, walked by hand. No condition beside those that each theorem names. -/
import Derived.Test.YtgageigcjeaenaaDisk4
namespace Go.Proofs.Ytgageigcjeaenaa.Disk
open Go.RowKit Go.Proofs.YtgageigcjeaenaaW.PrintWords Go.Proofs.YtgageigcjeaenaaW.PrintLast Go.Proofs.YtgageigcjeaenaaW.PrintMore Go.Proofs.Ytgageigcjeaenaa.MixBase Go.Proofs.Ytgageigcjeaenaa.MixPlain Go.Proofs.Ytgageigcjeaenaa.NumBase Go.Proofs.Ytgageigcjeaenaa.PadPlain
attribute [local go_sem] max2_int min2_int max_two min_two max_three min_three max_four min_four
set_option linter.unusedVariables false
set_option linter.unusedSimpArgs false
def newD (n : Nat) : Dk := ⟨List.replicate n (zeros 256), [], 0, false, false⟩
theorem many_calls (a : Int) (w : World) : Calls Try.prog 55 #[.int .i64 a] w fun e w' => e = .returned (.bool (decide (64 ≤ a ∧ a ≤ 2048))) ∧ w' = w := by
  by_cases h1 : 64 ≤ a
  · have b1 : decide (64 ≤ a) = true := decide_eq_true h1
    by_cases h2 : a ≤ 2048
    · have b2 : decide (a ≤ 2048) = true := decide_eq_true h2
      rw [decide_eq_true (show 64 ≤ a ∧ a ≤ 2048 from ⟨h1, h2⟩)]
      go_enter Try.func55, Try.ntmps55
      go_wp2
      go_ret
      exact ⟨rfl, rfl⟩
    · have b2 : decide (a ≤ 2048) = false := decide_eq_false h2
      rw [decide_eq_false (show ¬ (64 ≤ a ∧ a ≤ 2048) from fun h => h2 h.2)]
      go_enter Try.func55, Try.ntmps55
      go_wp2
      go_ret
      exact ⟨rfl, rfl⟩
  · have b1 : decide (64 ≤ a) = false := decide_eq_false h1
    rw [decide_eq_false (show ¬ (64 ≤ a ∧ a ≤ 2048) from fun h => h1 h.1)]
    go_enter Try.func55, Try.ntmps55
    go_wp2
    go_ret
    exact ⟨rfl, rfl⟩
theorem own_none {w : World} (base e size : Nat) : w.ownsRow base e size (.slice none 0 0) 0 [] := own_nil _ _ _ _
theorem New_bad (a : Int) (h : ¬ (64 ≤ a ∧ a ≤ 2048)) (w : World) : Calls Try.prog 27 #[.int .i64 a] w fun e w' => e = .returned (.tuple #[.pointer none, .int .i64 1]) ∧ w' = w := by
  have hd := decide_eq_false h
  clear h
  go_enter Try.func27, Try.ntmps27
  go_wp2_with (go_at_call 55; refine (many_calls a _).mono ?_; rintro e w2 ⟨rfl, hw⟩; obtain rfl := hw.symm; rw [hd])
  go_ret2
  exact ⟨rfl, rfl⟩
set_option maxRecDepth 100000 in
theorem New_calls (n : Nat) (h1 : 64 ≤ n) (h2 : n ≤ 2048) (w : World) : Calls Try.prog 27 #[.int .i64 (n : Int)] w fun e w' => ∃ g vb, e = .returned (.tuple #[.pointer (some ⟨g, 0, none⟩), .int .i64 0]) ∧ DiskIs w' w.heap.size g vb (.slice none 0 0) (newD n) ∧ Below w.heap.size w w' := by
  have hu78 := Try.underlying78
  have hd : decide (64 ≤ (n : Int) ∧ (n : Int) ≤ 2048) = true := decide_eq_true (by omega)
  have H1 := Aside0.mk h1
  have H2 := Aside0.mk h2
  have hz : (⟨(Lib.repeatL (⟨#[0]⟩ : ByteArray).data.toList 256).toArray⟩ : ByteArray) = zeros 256 := repeat_zeros 256
  clear h1 h2
  go_enter Try.func27, Try.ntmps27
  go_wp2_with (first
    | (go_at_call 55; refine (many_calls n _).mono ?_; rintro e w2 ⟨rfl, hw⟩; obtain rfl := hw.symm; rw [hd])
    | (go_at_call 56; refine (Try.strings_Repeat ⟨#[0]⟩ 256 w (by decide) (by decide)).mono ?_; rintro e w3 ⟨rfl, hb⟩; rw [hz]; have HB3 := Aside0.mk hb; clear hb)
    | (go_at_call 57; refine (sRepeat_calls (zeros 256) n w3.heap.size (by have := H1.out; omega) (by have := H2.out; omega) _ (blk_new w3 _)).mono ?_; rintro e w4 ⟨v, rfl, ho, hb⟩; obtain ⟨A, c, rfl, _⟩ := own_slice ho; have HO := Aside0.mk ho; have HB4 := Aside0.mk (below_step (below_alloc HB3.out _) hb); have HLe := Aside0.mk (below_size (below_alloc HB3.out (.cells #[.string (zeros 256)] 9 (0, 0)))); clear ho hb))
  go_ret2
  refine ⟨_, _, rfl, ⟨?_, blk_new w4 _, ?_, own_none _ _ _⟩, below_alloc HB4.out _⟩
  · exact below_size HB4.out
  · show World.ownsRow _ _ 9 1 _ (List.replicate n (zeros 256)).length (strs (List.replicate n (zeros 256)))
    rw [List.length_replicate]
    exact own_alloc (own_less HO.out HLe.out) _
def ofErr (l : List ByteArray) : Int := if 64 ≤ l.length ∧ l.length ≤ 2048 then (if l.all (fun b => b.size == 256) = true then 0 else 3) else 1
theorem strs_cell {w : World} {base bb c n : Nat} {l : List ByteArray} (h : w.ownsRow base 9 1 (.slice (some ⟨bb, 0, none⟩) n c) n (strs l)) (hn : 0 < n) (i : Nat) (hi : i < l.length) : w.cell? ⟨bb, i, none⟩ = some (.string (l.getD i ⟨#[]⟩)) := by
  obtain ⟨b2, c2, cur, e, _, hh, _, hat⟩ := own_form h hn
  have hl : l.length = n := by have := h.1; rw [strs_length] at this; omega
  injection e with e1 e2 e3
  injection e1 with e1
  injection e1 with e1
  subst e1
  exact (blk_cell hh i).trans ((hat i (by omega)).trans (strs_at l i hi))
set_option maxRecDepth 100000 in
theorem Of_bad {w : World} {base : Nat} {v : Value} (l : List ByteArray) (h : w.ownsRow base 9 1 v l.length (strs l)) (he : ofErr l ≠ 0) : Calls Try.prog 35 #[v] w fun e w' => e = .returned (.tuple #[.pointer none, .int .i64 (ofErr l)]) ∧ w' = w := by
  obtain ⟨A, c, rfl, hm⟩ := own_slice h
  unfold ofErr at he ⊢
  by_cases hd : 64 ≤ l.length ∧ l.length ≤ 2048
  · rw [if_pos hd] at he ⊢
    by_cases ha : l.all (fun b => b.size == 256) = true
    · rw [if_pos ha] at he; exact absurd rfl he
    · rw [if_neg ha]
      have hdd : decide (64 ≤ (l.length : Int) ∧ (l.length : Int) ≤ 2048) = true := decide_eq_true (by omega)
      obtain ⟨bb, c2, cur, e, _⟩ := own_form h (by omega)
      injection e with e1 e2 e3
      subst e1 e3
      have HO := Aside0.mk h
      have HD := Aside0.mk hd
      have HA : Aside0 (¬ (l.drop 0).all (fun b => b.size == 256) = true) := ⟨ha⟩
      clear h hd he ha
      go_enter Try.func35, Try.ntmps35
      go_wp2_with (go_at_call 55; refine (many_calls l.length _).mono ?_; rintro e w2 ⟨rfl, hw⟩; obtain rfl := hw.symm; rw [hdd])
      go_loopg [12] l.length (fun kq v12 wr => ∃ (i : Nat), v12 = .int .i64 (i : Int) ∧ i ≤ l.length ∧ Aside0 (kq = l.length - i) ∧ Aside0 (¬ (l.drop i).all (fun b => b.size == 256) = true) ∧ wr = w)
      case atStart => exact ⟨0, rfl, Nat.zero_le _, ⟨rfl⟩, HA, rfl⟩
      case round =>
        clear HA
        obtain ⟨i, rfl, hi, hkq, HA, hw⟩ := hrel
        obtain rfl := hw.symm
        by_cases hil : i < l.length
        · have q := strs_cell HO.out (by have := HD.out; omega) i hil
          have hi0 : 0 ≤ (i : Int) := by omega
          have hiz : (i : Int) < (l.length : Int) := by omega
          have hda : (l.drop i).all (fun b => b.size == 256) = ((l.getD i ⟨#[]⟩).size == 256 && (l.drop (i + 1)).all (fun b => b.size == 256)) := by
            rw [List.drop_eq_getElem_cons hil, List.all_cons, List.getD_eq_getElem?_getD, List.getElem?_eq_getElem hil]
            rfl
          have HA2 := HA.out
          rw [hda] at HA2
          generalize l.getD i ⟨#[]⟩ = x at q HA2
          clear hda
          by_cases hx : x.size = 256
          · have hxb : ((x.size : Int) != 256) = false := bne_eq_false_iff_eq.2 (by omega)
            have HA3 : Aside0 (¬ (l.drop (i + 1)).all (fun b => b.size == 256) = true) := ⟨by rw [beq_iff_eq.2 hx, Bool.true_and] at HA2; exact HA2⟩
            clear HA2 hx
            go_wp2
            go_roundg (l.length - (i + 1))
            case measure => have := hkq.out; omega
            case rel => exact ⟨i + 1, by have := HD.out; rw [wrap64_small (by omega) (by omega)]; rfl, by omega, ⟨rfl⟩, HA3, rfl⟩
          · have hxb : ((x.size : Int) != 256) = true := bne_iff_ne.2 (by omega)
            clear HA2 hx
            go_wp2
            go_ret2
            exact ⟨rfl, rfl⟩
        · exact absurd (by rw [List.drop_eq_nil_of_le (by omega)]; rfl) HA.out
  · rw [if_neg hd]
    have hdd : decide (64 ≤ (l.length : Int) ∧ (l.length : Int) ≤ 2048) = false := decide_eq_false (by omega)
    clear h hd he
    go_enter Try.func35, Try.ntmps35
    go_wp2_with (go_at_call 55; refine (many_calls l.length _).mono ?_; rintro e w2 ⟨rfl, hw⟩; obtain rfl := hw.symm; rw [hdd])
    go_ret2
    exact ⟨rfl, rfl⟩
set_option maxRecDepth 100000 in
theorem Of_good {w : World} {base : Nat} {v : Value} (l : List ByteArray) (h : w.ownsRow base 9 1 v l.length (strs l)) (he : ofErr l = 0) : Calls Try.prog 35 #[v] w fun e w' => ∃ g vb, e = .returned (.tuple #[.pointer (some ⟨g, 0, none⟩), .int .i64 0]) ∧ DiskIs w' w.heap.size g vb (.slice none 0 0) ⟨l, [], 0, false, false⟩ ∧ Below w.heap.size w w' := by
  have hu78 := Try.underlying78
  obtain ⟨A, c, rfl, hm⟩ := own_slice h
  unfold ofErr at he
  by_cases hd : 64 ≤ l.length ∧ l.length ≤ 2048
  case neg => rw [if_neg hd] at he; exact absurd he (by decide)
  rw [if_pos hd] at he
  by_cases ha : l.all (fun b => b.size == 256) = true
  case neg => rw [if_neg ha] at he; exact absurd he (by decide)
  have hdd : decide (64 ≤ (l.length : Int) ∧ (l.length : Int) ≤ 2048) = true := decide_eq_true (by omega)
  obtain ⟨bb, c2, cur, e, _⟩ := own_form h (by omega)
  injection e with e1 e2 e3
  subst e1 e3
  have HO := Aside0.mk h
  have HD := Aside0.mk hd
  have HA := Aside0.mk ha
  clear h hd he ha
  go_enter Try.func35, Try.ntmps35
  go_wp2_with (go_at_call 55; refine (many_calls l.length _).mono ?_; rintro e w2 ⟨rfl, hw⟩; obtain rfl := hw.symm; rw [hdd])
  go_loopg [12] l.length (fun kq v12 wr => ∃ (i : Nat), v12 = .int .i64 (i : Int) ∧ i ≤ l.length ∧ Aside0 (kq = l.length - i) ∧ wr = w)
  case atStart => exact ⟨0, rfl, Nat.zero_le _, ⟨rfl⟩, rfl⟩
  case round =>
    obtain ⟨i, rfl, hi, hkq, hw⟩ := hrel
    obtain rfl := hw.symm
    by_cases hil : i < l.length
    · have q := strs_cell HO.out (by have := HD.out; omega) i hil
      have hi0 : 0 ≤ (i : Int) := by omega
      have hiz : (i : Int) < (l.length : Int) := by omega
      have hx : (l.getD i ⟨#[]⟩).size = 256 := by
        have := List.all_eq_true.1 HA.out (l.getD i ⟨#[]⟩) (by rw [List.getD_eq_getElem?_getD, List.getElem?_eq_getElem hil]; exact List.getElem_mem hil)
        exact beq_iff_eq.1 this
      generalize l.getD i ⟨#[]⟩ = x at q hx
      have hxb : ((x.size : Int) != 256) = false := bne_eq_false_iff_eq.2 (by omega)
      clear hx
      go_wp2
      go_roundg (l.length - (i + 1))
      case measure => have := hkq.out; omega
      case rel => exact ⟨i + 1, by have := HD.out; rw [wrap64_small (by omega) (by omega)]; rfl, by omega, ⟨rfl⟩, rfl⟩
    · obtain rfl : i = l.length := by omega
      clear hil hi
      go_wp2_with (go_at_call 61; refine (Try.slices_Clone_string bb 0 l.length c l w (Nat.le_refl _) (by have := HD.out; omega) (fun j hj => by rw [Nat.zero_add]; exact strs_cell HO.out (by have := HD.out; omega) j hj)).mono ?_; rintro e w3 ⟨v3, rfl, ho, _, hb⟩; obtain ⟨A3, c3, rfl, _⟩ := own_slice ho; have HO3 := Aside0.mk ho; have HB3 := Aside0.mk hb; clear ho hb)
      go_ret2
      refine ⟨_, _, rfl, ⟨HB3.out.size, blk_new w3 _, ?_, own_none _ _ _⟩, below_alloc HB3.out _⟩
      have ho := HO3.out
      rw [List.take_length] at ho
      exact own_alloc ho _
end Go.Proofs.Ytgageigcjeaenaa.Disk
