/- Disks: contracts and laws, walked by hand. No condition beside those that each theorem names. -/
import Derived.Test.YtgageigcjeaenaaDiskA
namespace Go.Proofs.Ytgageigcjeaenaa.Disk
open Go.RowKit Go.Proofs.YtgageigcjeaenaaW.PrintWords Go.Proofs.YtgageigcjeaenaaW.PrintLast Go.Proofs.YtgageigcjeaenaaW.PrintMore Go.Proofs.Ytgageigcjeaenaa.MixBase Go.Proofs.Ytgageigcjeaenaa.MixPlain Go.Proofs.Ytgageigcjeaenaa.NumBase Go.Proofs.Ytgageigcjeaenaa.PadPlain
attribute [local go_sem] max2_int min2_int max_two min_two max_three min_three max_four min_four
set_option linter.unusedVariables false
set_option linter.unusedSimpArgs false
theorem nbelow_set {w0 w : World} {B g j : Nat} {u : Value} (hg : B ≤ g) (h : Below B w0 w) : Below B w0 (w.setCell ⟨g, j, none⟩ u) := h.setCell hg _
set_option maxRecDepth 100000 in
theorem RefOf_bad {w : World} {base : Nat} {v : Value} (l : List ByteArray) (h : w.ownsRow base 9 1 v l.length (strs l)) (hl : l.length ≤ 1000000) (he : ofErr l ≠ 0) : Calls Try.prog 38 #[v] w fun e w' => e = .returned (.tuple #[.pointer none, .int .i64 (ofErr l)]) ∧ w' = w := by
  obtain ⟨A, c, rfl, hm⟩ := own_slice h
  unfold ofErr at he ⊢
  by_cases hd : 64 ≤ l.length ∧ l.length ≤ 2048
  · rw [if_pos hd] at he ⊢
    by_cases ha : l.all (fun b => b.size == 256) = true
    · rw [if_pos ha] at he; exact absurd rfl he
    · rw [if_neg ha]
      have hd1 : decide ((l.length : Int) < 64) = false := decide_eq_false (by omega)
      have hd2 : decide (2048 < (l.length : Int)) = false := decide_eq_false (by omega)
      obtain ⟨bb, c2, cur, e, _⟩ := own_form h (by omega)
      injection e with e1 e2 e3
      subst e1 e3
      have HO := Aside0.mk h
      have HD := Aside0.mk hd
      have HA : Aside0 (¬ (l.drop 0).all (fun b => b.size == 256) = true) := ⟨ha⟩
      clear h hd he ha
      go_enter Try.func38, Try.ntmps38
      go_wp2
      go_loopg [16] l.length (fun kq v12 wr => ∃ (i : Nat), v12 = .int .i64 (i : Int) ∧ i ≤ l.length ∧ Aside0 (kq = l.length - i) ∧ Aside0 (¬ (l.drop i).all (fun b => b.size == 256) = true) ∧ wr = w)
      case atStart => exact ⟨0, rfl, Nat.zero_le _, ⟨rfl⟩, HA, rfl⟩
      case round =>
        clear HA
        obtain ⟨i, rfl, hi, hkq, HA, hw⟩ := hrel
        obtain rfl := hw.symm
        by_cases hil : i < l.length
        · have q := strs_cell HO.out (by have := HD.out; omega) i hil
          have hi0 : 0 ≤ (i : Int) := by omega
          have hiz : (i : Int) < (l.length : Int) := by omega
          have hda : (l.drop i).all (fun b => b.size == 256) = ((l.getD i ⟨#[]⟩).size == 256 && (l.drop (i + 1)).all (fun b => b.size == 256)) := by
            rw [List.drop_eq_getElem_cons hil, List.all_cons, List.getD_eq_getElem?_getD, List.getElem?_eq_getElem hil]
            rfl
          have HA2 := HA.out
          rw [hda] at HA2
          generalize l.getD i ⟨#[]⟩ = x at q HA2
          clear hda
          by_cases hx : x.size = 256
          · have hxb : ((x.size : Int) != 256) = false := bne_eq_false_iff_eq.2 (by omega)
            have HA3 : Aside0 (¬ (l.drop (i + 1)).all (fun b => b.size == 256) = true) := ⟨by rw [beq_iff_eq.2 hx, Bool.true_and] at HA2; exact HA2⟩
            clear HA2 hx
            go_wp2
            go_roundg (l.length - (i + 1))
            case measure => have := hkq.out; omega
            case rel => exact ⟨i + 1, by have := HD.out; first | rfl | (rw [wrap64_small (by omega) (by omega)]; rfl), by omega, ⟨rfl⟩, HA3, rfl⟩
          · have hxb : ((x.size : Int) != 256) = true := bne_iff_ne.2 (by omega)
            clear HA2 hx
            go_wp2
            go_ret2
            exact ⟨rfl, rfl⟩
        · exact absurd (by rw [List.drop_eq_nil_of_le (by omega)]; rfl) HA.out
  · rw [if_neg hd]
    by_cases h64 : l.length < 64
    · have hd1 : decide ((l.length : Int) < 64) = true := decide_eq_true (by omega)
      clear h hd he
      go_enter Try.func38, Try.ntmps38
      go_wp2
      go_ret2
      exact ⟨rfl, rfl⟩
    · have hd1 : decide ((l.length : Int) < 64) = false := decide_eq_false (by omega)
      have hd2 : decide (2048 < (l.length : Int)) = true := decide_eq_true (by omega)
      clear h hd he
      go_enter Try.func38, Try.ntmps38
      go_wp2
      go_ret2
      exact ⟨rfl, rfl⟩
set_option maxRecDepth 100000 in
theorem RefOf_good {w : World} {base : Nat} {v : Value} (l : List ByteArray) (h : w.ownsRow base 9 1 v l.length (strs l)) (he : ofErr l = 0) : Calls Try.prog 38 #[v] w fun e w' => ∃ g, e = .returned (.tuple #[.pointer (some ⟨g, 0, none⟩), .int .i64 0]) ∧ Below w.heap.size w w' := by
  have hu39 := Try.underlying39
  obtain ⟨A, c, rfl, hm⟩ := own_slice h
  unfold ofErr at he
  by_cases hd : 64 ≤ l.length ∧ l.length ≤ 2048
  case neg => rw [if_neg hd] at he; exact absurd he (by decide)
  rw [if_pos hd] at he
  by_cases ha : l.all (fun b => b.size == 256) = true
  case neg => rw [if_neg ha] at he; exact absurd he (by decide)
  have hd1 : decide ((l.length : Int) < 64) = false := decide_eq_false (by omega)
  have hd2 : decide (2048 < (l.length : Int)) = false := decide_eq_false (by omega)
  obtain ⟨bb, c2, cur, e, _⟩ := own_form h (by omega)
  injection e with e1 e2 e3
  subst e1 e3
  have HO := Aside0.mk h
  have HD := Aside0.mk hd
  have HA := Aside0.mk ha
  clear h hd he ha
  go_enter Try.func38, Try.ntmps38
  go_wp2
  go_loopg [16] l.length (fun kq v12 wr => ∃ (i : Nat), v12 = .int .i64 (i : Int) ∧ i ≤ l.length ∧ Aside0 (kq = l.length - i) ∧ wr = w)
  case atStart => exact ⟨0, rfl, Nat.zero_le _, ⟨rfl⟩, rfl⟩
  case round =>
    obtain ⟨i, rfl, hi, hkq, hw⟩ := hrel
    obtain rfl := hw.symm
    by_cases hil : i < l.length
    · have q := strs_cell HO.out (by have := HD.out; omega) i hil
      have hi0 : 0 ≤ (i : Int) := by omega
      have hiz : (i : Int) < (l.length : Int) := by omega
      have hx : (l.getD i ⟨#[]⟩).size = 256 := by
        have := List.all_eq_true.1 HA.out (l.getD i ⟨#[]⟩) (by rw [List.getD_eq_getElem?_getD, List.getElem?_eq_getElem hil]; exact List.getElem_mem hil)
        exact beq_iff_eq.1 this
      generalize l.getD i ⟨#[]⟩ = x at q hx
      have hxb : ((x.size : Int) != 256) = false := bne_eq_false_iff_eq.2 (by omega)
      clear hx
      go_wp2
      go_roundg (l.length - (i + 1))
      case measure => have := hkq.out; omega
      case rel => exact ⟨i + 1, by have := HD.out; first | rfl | (rw [wrap64_small (by omega) (by omega)]; rfl), by omega, ⟨rfl⟩, rfl⟩
    · obtain rfl : i = l.length := by omega
      clear hil hi
      go_wp2_with (first
        | ((with_reducible refine gate_dst (N := 27) rfl ?_); refine box_event ?hg (N := 27) ?hd (cs := #[.slice none 0 0, .slice none 0 0, .bool false, .int .i64 0, .bool false]) (t := 39) ?hr ?_; (case hd => rfl); (case hg => rfl); (case hr => first | (go_simp; done) | (go_simp; rfl)); intro g hg wb hbox hb; have BG := Aside0.mk hbox; have HB := Aside0.mk hb; have HGe : Aside0 (w.heap.size ≤ g) := ⟨Nat.le_of_eq hg.symm⟩; have z0 := (blk_cell hbox 0).trans rfl; have zf := blk_frozen hbox 0; clear hbox hb hg)
        | ((with_reducible refine gate_builtin (b := .append) (xs := #[.tmp 32, .tmp 33]) rfl ?_); at_builtin; refine Kd.R_append_row Value.string ⟨#[]⟩ (h1 := fun _ => rfl) (w0 := w) w.heap.size rfl (.tmp 32) (.tmp 33) 37 9 (.string ⟨#[]⟩) 16 rfl Try.underlying37 info9 rfl (by decide) (.slice none 0 0) ([] : List ByteArray) l (some ⟨bb, 0, none⟩) l.length c (fun _ => True) rfl rfl (fun _ _ => trivial) (Kd.R_nil _ _ _ _ _) ?aR HB.out HB.out.size ?aL ?_; (case aR => obtain ⟨A', c', e', _, hC'⟩ := strs_C (own_move HO.out (fun k hk => HB.out.block k (own_lt HO.out k hk))); injection e' with e1 e2 e3; subst e1; exact hC'); (case aL => have := HD.out; simp; omega); intro v1 w3 ho hb hg _; have HB3 := Aside0.mk hb; have BG3 := Aside0.mk ((hg.block g (blk_lt BG.out) (by simp [Value.ownBlock])).trans BG.out); obtain ⟨A3, c3, e3⟩ := Kd.R_slice ho; subst e3; have z3 := (blk_cell BG3.out 0).trans rfl; have z3f := blk_frozen BG3.out 0; clear ho hb hg))
      go_ret2
      exact ⟨⟨_, rfl⟩, nbelow_set HGe.out HB3.out⟩
def ofBlk (odd len : Int) (i : Nat) : ByteArray := if (i : Int) = odd then zeros len.toNat else zeros 256
def ofBlks (odd len : Int) (m : Nat) : List ByteArray := (List.range m).map (ofBlk odd len)
theorem ofBlks_length (odd len : Int) (m : Nat) : (ofBlks odd len m).length = m := by simp [ofBlks]
theorem ofBlks_succ (odd len : Int) (m : Nat) : strs (ofBlks odd len (m + 1)) = strs (ofBlks odd len m) ++ [.string (ofBlk odd len m)] := by simp [ofBlks, strs, List.range_succ]
set_option maxRecDepth 100000 in
set_option maxHeartbeats 4000000 in
theorem DiskOf_walk (n odd len : Int) (W : World) (hn : (Lit.int .i64 n).wf = true) (ho : (Lit.int .i64 odd).wf = true) (hlen : (Lit.int .i64 len).wf = true) : Calls Try.prog 9 #[.int .i64 n, .int .i64 odd, .int .i64 len] W fun e w' => e = .returned (.bool true) ∧ Below W.heap.size W w' := by
  by_cases hg : n < 0 ∨ 3000 < n ∨ len < 0 ∨ 1000 < len
  case pos =>
    by_cases h1 : n < 0
    · have b1 : decide (n < 0) = true := decide_eq_true h1
      clear hg h1 hn ho hlen
      go_enter Try.func9, Try.ntmps9
      go_wp2_with (go_at_call 26; refine (wakes_calls _).mono ?_; rintro e wa ⟨rfl, hb⟩; have HB0 := Aside0.mk hb; clear hb)
      go_ret
      exact ⟨rfl, HB0.out⟩
    have b1 : decide (n < 0) = false := decide_eq_false h1
    by_cases h2 : 3000 < n
    · have b2 : decide (3000 < n) = true := decide_eq_true h2
      clear hg h1 h2 hn ho hlen
      go_enter Try.func9, Try.ntmps9
      go_wp2_with (go_at_call 26; refine (wakes_calls _).mono ?_; rintro e wa ⟨rfl, hb⟩; have HB0 := Aside0.mk hb; clear hb)
      go_ret
      exact ⟨rfl, HB0.out⟩
    have b2 : decide (3000 < n) = false := decide_eq_false h2
    by_cases h3 : len < 0
    · have b3 : decide (len < 0) = true := decide_eq_true h3
      clear hg h1 h2 h3 hn ho hlen
      go_enter Try.func9, Try.ntmps9
      go_wp2_with (go_at_call 26; refine (wakes_calls _).mono ?_; rintro e wa ⟨rfl, hb⟩; have HB0 := Aside0.mk hb; clear hb)
      go_ret
      exact ⟨rfl, HB0.out⟩
    have b3 : decide (len < 0) = false := decide_eq_false h3
    have b4 : decide (1000 < len) = true := decide_eq_true (by omega)
    clear hg h1 h2 h3 hn ho hlen
    go_enter Try.func9, Try.ntmps9
    go_wp2_with (go_at_call 26; refine (wakes_calls _).mono ?_; rintro e wa ⟨rfl, hb⟩; have HB0 := Aside0.mk hb; clear hb)
    go_ret
    exact ⟨rfl, HB0.out⟩
  have b1 : decide (n < 0) = false := decide_eq_false (by omega)
  have b2 : decide (3000 < n) = false := decide_eq_false (by omega)
  have b3 : decide (len < 0) = false := decide_eq_false (by omega)
  have b4 : decide (1000 < len) = false := decide_eq_false (by omega)
  obtain ⟨m, rfl⟩ : ∃ m : Nat, n = (m : Int) := ⟨n.toNat, by omega⟩
  obtain ⟨len, rfl⟩ : ∃ k : Nat, len = (k : Int) := ⟨len.toNat, by omega⟩
  have HM : Aside0 (m ≤ 3000) := ⟨by omega⟩
  have HLe : Aside0 (len ≤ 1000) := ⟨by omega⟩
  clear hg hn ho hlen
  go_enter Try.func9, Try.ntmps9
  go_wp2_with (go_at_call 26; refine (wakes_calls _).mono ?_; rintro e wa ⟨rfl, hb⟩; have HB0 := Aside0.mk hb; clear hb)
  go_loopg [7, 8] m (fun kq v7 v8 wr => ∃ (i : Nat), v8 = .int .i64 (i : Int) ∧ i ≤ m ∧ Aside0 (kq = m - i) ∧ Aside0 (wr.ownsRow W.heap.size 9 1 v7 i (strs (ofBlks odd len i))) ∧ Aside0 (Below W.heap.size W wr))
  case atStart => exact ⟨0, rfl, Nat.zero_le _, ⟨rfl⟩, ⟨own_none _ _ _⟩, HB0⟩
  case round =>
    clear HB0
    obtain ⟨i, rfl, hi, hkq, HO, HB⟩ := hrel
    obtain ⟨A7, c7, rfl, _⟩ := own_slice HO.out
    by_cases hil : i < m
    · have hi0 : 0 ≤ (i : Int) := by omega
      have hiz : (i : Int) < (m : Int) := by omega
      have HI : Aside0 (i < 3000) := ⟨by have := HM.out; omega⟩
      have es := ofBlks_succ odd len i
      by_cases hod : (i : Int) = odd
      · have bo : ((i : Int) == odd) = true := beq_iff_eq.2 hod
        have eo : ofBlk odd len i = zeros len := by unfold ofBlk; rw [if_pos hod]; rfl
        rw [eo] at es
        clear hod
        go_wp2_with (first
          | (go_at_call 37; refine (Zeros_calls len (by have := HLe.out; omega) _).mono ?_; rintro e wk ⟨rfl, hb⟩; have HO2 := Aside0.mk ((Moved.of_below hb (fun _ => False)).own HO.out (fun _ _ h => h)); have HB2 := Aside0.mk (below_step HB.out hb); clear hb)
          | ((with_reducible refine gate_builtin (b := .append) (xs := #[.tmp 37, .tmp 40]) rfl ?_); at_builtin; refine print_append_cells (w0 := W) W.heap.size rfl (.tmp 37) (.tmp 40) 37 9 (.string ⟨#[]⟩) 1 16 rfl Try.underlying37 info9 rfl (by decide) (by decide) (.slice A7 i c7) i (strs (ofBlks odd len i)) [.string (zeros len)] rfl rfl rfl (by intro u hu; simp at hu; subst hu; rfl) HO2.out HB2.out (below_size HB2.out) (by have := HI.out; omega) ?_; intro v1 w3 ho hb _ _; have HO3 := Aside0.mk ho; have HB3 := Aside0.mk hb; clear ho hb))
        go_roundg (m - (i + 1))
        case measure => have := hkq.out; have := HI.out; omega
        case rel => exact ⟨i + 1, by have := HI.out; first | rfl | (rw [wrap64_small (by omega) (by omega)]; rfl), by omega, ⟨rfl⟩, ⟨by rw [es]; exact HO3.out⟩, HB3⟩
      · have bo : ((i : Int) == odd) = false := beq_eq_false_iff_ne.2 hod
        have eo : ofBlk odd len i = zeros 256 := by unfold ofBlk; rw [if_neg hod]
        rw [eo] at es
        clear hod
        go_wp2_with (first
          | (go_at_call 37; refine (Zeros_calls 256 (by decide) _).mono ?_; rintro e wk ⟨rfl, hb⟩; have HO2 := Aside0.mk ((Moved.of_below hb (fun _ => False)).own HO.out (fun _ _ h => h)); have HB2 := Aside0.mk (below_step HB.out hb); clear hb)
          | ((with_reducible refine gate_builtin (b := .append) (xs := #[.tmp 42, .tmp 44]) rfl ?_); at_builtin; refine print_append_cells (w0 := W) W.heap.size rfl (.tmp 42) (.tmp 44) 37 9 (.string ⟨#[]⟩) 1 16 rfl Try.underlying37 info9 rfl (by decide) (by decide) (.slice A7 i c7) i (strs (ofBlks odd len i)) [.string (zeros 256)] rfl rfl rfl (by intro u hu; simp at hu; subst hu; rfl) HO2.out HB2.out (below_size HB2.out) (by have := HI.out; omega) ?_; intro v1 w3 ho hb _ _; have HO3 := Aside0.mk ho; have HB3 := Aside0.mk hb; clear ho hb))
        go_roundg (m - (i + 1))
        case measure => have := hkq.out; have := HI.out; omega
        case rel => exact ⟨i + 1, by have := HI.out; first | rfl | (rw [wrap64_small (by omega) (by omega)]; rfl), by omega, ⟨rfl⟩, ⟨by rw [es]; exact HO3.out⟩, HB3⟩
    · obtain rfl : i = m := by omega
      clear hil hi hkq
      generalize hbl : ofBlks odd len i = bl at HO
      have hbn : bl.length = i := by rw [← hbl]; exact ofBlks_length _ _ _
      have HOl : Aside0 (wr.ownsRow W.heap.size 9 1 (.slice A7 i c7) bl.length (strs bl)) := ⟨by rw [hbn]; exact HO.out⟩
      have HBn : Aside0 (bl.length ≤ 3000) := ⟨by rw [hbn]; exact HM.out⟩
      clear hbl hbn HO
      by_cases he : ofErr bl = 0
      · have C1 := Aside0.mk he
        clear he
        go_wp2_with (first
          | (go_at_call 35; refine (Of_good bl HOl.out C1.out).mono ?_; rintro e wd ⟨g, vb, rfl, hd, hb⟩; have S1 : Aside0 (St W wd g vb (.slice none 0 0) ⟨bl, [], 0, false, false⟩) := ⟨⟨hd.lower HB.out.size, below_step HB.out hb⟩⟩; have HO1 := Aside0.mk ((Moved.of_below hb (fun _ => False)).own HOl.out (fun _ _ h => h)); clear hd hb)
          | (go_at_call 38; refine (RefOf_good bl HO1.out C1.out).mono ?_; rintro e we ⟨g2, rfl, hb⟩; have S2 := Aside0.mk (S1.out.below hb); have HO2 := Aside0.mk ((Moved.of_below hb (fun _ => False)).own HO1.out (fun _ _ h => h)); clear hb)
          | (go_at_call 24; refine (Image_calls S2.out.1 (by have := HBn.out; show bl.length * 16 ≤ _; omega)).mono ?_; rintro e wi ⟨v2, rfl, ho, hb⟩; have HI1 := Aside0.mk ho; have S3 := Aside0.mk (S2.out.below hb); have HO3 := Aside0.mk ((Moved.of_below hb (fun _ => False)).own HO2.out (fun _ _ h => h)); clear ho hb)
          | (go_at_call 23; refine (Same_true HI1.out HO3.out (by have := HBn.out; show bl.length ≤ _; omega)).mono ?_; rintro e ws ⟨rfl, hb⟩; have S4 := Aside0.mk (S3.out.below hb); clear hb)
          | (go_at_call 19; refine (Log_calls S4.out.1 (by show ([] : List Pg).length * 24 ≤ _; simp)).mono ?_; rintro e wl ⟨v3, rfl, ho, hb⟩; obtain ⟨A3, c3, rfl, _⟩ := own_slice ho; have S5 := Aside0.mk (S4.out.below hb); clear ho hb))
        go_ret
        exact ⟨by first | rfl | simp, S5.out.2⟩
      · have C1 := Aside0.mk he
        clear he
        go_wp2_with (first
          | (go_at_call 35; refine (Of_bad bl HOl.out C1.out).mono ?_; rintro e wd ⟨rfl, hw⟩; obtain rfl := hw.symm)
          | (go_at_call 38; refine (RefOf_bad bl HOl.out (by have := HBn.out; omega) C1.out).mono ?_; rintro e we ⟨rfl, hw⟩; obtain rfl := hw.symm))
        go_ret
        exact ⟨by first | rfl | simp, HB.out⟩
end Go.Proofs.Ytgageigcjeaenaa.Disk
