/- Disks: contracts and laws, walked by hand. No condition beside those that each theorem names. -/
import Derived.Test.YtgageigcjeaenaaJrn6
import Derived.RangeFuncNested
namespace Go.Proofs.Ytgageigcjeaenaa.Disk
open Go.RowKit Go.Proofs.YtgageigcjeaenaaW.PrintWords Go.Proofs.YtgageigcjeaenaaW.PrintLast Go.Proofs.YtgageigcjeaenaaW.PrintMore Go.Proofs.Ytgageigcjeaenaa.MixBase Go.Proofs.Ytgageigcjeaenaa.MixPlain Go.Proofs.Ytgageigcjeaenaa.NumBase Go.Proofs.Ytgageigcjeaenaa.PadPlain
attribute [local go_sem] max2_int min2_int max_two min_two max_three min_three max_four min_four
set_option linter.unusedVariables false
set_option linter.unusedSimpArgs false
theorem getsW : QJour.num_Get.f 1000 (zeros 256) 4 2 = some (0, 0) := by kernel_rfl
theorem prefW : QJour.strings_HasPrefix.f (zeros 256) ⟨#[106, 114, 110, 108]⟩ = some false := by kernel_rfl
/-- The disk once its first group is written. -/
def dW (t tp : ByteArray) : Dk := putAll (newD 64) (allW 3 lW [t] tp)
theorem allW_l (t tp : ByteArray) : allW 3 lW [t] tp = [⟨3, blockS ⟨#[120]⟩⟩, ⟨4, blockS ⟨#[121]⟩⟩, ⟨2, t⟩, ⟨1, tp⟩, ⟨34, blockS ⟨#[120]⟩⟩, ⟨0, blockS ⟨#[121]⟩⟩, ⟨1, zeros 256⟩] := rfl
theorem mayW : mayS 31 (pgF 34 31) lW = 0 := by
  have h1 : (blockS ⟨#[120]⟩).size = 256 := blockS_size _
  have h2 : (blockS ⟨#[121]⟩).size = 256 := blockS_size _
  have p1 : pgF 34 31 34 = true := by kernel_rfl
  have p2 : pgF 34 31 0 = true := by kernel_rfl
  unfold mayS lW
  generalize blockS ⟨#[120]⟩ = x at h1 ⊢
  generalize blockS ⟨#[121]⟩ = y at h2 ⊢
  unfold mayL mayL mayL
  rw [if_neg (show ¬ ((([(⟨34, x⟩ : QJour.S62), ⟨0, y⟩].length : Nat) : Int) > 31) from by show ¬ ((2 : Int) > 31); decide), if_pos p1, if_pos h1, if_neg (by simp), if_pos p2, if_pos h2, if_neg (by simp)]
theorem commitW (t tp : ByteArray) (ht : t.size = 256) (htp : tp.size = 256) : commitD 31 (pgF 34 31) 3 lW [t] tp (newD 64) = (dW t tp, 0) := by
  unfold commitD
  rw [mayW, if_neg (by decide)]
  refine doW_ok _ _ rfl rfl ?_
  intro p hp
  rw [allW_l] at hp
  have hb := blockS_size ⟨#[120]⟩
  have hc := blockS_size ⟨#[121]⟩
  have hz := zeros_size 256
  have hl : ((newD 64).blocks.length : Int) = 64 := by rw [wk_len]; rfl
  rw [hl]
  generalize blockS ⟨#[120]⟩ = x at hb hp
  generalize blockS ⟨#[121]⟩ = y at hc hp
  generalize zeros 256 = z at hz hp
  simp only [List.mem_cons, List.mem_nil_iff, or_false] at hp
  rcases hp with rfl | rfl | rfl | rfl | rfl | rfl | rfl
  · exact ⟨show (0 : Int) ≤ 3 by decide, show (3 : Int) < 64 by decide, hb⟩
  · exact ⟨show (0 : Int) ≤ 4 by decide, show (4 : Int) < 64 by decide, hc⟩
  · exact ⟨show (0 : Int) ≤ 2 by decide, show (2 : Int) < 64 by decide, ht⟩
  · exact ⟨show (0 : Int) ≤ 1 by decide, show (1 : Int) < 64 by decide, htp⟩
  · exact ⟨show (0 : Int) ≤ 34 by decide, show (34 : Int) < 64 by decide, hb⟩
  · exact ⟨show (0 : Int) ≤ 0 by decide, show (0 : Int) < 64 by decide, hc⟩
  · exact ⟨show (0 : Int) ≤ 1 by decide, show (1 : Int) < 64 by decide, hz⟩
theorem dW_len (t tp : ByteArray) : (dW t tp).blocks.length = 64 := by
  unfold dW putAll
  rw [allW_l]
  simp only [List.foldl_cons, List.foldl_nil, putD, List.length_set]
  exact wk_len 64
theorem dW_log (t tp : ByteArray) : (dW t tp).log.length = 7 := rfl
theorem dW_may (t tp : ByteArray) (a : Int) (h0 : 0 ≤ a) (h1 : a < 64) : mayD (dW t tp) a = 0 := by
  unfold mayD
  rw [dW_len, if_neg (by simp [dW, putAll, putD, allW_l, newD]), if_neg (by omega)]
theorem dW_34 (t tp : ByteArray) : readD (dW t tp) 34 = (blockS ⟨#[120]⟩, 0) := by
  unfold readD
  rw [if_pos (dW_may t tp 34 (by decide) (by decide))]
  refine Prod.ext ?_ rfl
  show (dW t tp).blocks.getD 34 ⟨#[]⟩ = _
  unfold dW putAll
  rw [allW_l]
  simp only [List.foldl_cons, List.foldl_nil, putD]
  simp [List.getElem?_set, newD, List.getD_eq_getElem?_getD]
theorem dW_1 (t tp : ByteArray) : readD (dW t tp) 1 = (zeros 256, 0) := by
  unfold readD
  rw [if_pos (dW_may t tp 1 (by decide) (by decide))]
  refine Prod.ext ?_ rfl
  show (dW t tp).blocks.getD 1 ⟨#[]⟩ = _
  unfold dW putAll
  rw [allW_l]
  simp only [List.foldl_cons, List.foldl_nil, putD]
  simp [List.getElem?_set, newD, List.getD_eq_getElem?_getD]
set_option maxRecDepth 100000 in
set_option maxHeartbeats 2000000 in
theorem jwakes_calls (W : World) : Calls Try.prog 12 #[] W fun e w' => e = .returned (.bool true) ∧ Below W.heap.size W w' := by
  obtain ⟨t, hls, ht⟩ := lsW
  obtain ⟨tp, htp, htp2⟩ := tpW
  have HLS := Aside0.mk hls
  have HTP := Aside0.mk htp
  have HCW := Aside0.mk (commitW t tp ht htp2)
  have hu62 := Try.underlying62
  clear hls ht htp htp2
  go_enter Try.func12, Try.ntmps12
  go_wp2_with (first
    | (go_at_call 27; refine (New_st 64 (by decide) (by decide) (Below.refl W.heap.size W)).mono ?_; rintro e w1 ⟨g, vb, rfl, hs, _, hb⟩; have S1 := Aside0.mk hs; have HB1 := Aside0.mk hb; clear hs hb)
    | (go_at_call 39; refine (QJour.journal_Pages.calls 1000 64 31 _ pW).mono ?_; rintro e w' ⟨rfl, ⟨nd, rfl⟩⟩)
    | (go_at_call 40; refine (QJour.journal_First.calls 1000 64 34 _ fW).mono ?_; rintro e w' ⟨rfl, ⟨nd2, rfl⟩⟩)
    | (go_at_call 43; have q0 := S1; refine (QJour.aumbrylaw10_block.calls _ _ _ bxW).mono ?_; rintro e w2 ⟨rfl, hb⟩; have S2 := Aside0.mk (S1.out.below (below_step (pw_below_drewN (Below.refl _ _) _) hb)); clear q0 S1 hb)
    | (go_at_call 43; have q0 := S2; refine (QJour.aumbrylaw10_block.calls _ _ _ byW).mono ?_; rintro e w3 ⟨rfl, hb⟩; have S3 := Aside0.mk (S2.out.below hb); clear q0 S2 hb))
  obtain ⟨w4, hw4⟩ : ∃ w4, w3.alloc (.cells #[.int .i64 34, .string (blockS ⟨#[120]⟩), .int .i64 0, .string (blockS ⟨#[121]⟩)] 62) = w4 := ⟨_, rfl⟩
  have hb4 : Below w3.heap.size w3 w4 := by rw [← hw4]; exact (Below.refl _ w3).alloc (Nat.le_refl _) _
  have hc4 : w4.heap[w3.heap.size]? = some (.cells #[.int .i64 34, .string (blockS ⟨#[120]⟩), .int .i64 0, .string (blockS ⟨#[121]⟩)] 62 (0, 0)) := by rw [← hw4]; exact World.alloc_heap_new w3 _
  rw [hw4]
  have S4 : St W w4 g vb (.slice none 0 0) (newD 64) := S3.out.below hb4
  have hN : ((newD 64).blocks.length : Int) = 64 := by rw [wk_len]; rfl
  have hro : OffRow g w4 (some ⟨w3.heap.size, 0, none⟩) := by
    rintro ad e
    injection e with e
    subst e
    exact ⟨fun hf => by have := (S3.out.foot ((S4.1.footOf _).1 hf)).2; exact absurd this (Nat.lt_irrefl _), blk_lt hc4⟩
  have hK := Commit_calls (k := 1000) (m := 31) (cp := 3) (pg := pgF 34 31) (lst := [t]) (tp := tp) (l := lW) (A := some ⟨w3.heap.size, 0, none⟩) (c := 2) S4 (row2_C hc4) (by decide) hro (by decide) (by rw [hN]; exact pW) (fun a => by rw [hN]; exact page_f fW pW a) (fun a => pgF_wf (by decide) a) zW (by rw [hN]; exact cW) (by decide) (by decide)
    (fun _ _ => ⟨HLS.out, by simp, HTP.out, by decide, by rw [allW_l]; show (0 + 7) * 24 ≤ _; decide⟩)
  refine hK.mono ?_
  rintro e w5 ⟨vl', rfl, s1, s2, s3⟩
  rw [HCW.out] at s1 ⊢
  have S5 := Aside0.mk s1
  clear hK hro hN S4 hc4 hb4 hw4 s1 s2 s3 S3 HB1 HLS HTP HCW
  go_wp2_with (first
    | (go_at_call 33; refine (Read_calls 34 S5.out.1).mono ?_; rintro e w' ⟨rfl, hw⟩; obtain rfl := hw.symm; rw [dW_34])
    | (go_at_call 16; have q0 := S5; refine (Recover_none (k := 1000) S5.out (dW_1 t tp) getsW prefW).mono ?_; rintro e w6 ⟨rfl, hb⟩; have S6 := Aside0.mk (S5.out.below hb); clear q0 S5 hb)
    | (go_at_call 43; have q0 := S6; refine (QJour.aumbrylaw10_block.calls _ _ _ bxW).mono ?_; rintro e w7 ⟨rfl, hb⟩; have S7 := Aside0.mk (S6.out.below hb); clear q0 S6 hb)
    | (go_at_call 19; have q0 := S7; refine (Log_calls S7.out.1 (by rw [dW_log]; decide)).mono ?_; rintro e w8 ⟨v3, rfl, ho, hb⟩; rw [dW_log] at ho; obtain ⟨A3, c3, rfl, _⟩ := own_slice ho; have S8 := Aside0.mk (S7.out.below hb); clear q0 S7 hb ho))
  go_ret
  exact ⟨rfl, S8.out.2⟩
end Go.Proofs.Ytgageigcjeaenaa.Disk
