/- Disks: contracts and laws, walked by hand. No condition beside those that each theorem names. -/
import Derived.Test.YtgageigcjeaenaaDisk7
namespace Go.Proofs.Ytgageigcjeaenaa.Disk
open Go.RowKit Go.Proofs.YtgageigcjeaenaaW.PrintWords Go.Proofs.YtgageigcjeaenaaW.PrintLast Go.Proofs.YtgageigcjeaenaaW.PrintMore Go.Proofs.Ytgageigcjeaenaa.MixBase Go.Proofs.Ytgageigcjeaenaa.MixPlain Go.Proofs.Ytgageigcjeaenaa.NumBase Go.Proofs.Ytgageigcjeaenaa.PadPlain
attribute [local go_sem] max2_int min2_int max_two min_two max_three min_three max_four min_four
set_option linter.unusedVariables false
set_option linter.unusedSimpArgs false
theorem cellB {w w' : World} (hb : Below w.heap.size w w') {a : Addr} {v : Value} (hc : w.cell? a = some v) : w'.cell? a = some v := by
  refine (hb.cell ?_).trans hc
  by_cases h : a.block < w.heap.size
  · exact h
  · have e : w.heap[a.block]? = none := Array.getElem?_eq_none (by omega)
    simp [World.cell?, e] at hc
theorem acts_below {W w : World} {A : Option Addr} {l : List Act3} (h : ActsAt W A l) (hb : Below W.heap.size W w) : ActsAt w A l := fun i e hi => by
  obtain ⟨ad, h0, h1, h2, h3⟩ := h i e hi
  exact ⟨ad, h0, cellB hb h1, cellB hb h2, cellB hb h3⟩
set_option maxRecDepth 100000 in
set_option maxHeartbeats 4000000 in
theorem DiskCuts_walk (n : Int) (hn0 : 0 ≤ n) (hn1 : n ≤ 255) (A : Option Addr) (c : Nat) (l : List Act3) (W : World) (hA : ActsAt W A l) (hc : l.length ≤ c) : Calls Try.prog 6 #[.int .u8 n, .slice A l.length c] W fun e w' => e = .returned (.bool true) ∧ Below W.heap.size W w' := by
  have hu53 := Try.underlying53
  have HA := Aside0.mk hA
  have HN0 := Aside0.mk hn0
  have HN1 := Aside0.mk hn1
  have en : IntKind.i64.wrap n = n := (i64_w _).trans (wrap64_small (by omega) (by omega))
  have ew : wrap64 n = n := wrap64_small (by omega) (by omega)
  by_cases h2 : 2000 < l.length
  case pos =>
    have b2 : decide (2000 < (l.length : Int)) = true := decide_eq_true (by omega)
    clear hA h2 hc hn0 hn1
    go_enter Try.func6, Try.ntmps6
    go_wp2_with (go_at_call 26; refine (wakes_calls _).mono ?_; rintro e wa ⟨rfl, hb⟩; have HB0 := Aside0.mk hb; clear hb)
    go_ret
    exact ⟨rfl, HB0.out⟩
  have b2 : decide (2000 < (l.length : Int)) = false := decide_eq_false (by omega)
  have HL := Aside0.mk h2
  clear hA h2 hn0 hn1
  go_enter Try.func6, Try.ntmps6
  go_wp2_with (first
    | (go_at_call 26; refine (wakes_calls _).mono ?_; rintro e wa ⟨rfl, hb⟩; have HB0 := Aside0.mk hb; clear hb)
    | (go_at_call 27; refine (New_st 64 (by decide) (by decide) HB0.out).mono ?_; rintro e wn ⟨g, vb, rfl, hs, _, _⟩; have S1 := Aside0.mk hs; clear hs)
    | (go_at_call 14; refine (Cut_st n S1.out).mono ?_; rintro e wc ⟨rfl, hs, _⟩; have S2 := Aside0.mk hs; clear hs))
  go_loopg [27] l.length (fun kq v27 wr => ∃ (i : Nat) (vl : Value) (d : Dk), v27 = .int .i64 (i : Int) ∧ i ≤ l.length ∧ Aside0 (kq = l.length - i) ∧ Aside0 (St W wr g vb vl d) ∧ Aside0 (CI n d))
  case atStart => exact ⟨0, _, _, rfl, Nat.zero_le _, ⟨rfl⟩, S2, ⟨CI_new n HN0.out⟩⟩
  case round =>
    clear S1 S2
    obtain ⟨i, vl, d, rfl, hi, hkq, S, HC⟩ := hrel
    by_cases hil : i < l.length
    · obtain ⟨e0, he⟩ : ∃ e, l[i]? = some e := ⟨_, List.getElem?_eq_getElem hil⟩
      obtain ⟨ad, hAd, q0, q1, q2⟩ := HA.out i e0 he
      subst hAd
      have Q1 := Aside0.mk q1
      have Q2 := Aside0.mk q2
      have hi0 : 0 ≤ (i : Int) := by omega
      have hiz : (i : Int) < (l.length : Int) := by omega
      have hlog : (d.log.length + 1) * 24 ≤ 140737488355328 := by have := HC.out.2.2.1; have := HC.out.2.2.2.1; have := HN1.out; omega
      have HLg := Aside0.mk hlog
      clear q0 q1 q2 he hlog
      go_wp2
      go_region_held3 (fun w' => w'.cell? ⟨(ad.add (i * 3)).block, (ad.add (i * 3)).off + 1, none⟩ = some (.int .i64 e0.at_) ∧ w'.cell? ⟨(ad.add (i * 3)).block, (ad.add (i * 3)).off + 2, none⟩ = some (.string e0.text)) (first | exact ⟨cellB (below_drew1 S.out.2) Q1.out, cellB (below_drew1 S.out.2) Q2.out⟩ | exact ⟨cellB S6.out.2 Q1.out, cellB S6.out.2 Q2.out⟩ | exact ⟨cellB S7.out.2 Q1.out, cellB S7.out.2 Q2.out⟩) (first
        | (go_at_call 31; refine (block_calls _ _).mono ?_; rintro e wk ⟨rfl, hb⟩; have S6 := Aside0.mk ((S.out.below (below_drew1 (Below.refl _ _))).below hb); clear hb)
        | (go_at_call 30; refine (Write_st e0.at_ (blockS e0.text) S6.out HLg.out).mono ?_; rintro e wv ⟨vl2, rfl, hs, _, _⟩; have S7 := Aside0.mk hs; clear hs))
      go_wp2
      go_roundg (l.length - (i + 1))
      case measure => have := hkq.out; omega
      case rel => exact ⟨i + 1, vl2, _, by have := HL.out; rw [wrap64_small (by omega) (by omega)]; rfl, by omega, ⟨rfl⟩, S7, ⟨CI_step HC.out (by have := HN1.out; omega) _ _⟩⟩
    · obtain rfl : i = l.length := by omega
      clear hil hi
      obtain ⟨i1, i2, i3, i4, i5⟩ := HC.out
      have hlog : (d.log.length + 1) * 24 ≤ 140737488355328 := by have := HN1.out; omega
      have hlog2 : d.log.length * 24 ≤ 140737488355328 := by omega
      have hblk : d.blocks.length * 16 ≤ 140737488355328 := by rw [i2]; decide
      have bgt : decide (n < (d.log.length : Int)) = false := decide_eq_false (by omega)
      have bgt2 : decide ((d.log.length : Int) > n) = false := decide_eq_false (by omega)
      have hwl : wrap64 ((d.log.length : Int) + 1) = ((d.log.length + 1 : Nat) : Int) := by have := HN1.out; rw [wrap64_small (by omega) (by omega)]; rfl
      have hwl2 : IntKind.i64.wrap ((d.log.length : Int) + 1) = ((d.log.length + 1 : Nat) : Int) := (i64_w _).trans hwl
      have HLg := Aside0.mk hlog
      have HLg2 := Aside0.mk hlog2
      have HBk := Aside0.mk hblk
      have wr0 := write_restored HC.out (blockS ⟨#[113]⟩) (blockS_size _)
      have hll : (putD (restoreD d) 0 (blockS ⟨#[113]⟩)).log.length = d.log.length + 1 := by
        show (d.log ++ [_]).length = _
        rw [List.length_append, List.length_singleton]
      have HLL := Aside0.mk hll
      have HB64 := Aside0.mk i2
      have hdn : (restoreD d).down = false := rfl
      generalize hdq : putD (restoreD d) 0 (blockS ⟨#[113]⟩) = dq at wr0 HLL
      clear hlog hlog2 hblk hll i3 i4 hdq
      cases hd : d.down with
      | true =>
        have bne : ((d.log.length : Int) != n) = false := bne_eq_false_iff_eq.2 (by have := i5 hd; have := HC.out.2.2.1; omega)
        clear i1 i2 i5
        go_wp2_with (first
          | (go_at_call 19; first
              | (refine (Log_calls S12.out.1 (by rw [HLL.out]; exact HLg.out)).mono ?_; rintro e wq ⟨v5, rfl, ho, hb⟩; rw [HLL.out] at ho; obtain ⟨A5, c5, rfl, _⟩ := own_slice ho; have S13 := Aside0.mk (S12.out.below hb); clear ho hb)
              | (refine (Log_calls S.out.1 HLg2.out).mono ?_; rintro e wl ⟨v1, rfl, ho, hb⟩; obtain ⟨A1, c1, rfl, _⟩ := own_slice ho; have S8 := Aside0.mk (S.out.below hb); clear ho hb))
          | (go_at_call 24; first
              | (refine (Image_calls S10.out.1 HBk.out).mono ?_; rintro e wj ⟨v3, rfl, ho, hb⟩; have HI2 := Aside0.mk ho; have HI1c := Aside0.mk ((Moved.of_below hb (fun _ => False)).own HI1b.out (fun _ _ h => h)); have S11 := Aside0.mk (S10.out.below hb); clear ho hb)
              | (refine (Image_calls S8.out.1 HBk.out).mono ?_; rintro e wi ⟨v2, rfl, ho, hb⟩; have HI1 := Aside0.mk ho; have S9 := Aside0.mk (S8.out.below hb); clear ho hb))
          | (go_at_call 25; first
              | (refine (Down_calls S10.out.1).mono ?_; rintro e wb ⟨rfl, hw⟩; obtain rfl := hw.symm; rw [hdn])
              | (refine (Down_calls S9.out.1).mono ?_; rintro e wb ⟨rfl, hw⟩; obtain rfl := hw.symm; rw [hd]))
          | (go_at_call 32; refine (Restore_st S9.out).mono ?_; rintro e wo ⟨rfl, hs, hm⟩; have S10 := Aside0.mk hs; have HI1b := Aside0.mk (hm.own HI1.out (fun k hk hf => by have := own_base HI1.out k hk; have := (S8.out.foot hf).2; omega)); clear hs hm)
          | (go_at_call 23; refine (Same_true HI2.out HI1c.out (by rw [show (restoreD d).blocks = d.blocks from rfl, HB64.out]; decide)).mono ?_; rintro e ws ⟨rfl, hb⟩; have S11b := Aside0.mk (S11.out.below hb); clear hb)
          | (go_at_call 31; refine (block_calls _ _).mono ?_; rintro e wk ⟨rfl, hb⟩; have S11c := Aside0.mk (S11b.out.below hb); clear hb)
          | (go_at_call 30; refine (Write_st 0 (blockS ⟨#[113]⟩) S11c.out HLg.out).mono ?_; rintro e wv ⟨vl2, rfl, hs, _, _⟩; rw [wr0] at hs ⊢; have S12 := Aside0.mk hs; clear hs))
        go_ret
        exact ⟨by first | rfl | simp, S13.out.2⟩
      | false =>
        clear i1 i2 i5
        go_wp2_with (first
          | (go_at_call 19; first
              | (refine (Log_calls S12.out.1 (by rw [HLL.out]; exact HLg.out)).mono ?_; rintro e wq ⟨v5, rfl, ho, hb⟩; rw [HLL.out] at ho; obtain ⟨A5, c5, rfl, _⟩ := own_slice ho; have S13 := Aside0.mk (S12.out.below hb); clear ho hb)
              | (refine (Log_calls S.out.1 HLg2.out).mono ?_; rintro e wl ⟨v1, rfl, ho, hb⟩; obtain ⟨A1, c1, rfl, _⟩ := own_slice ho; have S8 := Aside0.mk (S.out.below hb); clear ho hb))
          | (go_at_call 24; first
              | (refine (Image_calls S10.out.1 HBk.out).mono ?_; rintro e wj ⟨v3, rfl, ho, hb⟩; have HI2 := Aside0.mk ho; have HI1c := Aside0.mk ((Moved.of_below hb (fun _ => False)).own HI1b.out (fun _ _ h => h)); have S11 := Aside0.mk (S10.out.below hb); clear ho hb)
              | (refine (Image_calls S8.out.1 HBk.out).mono ?_; rintro e wi ⟨v2, rfl, ho, hb⟩; have HI1 := Aside0.mk ho; have S9 := Aside0.mk (S8.out.below hb); clear ho hb))
          | (go_at_call 25; first
              | (refine (Down_calls S10.out.1).mono ?_; rintro e wb ⟨rfl, hw⟩; obtain rfl := hw.symm; rw [hdn])
              | (refine (Down_calls S9.out.1).mono ?_; rintro e wb ⟨rfl, hw⟩; obtain rfl := hw.symm; rw [hd]))
          | (go_at_call 32; refine (Restore_st S9.out).mono ?_; rintro e wo ⟨rfl, hs, hm⟩; have S10 := Aside0.mk hs; have HI1b := Aside0.mk (hm.own HI1.out (fun k hk hf => by have := own_base HI1.out k hk; have := (S8.out.foot hf).2; omega)); clear hs hm)
          | (go_at_call 23; refine (Same_true HI2.out HI1c.out (by rw [show (restoreD d).blocks = d.blocks from rfl, HB64.out]; decide)).mono ?_; rintro e ws ⟨rfl, hb⟩; have S11b := Aside0.mk (S11.out.below hb); clear hb)
          | (go_at_call 31; refine (block_calls _ _).mono ?_; rintro e wk ⟨rfl, hb⟩; have S11c := Aside0.mk (S11b.out.below hb); clear hb)
          | (go_at_call 30; refine (Write_st 0 (blockS ⟨#[113]⟩) S11c.out HLg.out).mono ?_; rintro e wv ⟨vl2, rfl, hs, _, _⟩; rw [wr0] at hs ⊢; have S12 := Aside0.mk hs; clear hs))
        go_ret
        exact ⟨by first | rfl | simp, S13.out.2⟩
end Go.Proofs.Ytgageigcjeaenaa.Disk
