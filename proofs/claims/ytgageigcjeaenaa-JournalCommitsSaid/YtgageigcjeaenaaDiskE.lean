/- Disks: contracts and laws, walked by hand. No condition beside those that each theorem names. -/
import Derived.Test.YtgageigcjeaenaaDiskD
namespace Go.Proofs.Ytgageigcjeaenaa.Disk
open Go.RowKit Go.Proofs.YtgageigcjeaenaaW.PrintWords Go.Proofs.YtgageigcjeaenaaW.PrintLast Go.Proofs.YtgageigcjeaenaaW.PrintMore Go.Proofs.Ytgageigcjeaenaa.MixBase Go.Proofs.Ytgageigcjeaenaa.MixPlain Go.Proofs.Ytgageigcjeaenaa.NumBase Go.Proofs.Ytgageigcjeaenaa.PadPlain
attribute [local go_sem] max2_int min2_int max_two min_two max_three min_three max_four min_four
set_option linter.unusedVariables false
set_option linter.unusedSimpArgs false
/-- What an act on both leaves: the same answers, both disks told alike. -/
def DoesOk (W w' : World) (g : Nat) (vb : Value) (h : Nat) (ub : Value) (d : Dk) (e : Ending) : Prop := e = .returned (.bool true) ∧ ∃ vl' ul' d', Two W w' g vb vl' h ub ul' d' ∧ d'.log.length ≤ d.log.length + 1 ∧ d'.blocks.length = d.blocks.length
theorem write_len (d : Dk) (a : Int) (s : ByteArray) : (writeD d a s).1.log.length ≤ d.log.length + 1 ∧ (writeD d a s).1.blocks.length = d.blocks.length := by
  unfold writeD
  split
  · split
    · split
      · exact ⟨Nat.le_succ _, rfl⟩
      · refine ⟨?_, ?_⟩
        · show (d.log ++ [_]).length ≤ _
          rw [List.length_append, List.length_singleton]
          exact Nat.le_refl _
        · show (d.blocks.set _ _).length = _
          rw [List.length_set]
    · exact ⟨Nat.le_succ _, rfl⟩
  · exact ⟨Nat.le_succ _, rfl⟩
set_option maxRecDepth 100000 in
set_option maxHeartbeats 8000000 in
theorem does_calls {W w : World} {g h : Nat} {vb vl ub ul : Value} {d : Dk} (e0 : Act3) (t : Two W w g vb vl h ub ul d) (hlog : (d.log.length + 1) * 24 ≤ 140737488355328) : Calls Try.prog 29 #[.pointer (some ⟨g, 0, none⟩), .pointer (some ⟨h, 0, none⟩), .agg #[.int .i64 e0.kind, .int .i64 e0.at_, .string e0.text]] w fun e w' => DoesOk W w' g vb h ub d e := by
  have hu53 := Try.underlying53
  have hu39 := Try.underlying39
  have HT := Aside0.mk t
  have HLg := Aside0.mk hlog
  obtain ⟨K, hK⟩ : ∃ K, kindS e0.kind 8 = K := ⟨_, rfl⟩
  clear t hlog
  by_cases k0 : K = 0
  · have hk0 : (K == 0) = true := beq_iff_eq.2 k0
    clear k0
    go_enter Try.func29, Try.ntmps29
    go_wp2_with (first
      | ((with_reducible refine gate_dst (N := 5) rfl ?_); refine box_event ?hg (N := 5) ?hd (cs := #[.int .i64 e0.kind, .int .i64 e0.at_, .string e0.text]) (t := 53) ?hr ?_; (case hd => rfl); (case hg => rfl); (case hr => first | (go_simp; done) | (go_simp; rfl)); intro b5 hb5 w1 hbox hb; have T1 := Aside0.mk (HT.out.below hb); have BX := Aside0.mk hbox; have HN1 : Aside0 (∀ k, Foot g vb vl k → k ≠ b5) := ⟨fun k hk => by have := (HT.out.1.foot hk).2; omega⟩; have HN2 : Aside0 (∀ k, Foot h ub ul k → k ≠ b5) := ⟨fun k hk => by have := (HT.out.2.1.foot hk).2; omega⟩; have z0 := (blk_cell hbox 0).trans rfl; clear hbox hb hb5)
      | (go_at_call 36; refine (kind_b e0.kind 8 (by decide) (by decide) _).mono ?_; rintro e w2 ⟨rfl, hb⟩; rw [hK]; have T2 := Aside0.mk (T1.out.below hb); have BX2 := Aside0.mk (blk_below BX.out hb); have z1 := (blk_cell BX2.out 1).trans rfl; have z2 := (blk_cell BX2.out 2).trans rfl; clear hb)
      | (go_at_call 33; refine (Read_calls e0.at_ T2.out.1.1).mono ?_; rintro e w3 ⟨rfl, hw⟩; obtain rfl := hw.symm)
      | (go_at_call 48; refine (RefRead_calls e0.at_ T2.out.2.1.1).mono ?_; rintro e w3 ⟨rfl, hw⟩; obtain rfl := hw.symm))
    go_ret
    exact ⟨by first | rfl | simp, vl, ul, d, T2.out, Nat.le_succ _, rfl⟩
  have hk0 : (K == 0) = false := beq_eq_false_iff_ne.2 k0
  by_cases k4 : K = 4
  · have hk4 : (K == 4) = true := beq_iff_eq.2 k4
    clear k0 k4
    go_enter Try.func29, Try.ntmps29
    go_wp2_with (first
      | ((with_reducible refine gate_dst (N := 5) rfl ?_); refine box_event ?hg (N := 5) ?hd (cs := #[.int .i64 e0.kind, .int .i64 e0.at_, .string e0.text]) (t := 53) ?hr ?_; (case hd => rfl); (case hg => rfl); (case hr => first | (go_simp; done) | (go_simp; rfl)); intro b5 hb5 w1 hbox hb; have T1 := Aside0.mk (HT.out.below hb); have BX := Aside0.mk hbox; have HN1 : Aside0 (∀ k, Foot g vb vl k → k ≠ b5) := ⟨fun k hk => by have := (HT.out.1.foot hk).2; omega⟩; have HN2 : Aside0 (∀ k, Foot h ub ul k → k ≠ b5) := ⟨fun k hk => by have := (HT.out.2.1.foot hk).2; omega⟩; have z0 := (blk_cell hbox 0).trans rfl; clear hbox hb hb5)
      | (go_at_call 36; refine (kind_b e0.kind 8 (by decide) (by decide) _).mono ?_; rintro e w2 ⟨rfl, hb⟩; rw [hK]; have T2 := Aside0.mk (T1.out.below hb); have BX2 := Aside0.mk (blk_below BX.out hb); have z1 := (blk_cell BX2.out 1).trans rfl; have z2 := (blk_cell BX2.out 2).trans rfl; clear hb))
    have T3 := Aside0.mk (T2.out.below (below_drew1 (Below.refl w2.heap.size w2)))
    have BX3 := Aside0.mk (blk_drew BX2.out)
    go_region_held3 (fun w' => w'.cell? ⟨b5, 1, none⟩ = some (.int .i64 e0.at_) ∧ w'.cell? ⟨b5, 2, none⟩ = some (.string e0.text)) (first | exact ⟨(blk_cell BX3.out 1).trans rfl, (blk_cell BX3.out 2).trans rfl⟩ | exact ⟨(blk_cell BX4.out 1).trans rfl, (blk_cell BX4.out 2).trans rfl⟩ | exact ⟨(blk_cell BX5.out 1).trans rfl, (blk_cell BX5.out 2).trans rfl⟩) (first
      | (go_at_call 30; refine (Write_two e0.at_ e0.text T3.out HLg.out).mono ?_; rintro e w4 ⟨vl2, rfl, hs, hm⟩; have T4 := Aside0.mk hs; have BX4 := Aside0.mk (hm.block BX3.out (fun hk => HN1.out b5 hk rfl)); clear hs hm)
      | (go_at_call 58; refine (RefWrite_half e0.at_ e0.text T4.out HLg.out).mono ?_; rintro e w5 ⟨ul2, rfl, hs, hm⟩; have T5 := Aside0.mk hs; have BX5 := Aside0.mk (hm.block BX4.out (fun hk => HN2.out b5 hk rfl)); clear hs hm))
    go_wp2
    go_ret
    exact ⟨by first | rfl | simp, vl2, ul2, _, T5.out, (write_len d e0.at_ e0.text).1, (write_len d e0.at_ e0.text).2⟩
  have hk4 : (K == 4) = false := beq_eq_false_iff_ne.2 k4
  by_cases k5 : K = 5
  · have hk5 : (K == 5) = true := beq_iff_eq.2 k5
    clear k0 k4 k5
    go_enter Try.func29, Try.ntmps29
    go_wp2_with (first
      | ((with_reducible refine gate_dst (N := 5) rfl ?_); refine box_event ?hg (N := 5) ?hd (cs := #[.int .i64 e0.kind, .int .i64 e0.at_, .string e0.text]) (t := 53) ?hr ?_; (case hd => rfl); (case hg => rfl); (case hr => first | (go_simp; done) | (go_simp; rfl)); intro b5 hb5 w1 hbox hb; have T1 := Aside0.mk (HT.out.below hb); have BX := Aside0.mk hbox; have HN1 : Aside0 (∀ k, Foot g vb vl k → k ≠ b5) := ⟨fun k hk => by have := (HT.out.1.foot hk).2; omega⟩; have HN2 : Aside0 (∀ k, Foot h ub ul k → k ≠ b5) := ⟨fun k hk => by have := (HT.out.2.1.foot hk).2; omega⟩; have z0 := (blk_cell hbox 0).trans rfl; clear hbox hb hb5)
      | (go_at_call 36; refine (kind_b e0.kind 8 (by decide) (by decide) _).mono ?_; rintro e w2 ⟨rfl, hb⟩; rw [hK]; have T2 := Aside0.mk (T1.out.below hb); have BX2 := Aside0.mk (blk_below BX.out hb); have z1 := (blk_cell BX2.out 1).trans rfl; have z2 := (blk_cell BX2.out 2).trans rfl; clear hb)
      | (go_at_call 14; refine (Cut_two e0.at_ T2.out).mono ?_; rintro e w3 ⟨rfl, hs, hm⟩; have T3 := Aside0.mk hs; have BX3 := Aside0.mk (hm.block BX2.out (fun hk => HN1.out b5 hk rfl)); clear z1 z2; have z1 := (blk_cell BX3.out 1).trans rfl; clear hs hm)
      | (go_at_call 15; refine (RefCut_half e0.at_ T3.out).mono ?_; rintro e w4 ⟨rfl, hs⟩; have T4 := Aside0.mk hs; clear hs))
    go_ret
    exact ⟨by first | rfl | simp, vl, ul, _, T4.out, Nat.le_succ _, rfl⟩
  have hk5 : (K == 5) = false := beq_eq_false_iff_ne.2 k5
  by_cases k6 : K = 6
  · have hk6 : (K == 6) = true := beq_iff_eq.2 k6
    clear k0 k4 k5 k6
    go_enter Try.func29, Try.ntmps29
    go_wp2_with (first
      | ((with_reducible refine gate_dst (N := 5) rfl ?_); refine box_event ?hg (N := 5) ?hd (cs := #[.int .i64 e0.kind, .int .i64 e0.at_, .string e0.text]) (t := 53) ?hr ?_; (case hd => rfl); (case hg => rfl); (case hr => first | (go_simp; done) | (go_simp; rfl)); intro b5 hb5 w1 hbox hb; have T1 := Aside0.mk (HT.out.below hb); have BX := Aside0.mk hbox; have HN1 : Aside0 (∀ k, Foot g vb vl k → k ≠ b5) := ⟨fun k hk => by have := (HT.out.1.foot hk).2; omega⟩; have HN2 : Aside0 (∀ k, Foot h ub ul k → k ≠ b5) := ⟨fun k hk => by have := (HT.out.2.1.foot hk).2; omega⟩; have z0 := (blk_cell hbox 0).trans rfl; clear hbox hb hb5)
      | (go_at_call 36; refine (kind_b e0.kind 8 (by decide) (by decide) _).mono ?_; rintro e w2 ⟨rfl, hb⟩; rw [hK]; have T2 := Aside0.mk (T1.out.below hb); have BX2 := Aside0.mk (blk_below BX.out hb); have z1 := (blk_cell BX2.out 1).trans rfl; have z2 := (blk_cell BX2.out 2).trans rfl; clear hb)
      | (go_at_call 32; refine (Restore_two T2.out).mono ?_; rintro e w3 ⟨rfl, hs⟩; have T3 := Aside0.mk hs; clear hs)
      | (go_at_call 59; refine (RefRestore_half T3.out).mono ?_; rintro e w4 ⟨rfl, hs⟩; have T4 := Aside0.mk hs; clear hs))
    go_ret
    exact ⟨by first | rfl | simp, vl, ul, _, T4.out, Nat.le_succ _, rfl⟩
  have hk6 : (K == 6) = false := beq_eq_false_iff_ne.2 k6
  by_cases k7 : K = 7
  · have hk7 : (K == 7) = true := beq_iff_eq.2 k7
    clear k0 k4 k5 k6 k7
    go_enter Try.func29, Try.ntmps29
    go_wp2_with (first
      | ((with_reducible refine gate_dst (N := 5) rfl ?_); refine box_event ?hg (N := 5) ?hd (cs := #[.int .i64 e0.kind, .int .i64 e0.at_, .string e0.text]) (t := 53) ?hr ?_; (case hd => rfl); (case hg => rfl); (case hr => first | (go_simp; done) | (go_simp; rfl)); intro b5 hb5 w1 hbox hb; have T1 := Aside0.mk (HT.out.below hb); have BX := Aside0.mk hbox; have HN1 : Aside0 (∀ k, Foot g vb vl k → k ≠ b5) := ⟨fun k hk => by have := (HT.out.1.foot hk).2; omega⟩; have HN2 : Aside0 (∀ k, Foot h ub ul k → k ≠ b5) := ⟨fun k hk => by have := (HT.out.2.1.foot hk).2; omega⟩; have z0 := (blk_cell hbox 0).trans rfl; clear hbox hb hb5)
      | (go_at_call 36; refine (kind_b e0.kind 8 (by decide) (by decide) _).mono ?_; rintro e w2 ⟨rfl, hb⟩; rw [hK]; have T2 := Aside0.mk (T1.out.below hb); have BX2 := Aside0.mk (blk_below BX.out hb); have z1 := (blk_cell BX2.out 1).trans rfl; have z2 := (blk_cell BX2.out 2).trans rfl; clear hb))
    have T3 := Aside0.mk (T2.out.below (below_drew1 (Below.refl w2.heap.size w2)))
    obtain ⟨Ab, cb, eb, _⟩ := own_slice T3.out.2.1.1.2.2.1
    subst eb
    go_region_held3 (fun w' => w'.cell? ⟨h, 4, none⟩ = some (.bool d.down) ∧ w'.cell? ⟨h, 0, none⟩ = some (.slice Ab d.blocks.length cb)) (first | exact ⟨(blk_cell T3.out.2.1.1.2.1 4).trans rfl, (blk_cell T3.out.2.1.1.2.1 0).trans rfl⟩) (first
      | (go_at_call 25; refine (Down_calls T3.out.1.1).mono ?_; rintro e w4 ⟨rfl, hw⟩; obtain rfl := hw.symm)
      | (go_at_call 34; refine (Len_calls T3.out.1.1).mono ?_; rintro e w5 ⟨rfl, hw⟩; obtain rfl := hw.symm))
    go_wp2
    go_ret
    exact ⟨by first | rfl | simp, vl, _, d, T3.out, Nat.le_succ _, rfl⟩
  have hk7 : (K == 7) = false := beq_eq_false_iff_ne.2 k7
  clear k0 k4 k5 k6 k7
  go_enter Try.func29, Try.ntmps29
  go_wp2_with (first
      | ((with_reducible refine gate_dst (N := 5) rfl ?_); refine box_event ?hg (N := 5) ?hd (cs := #[.int .i64 e0.kind, .int .i64 e0.at_, .string e0.text]) (t := 53) ?hr ?_; (case hd => rfl); (case hg => rfl); (case hr => first | (go_simp; done) | (go_simp; rfl)); intro b5 hb5 w1 hbox hb; have T1 := Aside0.mk (HT.out.below hb); have BX := Aside0.mk hbox; have HN1 : Aside0 (∀ k, Foot g vb vl k → k ≠ b5) := ⟨fun k hk => by have := (HT.out.1.foot hk).2; omega⟩; have HN2 : Aside0 (∀ k, Foot h ub ul k → k ≠ b5) := ⟨fun k hk => by have := (HT.out.2.1.foot hk).2; omega⟩; have z0 := (blk_cell hbox 0).trans rfl; clear hbox hb hb5)
      | (go_at_call 36; refine (kind_b e0.kind 8 (by decide) (by decide) _).mono ?_; rintro e w2 ⟨rfl, hb⟩; rw [hK]; have T2 := Aside0.mk (T1.out.below hb); have BX2 := Aside0.mk (blk_below BX.out hb); have z1 := (blk_cell BX2.out 1).trans rfl; have z2 := (blk_cell BX2.out 2).trans rfl; clear hb))
  have T3 := Aside0.mk (T2.out.below (below_drew1 (Below.refl w2.heap.size w2)))
  have BX3 := Aside0.mk (blk_drew BX2.out)
  go_region_held3 (fun w' => w'.cell? ⟨b5, 1, none⟩ = some (.int .i64 e0.at_) ∧ w'.cell? ⟨b5, 2, none⟩ = some (.string e0.text)) (first | exact ⟨(blk_cell BX3.out 1).trans rfl, (blk_cell BX3.out 2).trans rfl⟩) (first
    | (go_at_call 31; first
        | (refine (block_calls _ _).mono ?_; rintro e wk ⟨rfl, hb⟩; have n1 := Aside0.mk (T7.out.below hb); have n2 := Aside0.mk (blk_below BX3.out hb); clear T7 BX3; have T8 := n1; have BX3 := n2; clear n1 n2 hb)
        | (refine (block_calls _ _).mono ?_; rintro e wk ⟨rfl, hb⟩; have n1 := Aside0.mk (T3.out.below hb); have n2 := Aside0.mk (blk_below BX3.out hb); clear T3 BX3; have T6 := n1; have BX3 := n2; clear n1 n2 hb))
    | (go_at_call 30; refine (Write_two e0.at_ (blockS e0.text) T6.out HLg.out).mono ?_; rintro e w4 ⟨vl2, rfl, hs, hm⟩; have T7 := Aside0.mk hs; have n2 := Aside0.mk (hm.block BX3.out (fun hk => HN1.out b5 hk rfl)); clear BX3; have BX3 := n2; clear n2 hs hm)
    | (go_at_call 58; refine (RefWrite_half e0.at_ (blockS e0.text) T8.out HLg.out).mono ?_; rintro e w5 ⟨ul2, rfl, hs, hm⟩; have T9 := Aside0.mk hs; have n2 := Aside0.mk (hm.block BX3.out (fun hk => HN2.out b5 hk rfl)); clear BX3; have BX3 := n2; clear n2 hs hm))
  go_wp2
  go_ret
  exact ⟨by first | rfl | simp, vl2, ul2, _, T9.out, (write_len d e0.at_ (blockS e0.text)).1, (write_len d e0.at_ (blockS e0.text)).2⟩
end Go.Proofs.Ytgageigcjeaenaa.Disk
