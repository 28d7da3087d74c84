/- Disks: contracts and laws, walked by hand. No condition beside those that each theorem names. -/
import Derived.Test.YtgageigcjeaenaaDisk9
namespace Go.Proofs.Ytgageigcjeaenaa.Disk
open Go.RowKit Go.Proofs.YtgageigcjeaenaaW.PrintWords Go.Proofs.YtgageigcjeaenaaW.PrintLast Go.Proofs.YtgageigcjeaenaaW.PrintMore Go.Proofs.Ytgageigcjeaenaa.MixBase Go.Proofs.Ytgageigcjeaenaa.MixPlain Go.Proofs.Ytgageigcjeaenaa.NumBase Go.Proofs.Ytgageigcjeaenaa.PadPlain
attribute [local go_sem] max2_int min2_int max_two min_two max_three min_three max_four min_four
set_option linter.unusedVariables false
set_option linter.unusedSimpArgs false
theorem pg_one (a : Int) (b : ByteArray) : (pgs [⟨a, b⟩])[1]? = some (.string b) := rfl
theorem nl_w (s : ByteArray) : writeD (newD 64) 1 (blockS s) = (putD (newD 64) 1 (blockS s), 0) := by
  refine writeD_ok ?_ (blockS_size _) (fun h => absurd h.1 (by decide))
  show (if false = true then (17 : Int) else if (1 : Int) < 0 ∨ (1 : Int) ≥ ((newD 64).blocks.length : Int) then 1 else 0) = 0
  rw [wk_len]
  decide
theorem nl_ra (s : ByteArray) : readD (putD (newD 64) 1 (blockS s)) 1 = (blockS s, 0) := by
  have hl : (putD (newD 64) 1 (blockS s)).blocks.length = 64 := by
    show ((newD 64).blocks.set _ _).length = 64
    rw [List.length_set, wk_len]
  have hm : mayD (putD (newD 64) 1 (blockS s)) 1 = 0 := by
    show (if false = true then (17 : Int) else if (1 : Int) < 0 ∨ (1 : Int) ≥ ((putD (newD 64) 1 (blockS s)).blocks.length : Int) then 1 else 0) = 0
    rw [hl]
    decide
  unfold readD
  rw [if_pos hm]
  have hg : (putD (newD 64) 1 (blockS s)).blocks.getD 1 ⟨#[]⟩ = blockS s := by
    show ((newD 64).blocks.set 1 (blockS s)).getD 1 ⟨#[]⟩ = blockS s
    rw [List.getD_eq_getElem?_getD, List.getElem?_set_self (by rw [wk_len]; omega)]
    rfl
  exact Prod.ext hg rfl
theorem block_none : blockS ⟨#[]⟩ = zeros 256 := by
  unfold blockS
  rw [if_neg (by decide)]
  exact ByteArray.empty_append
theorem nl_rb : readD (newD 64) 1 = (blockS ⟨#[]⟩, 0) := by
  have hm : mayD (newD 64) 1 = 0 := by
    show (if false = true then (17 : Int) else if (1 : Int) < 0 ∨ (1 : Int) ≥ ((newD 64).blocks.length : Int) then 1 else 0) = 0
    rw [wk_len]
    decide
  unfold readD
  rw [if_pos hm, block_none]
  rfl
set_option maxRecDepth 100000 in
set_option maxHeartbeats 40000000 in
theorem DiskNil_walk (at_ : Int) (s : ByteArray) (W : World) : Calls Try.prog 7 #[.int .i64 at_, .string s] W fun e w' => e = .returned (.bool true) ∧ Below W.heap.size W w' := by
  have hu62 := Try.underlying62
  have nw := nl_w s
  have ra := nl_ra s
  have rb := nl_rb
  have hda : (putD (newD 64) 1 (blockS s)).log = [⟨1, blockS s⟩] := rfl
  have hdl : (newD 64).log = [] := rfl
  obtain ⟨da, hdA⟩ : ∃ da, da = putD (newD 64) 1 (blockS s) := ⟨_, rfl⟩
  have hlb : da.blocks.length = 64 := by
    rw [hdA]
    show ((newD 64).blocks.set _ _).length = 64
    rw [List.length_set, wk_len]
  rw [← hdA] at nw ra hda
  have HLB := Aside0.mk hlb
  have HDA := Aside0.mk hda
  clear hlb hda hdA
  go_enter Try.func7, Try.ntmps7
  go_upto_region 13 with (first
    | (go_at_call 26; refine (wakes_calls _).mono ?_; rintro e wa ⟨rfl, hb⟩; have HB0 := Aside0.mk hb; clear hb)
    | (go_at_call 14; refine (Cut_nil _ _).mono ?_; rintro e wb ⟨rfl, hw⟩; obtain rfl := hw.symm)
    | (go_at_call 32; refine (Restore_nil _).mono ?_; rintro e wb ⟨rfl, hw⟩; obtain rfl := hw.symm)
    | (go_at_call 33; refine (Read_nil _ _).mono ?_; rintro e wb ⟨rfl, hw⟩; obtain rfl := hw.symm)
    | (go_at_call 25; refine (Down_nil _).mono ?_; rintro e wb ⟨rfl, hw⟩; obtain rfl := hw.symm)
    | (go_at_call 34; refine (Len_nil _).mono ?_; rintro e wb ⟨rfl, hw⟩; obtain rfl := hw.symm)
    | (go_at_call 19; refine (Log_nil _).mono ?_; rintro e wb ⟨rfl, hw⟩; obtain rfl := hw.symm)
    | (go_at_call 24; refine (Image_nil _).mono ?_; rintro e wb ⟨rfl, hw⟩; obtain rfl := hw.symm)
    | (go_at_call 27; first
        | (refine (New_st 64 (by decide) (by decide) S1.out.2).mono ?_; rintro e wn2 ⟨g2, vb2, rfl, hs, hf, hb⟩; have T1 := Aside0.mk hs; have S1' := Aside0.mk (S1.out.below hb); have HF : Aside0 (∀ k, Foot g2 vb2 (.slice none 0 0) k → ¬ Foot g1 vb1 (.slice none 0 0) k) := ⟨fun k hk hk' => by have := hf k hk; have := (S1.out.foot hk').2; omega⟩; clear hs hf hb)
        | (refine (New_st 64 (by decide) (by decide) HB0.out).mono ?_; rintro e wn ⟨g1, vb1, rfl, hs, _, _⟩; have S1 := Aside0.mk hs; clear hs))
    | (go_at_call 31; first
        | (refine (block_calls s _).mono ?_; rintro e wk ⟨rfl, hb⟩; have S2 := Aside0.mk (S1'.out.below hb); have T2 := Aside0.mk (T1.out.below hb); clear hb))
    | (go_at_call 30; first
        | (refine (Write_st 1 (blockS s) S2.out (by decide)).mono ?_; rintro e ww ⟨vl, rfl, hs, hf, hm⟩; rw [nw] at hs ⊢; have S3 := Aside0.mk hs; have T3 := Aside0.mk (T2.out.moved hm (fun k hk => HF.out k hk) (fun k _ hk => (S2.out.foot hk).1)); clear hs hf hm)
        | (refine (Write_nil _ _ _).mono ?_; rintro e wb ⟨rfl, hw⟩; obtain rfl := hw.symm)))
  go_upto_region 16 with (first
    | (go_at_call 24; (refine (Image_calls S3.out.1 (by rw [HLB.out]; decide)).mono ?_; rintro e wi ⟨v1, rfl, ho, hb⟩; rw [HLB.out] at ho; obtain ⟨gi, ci, curi, rfl, hbi, hhi, hci, hati⟩ := own_form ho (by decide); have BI := Aside0.mk hhi; have HGi := Aside0.mk hbi; have HQi := Aside0.mk ((hati 1 (by decide)).trans (strs_at da.blocks 1 (by rw [HLB.out]; decide))); have S4 := Aside0.mk (S3.out.below hb); have T4 := Aside0.mk (T3.out.below hb); clear ho hb hbi hhi hati))
    | (go_at_call 19; (refine (Log_calls S4.out.1 (by rw [HDA.out]; simp)).mono ?_; rintro e wl ⟨v2, rfl, ho, hb⟩; rw [HDA.out] at ho; obtain ⟨gl, cl, curl, rfl, hbl, hhl, hcl, hatl⟩ := own_form ho (by simp); have q1 := (blk_cell (blk_below BI.out hb) 1).trans HQi.out; have q1f := blk_frozen (blk_below BI.out hb) 1; have ql := (blk_cell hhl 1).trans ((hatl 1 (by simp)).trans (pg_one 1 (blockS s))); have qlf := blk_frozen hhl 1; have hgil : gi < gl := Nat.lt_of_lt_of_le (blk_lt BI.out) hbl; have hne1 : gi ≠ gl := Nat.ne_of_lt hgil; have hne2 : gl ≠ gi := Nat.ne_of_gt hgil; have S5 := Aside0.mk (((S4.out.below hb).moved (Moved.set (S := fun k => k = gi) (j := 1) rfl (.string ⟨#[120]⟩)) (fun k hk e => by have := (S3.out.foot hk).2; have := HGi.out; omega) (fun k _ e => by have := HGi.out; have := S3.out.2.size; omega)).moved (Moved.set (S := fun k => k = gl) (j := 1) rfl (.string ⟨#[120]⟩)) (fun k hk e => by have := (S4.out.foot hk).2; omega) (fun k _ e => by have := S4.out.2.size; omega)); have T5 := Aside0.mk (((T4.out.below hb).moved (Moved.set (S := fun k => k = gi) (j := 1) rfl (.string ⟨#[120]⟩)) (fun k hk e => by have := (T3.out.foot hk).2; have := HGi.out; omega) (fun k _ e => by have := HGi.out; have := S3.out.2.size; omega)).moved (Moved.set (S := fun k => k = gl) (j := 1) rfl (.string ⟨#[120]⟩)) (fun k hk e => by have := (T4.out.foot hk).2; omega) (fun k _ e => by have := S4.out.2.size; omega)); clear ho hb hbl hhl hatl hgil)))
  go_upto_region 18 with (go_at_call 33; first
        | (refine (Read_calls 1 T6.out.1).mono ?_; rintro e wb ⟨rfl, hw⟩; obtain rfl := hw.symm; rw [rb])
        | (refine (Read_calls 1 S5.out.1).mono ?_; rintro e wb ⟨rfl, hw⟩; obtain rfl := hw.symm; rw [ra]; have T6 := T5))
  obtain ⟨w6, hw6⟩ : ∃ w6, (wl.setCell ⟨gi, 1, none⟩ (.string ⟨#[120]⟩)).setCell ⟨gl, 1, none⟩ (.string ⟨#[120]⟩) = w6 := ⟨_, rfl⟩
  rw [hw6] at S5 T5 ⊢
  have S6 := Aside0.mk (S5.out.below (below_drew1 (Below.refl w6.heap.size w6)))
  have T7 := Aside0.mk (T5.out.below (below_drew1 (Below.refl w6.heap.size w6)))
  clear hw6 S5 T5 T6 q1 q1f ql qlf hne1 hne2 S1 S1' S2 S3 S4 T1 T2 T3 T4 HF BI HGi HQi HB0 nw ra rb
  refine wp_region_any (by kernel_rfl) ?_
  (try (change wpAny _ _ _ _ _ _ _ (World.drew _)))
  refine wpAny_take (i := 0) (v := ?v1) rfl (by kernel_rfl) (by kernel_rfl) (by kernel_rfl) (fun _ _ _ h => h) (Or.inl ⟨by rfl, ?h1⟩) ?r1
  case h1 => (intro w; go_simp; try with_reducible rfl)
  go_simp
  refine wpAny_take (i := 1) (v := ?v2) rfl (by kernel_rfl) (by kernel_rfl) (by kernel_rfl) (fun _ _ _ h => h) (Or.inl ⟨by rfl, ?h2⟩) ?r2
  case h2 => (intro w; go_simp; try with_reducible rfl)
  go_simp
  refine wpAny_take (i := 2) (v := ?v3) rfl (by kernel_rfl) (by kernel_rfl) (by kernel_rfl) (fun _ _ _ h => h) (Or.inl ⟨by rfl, ?h3⟩) ?r3
  case h3 => (intro w; go_simp; try with_reducible rfl)
  go_simp
  refine wpAny_take (i := 3) (v := ?v4) rfl (by kernel_rfl) (by kernel_rfl) (by kernel_rfl) (fun _ _ _ h => h) (Or.inl ⟨by rfl, ?h4⟩) ?r4
  case h4 => (intro w; go_simp; try with_reducible rfl)
  go_simp
  refine wpAny_take (i := 4) (v := ?v5) rfl (by kernel_rfl) (by kernel_rfl) (by kernel_rfl) (fun _ _ _ h => h) (Or.inl ⟨by rfl, ?h5⟩) ?r5
  case h5 => (intro w; go_simp; try with_reducible rfl)
  go_simp
  refine wpAny_take (i := 5) (v := ?v6) rfl (by kernel_rfl) (by kernel_rfl) (by kernel_rfl) (fun _ _ _ h => h) (Or.inl ⟨by rfl, ?h6⟩) ?r6
  case h6 => (intro w; go_simp; try with_reducible rfl)
  go_simp
  refine wpAny_take (i := 6) (v := ?v7) rfl (by kernel_rfl) (by kernel_rfl) (by kernel_rfl) (fun _ _ _ h => h) (Or.inl ⟨by rfl, ?h7⟩) ?r7
  case h7 => (intro w; go_simp; try with_reducible rfl)
  go_simp
  refine wpAny_take (i := 7) (v := ?v8) rfl (by kernel_rfl) (by kernel_rfl) (by kernel_rfl) (fun _ _ _ h => h) (Or.inl ⟨by rfl, ?h8⟩) ?r8
  case h8 => (intro w; go_simp; try with_reducible rfl)
  go_simp
  refine wpAny_take (i := 8) (v := ?v9) rfl (by kernel_rfl) (by kernel_rfl) (by kernel_rfl) (fun _ _ _ h => h) (Or.inl ⟨by rfl, ?h9⟩) ?r9
  case h9 => (intro w; go_simp; try with_reducible rfl)
  go_simp
  refine wpAny_ready (rs := [9]) (by kernel_rfl) (by simp) ?_
  refine AllReady.cons rfl (fun K hK => ?_) ?_
  · go_simp
    go_wp2_with (go_at_call 31; refine (block_calls _ _).mono ?_; rintro e wk ⟨rfl, hb⟩; have S6a := Aside0.mk (S6.out.below hb); have T7a := Aside0.mk (T7.out.below hb); clear S6 T7 hb)
    try (refine hK _ _ ?_; clear hK K)
    try go_simp
    refine wpAny_take (i := 10) (v := ?v10) rfl (by kernel_rfl) (by kernel_rfl) (by kernel_rfl) (fun _ _ _ h => h) (Or.inl ⟨by rfl, ?h10⟩) ?r10
    case h10 => (intro w; go_simp; try with_reducible rfl)
    go_simp
    refine wpAny_take (i := 11) (v := ?v11) rfl (by kernel_rfl) (by kernel_rfl) (by kernel_rfl) (fun _ _ _ h => h) (Or.inl ⟨by rfl, ?h11⟩) ?r11
    case h11 => (intro w; go_simp; try with_reducible rfl)
    go_simp
    refine wpAny_take (i := 12) (v := ?v12) rfl (by kernel_rfl) (by kernel_rfl) (by kernel_rfl) (fun _ _ _ h => h) (Or.inl ⟨by rfl, ?h12⟩) ?r12
    case h12 => (intro w; go_simp; try with_reducible rfl)
    go_simp
    refine wpAny_take (i := 13) (v := ?v13) rfl (by kernel_rfl) (by kernel_rfl) (by kernel_rfl) (fun _ _ _ h => h) (Or.inl ⟨by rfl, ?h13⟩) ?r13
    case h13 => (intro w; go_simp; try with_reducible rfl)
    go_simp
    refine wpAny_ready (rs := [14]) (by kernel_rfl) (by simp) ?_
    refine AllReady.cons rfl (fun K hK => ?_) ?_
    · go_simp
      go_wp2_with (go_at_call 31; refine (block_calls _ _).mono ?_; rintro e wk ⟨rfl, hb⟩; have S6b := Aside0.mk (S6a.out.below hb); have T7b := Aside0.mk (T7a.out.below hb); clear S6a T7a hb)
      try (refine hK _ _ ?_; clear hK K)
      try go_simp
      refine wpAny_take (i := 15) (v := ?v14) rfl (by kernel_rfl) (by kernel_rfl) (by kernel_rfl) (fun _ _ _ h => h) (Or.inl ⟨by rfl, ?h14⟩) ?r14
      case h14 => (intro w; go_simp; try with_reducible rfl)
      go_simp
      refine wpAny_take (i := 16) (v := ?v15) rfl (by kernel_rfl) (by kernel_rfl) (by kernel_rfl) (fun _ _ _ h => h) (Or.inl ⟨by rfl, ?h15⟩) ?r15
      case h15 => (intro w; go_simp; try with_reducible rfl)
      go_simp
      refine wpAny_take (i := 17) (v := ?v16) rfl (by kernel_rfl) (by kernel_rfl) (by kernel_rfl) (fun _ _ _ h => h) (Or.inl ⟨by rfl, ?h16⟩) ?r16
      case h16 => (intro w; go_simp; try with_reducible rfl)
      go_simp
      refine wpAny_take (i := 18) (v := ?v17) rfl (by kernel_rfl) (by kernel_rfl) (by kernel_rfl) (fun _ _ _ h => h) (Or.inl ⟨by rfl, ?h17⟩) ?r17
      case h17 => (intro w; go_simp; try with_reducible rfl)
      go_simp
      refine wpAny_ready (rs := [19]) (by kernel_rfl) (by simp) ?_
      refine AllReady.cons rfl (fun K hK => ?_) ?_
      · go_simp
        go_wp2_with (go_at_call 19; refine (Log_calls T7b.out.1 (by rw [hdl]; simp)).mono ?_; rintro e wk ⟨v3, rfl, ho, hb⟩; rw [hdl] at ho; obtain ⟨A3, c3, rfl, _⟩ := own_slice ho; have S6c := Aside0.mk (S6b.out.below hb); clear S6b T7b hb ho)
        try (refine hK _ _ ?_; clear hK K)
        try go_simp
        refine wpAny_take (i := 20) (v := ?v18) rfl (by kernel_rfl) (by kernel_rfl) (by kernel_rfl) (fun _ _ _ h => h) (Or.inl ⟨by rfl, ?h18⟩) ?r18
        case h18 => (intro w; go_simp; try with_reducible rfl)
        go_simp
        refine wpAny_take (i := 21) (v := ?v19) rfl (by kernel_rfl) (by kernel_rfl) (by kernel_rfl) (fun _ _ _ h => h) (Or.inl ⟨by rfl, ?h19⟩) ?r19
        case h19 => (intro w; go_simp; try with_reducible rfl)
        go_simp
        refine wpAny_take (i := 22) (v := ?v20) rfl (by kernel_rfl) (by kernel_rfl) (by kernel_rfl) (fun _ _ _ h => h) (Or.inl ⟨by rfl, ?h20⟩) ?r20
        case h20 => (intro w; go_simp; try with_reducible rfl)
        go_simp
        refine wpAny_take (i := 23) (v := ?v21) rfl (by kernel_rfl) (by kernel_rfl) (by kernel_rfl) (fun _ _ _ h => h) (Or.inl ⟨by rfl, ?h21⟩) ?r21
        case h21 => (intro w; go_simp; try with_reducible rfl)
        go_simp
        refine wpAny_take (i := 24) (v := ?v22) rfl (by kernel_rfl) (by kernel_rfl) (by kernel_rfl) (fun _ _ _ h => h) (Or.inl ⟨by rfl, ?h22⟩) ?r22
        case h22 => (intro w; go_simp; try with_reducible rfl)
        go_simp
        refine wpAny_take (i := 29) (v := ?v23) rfl (by kernel_rfl) (by kernel_rfl) (by kernel_rfl) (fun _ _ _ h => h) (Or.inl ⟨by rfl, ?h23⟩) ?r23
        case h23 => (intro w; go_simp; try with_reducible rfl)
        go_simp
        refine wpAny_ready (rs := [25]) (by kernel_rfl) (by simp) ?_
        refine AllReady.cons rfl (fun K hK => ?_) ?_
        · go_simp
          go_wp2_with (go_at_call 19; refine (Log_calls S6c.out.1 (by rw [HDA.out]; simp)).mono ?_; rintro e wk ⟨v3, rfl, ho, hb⟩; rw [HDA.out] at ho; obtain ⟨gm, cm, curm, rfl, hbm, hhm, hcm, hatm⟩ := own_form ho (by simp); have BL := Aside0.mk hhm; have HQl := Aside0.mk ((hatm 1 (by simp)).trans (pg_one 1 (blockS s))); have zl := (blk_cell BL.out 1).trans HQl.out; have S6d := Aside0.mk (S6c.out.below hb); clear S6c hb ho hbm hhm hatm)
          try (refine hK _ _ ?_; clear hK K)
          try go_simp
          refine wpAny_take (i := 26) (v := ?v24) rfl (by kernel_rfl) (by kernel_rfl) (by kernel_rfl) (fun _ _ _ h => h) (Or.inl ⟨by rfl, ?h24⟩) ?r24
          case h24 => (intro w; go_simp; try with_reducible rfl)
          go_simp
          refine wpAny_take (i := 27) (v := ?v25) rfl (by kernel_rfl) (by kernel_rfl) (by kernel_rfl) (fun _ _ _ h => h) (Or.inl ⟨by rfl, ?h25⟩) ?r25
          case h25 => (intro w; go_simp; try with_reducible rfl)
          go_simp
          refine wpAny_ready (rs := [28, 30]) (by kernel_rfl) (by simp) ?_
          refine AllReady.cons rfl (fun K hK => ?_) ?_
          · go_simp
            try (refine hK _ _ ?_; clear hK K)
            try (refine hK _ _ ?_; clear hK K)
            try go_simp
            refine wpAny_ready (rs := [30]) (by kernel_rfl) (by simp) ?_
            refine AllReady.cons rfl (fun K hK => ?_) ?_
            · go_simp
              go_wp2_with (go_at_call 31; refine (block_calls _ _).mono ?_; rintro e wk ⟨rfl, hb⟩; have S6e := Aside0.mk (S6d.out.below hb); have zl2 := (blk_cell (blk_below BL.out hb) 1).trans HQl.out; clear S6d hb)
              try (refine hK _ _ ?_; clear hK K)
              try go_simp
              refine wpAny_take (i := 31) (v := ?v26) rfl (by kernel_rfl) (by kernel_rfl) (by kernel_rfl) (fun _ _ _ h => h) (Or.inl ⟨by rfl, ?h26⟩) ?r26
              case h26 => (intro w; go_simp; try with_reducible rfl)
              go_simp
              refine wpAny_take (i := 32) (v := ?v27) rfl (by kernel_rfl) (by kernel_rfl) (by kernel_rfl) (fun _ _ _ h => h) (Or.inl ⟨by rfl, ?h27⟩) ?r27
              case h27 => (intro w; go_simp; try with_reducible rfl)
              go_simp
              refine wpAny_take (i := 33) (v := ?v28) rfl (by kernel_rfl) (by kernel_rfl) (by kernel_rfl) (fun _ _ _ h => h) (Or.inl ⟨by rfl, ?h28⟩) ?r28
              case h28 => (intro w; go_simp; try with_reducible rfl)
              go_simp
              refine wpAny_done (by kernel_rfl) ?_ _
              go_simp
              refine (‹∀ (a : Act) (w : World), Code.wp Try.prog Code.ret _ a w → _›) _ _ ?_
              go_wp2
              go_ret
              exact ⟨rfl, S6e.out.2⟩
            exact AllReady.nil
          refine AllReady.cons rfl (fun K hK => ?_) ?_
          · go_simp
            go_wp2_with (go_at_call 31; refine (block_calls _ _).mono ?_; rintro e wk ⟨rfl, hb⟩; have S6e := Aside0.mk (S6d.out.below hb); have zl2 := (blk_cell (blk_below BL.out hb) 1).trans HQl.out; clear S6d hb)
            try (refine hK _ _ ?_; clear hK K)
            try go_simp
            refine wpAny_ready (rs := [28]) (by kernel_rfl) (by simp) ?_
            refine AllReady.cons rfl (fun K hK => ?_) ?_
            · go_simp
              try (refine hK _ _ ?_; clear hK K)
              try (refine hK _ _ ?_; clear hK K)
              try go_simp
              refine wpAny_take (i := 31) (v := ?v29) rfl (by kernel_rfl) (by kernel_rfl) (by kernel_rfl) (fun _ _ _ h => h) (Or.inl ⟨by rfl, ?h29⟩) ?r29
              case h29 => (intro w; go_simp; try with_reducible rfl)
              go_simp
              refine wpAny_take (i := 32) (v := ?v30) rfl (by kernel_rfl) (by kernel_rfl) (by kernel_rfl) (fun _ _ _ h => h) (Or.inl ⟨by rfl, ?h30⟩) ?r30
              case h30 => (intro w; go_simp; try with_reducible rfl)
              go_simp
              refine wpAny_take (i := 33) (v := ?v31) rfl (by kernel_rfl) (by kernel_rfl) (by kernel_rfl) (fun _ _ _ h => h) (Or.inl ⟨by rfl, ?h31⟩) ?r31
              case h31 => (intro w; go_simp; try with_reducible rfl)
              go_simp
              refine wpAny_done (by kernel_rfl) ?_ _
              go_simp
              refine (‹∀ (a : Act) (w : World), Code.wp Try.prog Code.ret _ a w → _›) _ _ ?_
              go_wp2
              go_ret
              exact ⟨rfl, S6e.out.2⟩
            exact AllReady.nil
          exact AllReady.nil
        exact AllReady.nil
      exact AllReady.nil
    exact AllReady.nil
  exact AllReady.nil
theorem DiskNil_row (a : Int) (s : ByteArray) (W : World) (_ : (Lit.int .i64 a).wf = true) (_ : s.size ≤ 140737488351232) : Calls Try.prog 7 #[.int .i64 a, .string s] W fun e w' => e = .returned (.bool true) ∧ Below W.heap.size W w' := DiskNil_walk a s W
end Go.Proofs.Ytgageigcjeaenaa.Disk
