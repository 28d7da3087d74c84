/- Disks: contracts and laws, walked by hand. No condition beside those that each theorem names. -/
import Derived.Test.YtgageigcjeaenaaDisk5
import Derived.Test.YtgageigcjeaenaaDiskP
namespace Go.Proofs.Ytgageigcjeaenaa.Disk
open Go.RowKit Go.Proofs.YtgageigcjeaenaaW.PrintWords Go.Proofs.YtgageigcjeaenaaW.PrintLast Go.Proofs.YtgageigcjeaenaaW.PrintMore Go.Proofs.Ytgageigcjeaenaa.MixBase Go.Proofs.Ytgageigcjeaenaa.MixPlain Go.Proofs.Ytgageigcjeaenaa.NumBase Go.Proofs.Ytgageigcjeaenaa.PadPlain
attribute [local go_sem] max2_int min2_int max_two min_two max_three min_three max_four min_four
set_option linter.unusedVariables false
set_option linter.unusedSimpArgs false
def blockS (s : ByteArray) : ByteArray := if s.size > 256 then s.extract 0 256 else s ++ zeros (256 - s.size)
theorem blockS_size (s : ByteArray) : (blockS s).size = 256 := by
  unfold blockS
  split
  · rw [ByteArray.size_extract]; omega
  · rw [ByteArray.size_append, zeros_size]; omega
theorem Zeros_calls (m : Nat) (h : m ≤ 65536) (w : World) : Calls Try.prog 37 #[.int .i64 (m : Int)] w fun e w' => e = .returned (.string (zeros m)) ∧ Below w.heap.size w w' :=
  aumbryref01_Zeros.calls (m : Int) (zeros m) w (by
    unfold aumbryref01_Zeros.f
    rw [if_pos (by omega), show ((m : Int)).toNat = m by omega, if_pos (by omega)]
    rfl)
set_option maxRecDepth 100000 in
theorem block_calls (s : ByteArray) (w : World) : Calls Try.prog 31 #[.string s] w fun e w' => e = .returned (.string (blockS s)) ∧ Below w.heap.size w w' := by
  unfold blockS
  by_cases h : s.size > 256
  · have b0 : decide (256 < (s.size : Int)) = true := decide_eq_true (by omega)
    have b1 : (256 ≤ (s.size : Int)) = True := eq_true (by omega)
    have b2 : (256 ≤ s.size) = True := eq_true (by omega)
    rw [if_pos h]
    clear h
    go_enter Try.func31, Try.ntmps31
    go_wp2
    go_ret
    exact ⟨rfl, Below.refl _ _⟩
  · have b0 : decide (256 < (s.size : Int)) = false := decide_eq_false (by omega)
    rw [if_neg h]
    have e : wrap64 (256 - (s.size : Int)) = ((256 - s.size : Nat) : Int) := by rw [wrap64_small (by omega) (by omega)]; omega
    have e2 : IntKind.i64.wrap (256 - (s.size : Int)) = ((256 - s.size : Nat) : Int) := (i64_w _).trans e
    obtain ⟨m, hm⟩ : ∃ m, m = 256 - s.size := ⟨_, rfl⟩
    have hz : (zeros m).size = m := zeros_size m
    have hm' : m ≤ 65536 := by omega
    have hs : (9223372036854775807 < s.size + m) = False := eq_false (by omega)
    rw [← hm] at e e2 ⊢
    generalize hzz : zeros m = z at hz ⊢
    clear h hm
    go_enter Try.func31, Try.ntmps31
    go_wp2_with (go_at_call 37; refine (Zeros_calls m hm' w).mono ?_; rintro e w2 ⟨rfl, hb⟩; rw [hzz]; have HB := Aside0.mk hb; clear hb)
    go_ret
    exact ⟨rfl, HB.out⟩
/-- A disk of the call's own, in a world that has gone on from W. -/
def St (W w : World) (g : Nat) (vb vl : Value) (d : Dk) : Prop := DiskIs w W.heap.size g vb vl d ∧ Below W.heap.size W w
theorem DiskIs.lower {w : World} {base base' g : Nat} {vb vl : Value} {d : Dk} (h : DiskIs w base g vb vl d) (hb : base' ≤ base) : DiskIs w base' g vb vl d := ⟨Nat.le_trans hb h.1, h.2.1, own_less h.2.2.1 hb, own_less h.2.2.2 hb⟩
section
variable {W w w' : World} {g : Nat} {vb vl : Value} {d : Dk}
theorem St.moved (h : St W w g vb vl d) {S : Nat → Prop} (hm : Moved w w' S) (hn : ∀ k, Foot g vb vl k → ¬ S k) (hs : ∀ k, k < w.heap.size → S k → W.heap.size ≤ k) : St W w' g vb vl d :=
  ⟨h.1.moved hm hn, hm.below h.2 h.2.size hs⟩
theorem St.below (h : St W w g vb vl d) (hb : Below w.heap.size w w') : St W w' g vb vl d := ⟨h.1.moved (Moved.of_below hb (fun _ => False)) (fun _ _ h => h), below_step h.2 hb⟩
theorem St.foot (h : St W w g vb vl d) {k : Nat} (hk : Foot g vb vl k) : W.heap.size ≤ k ∧ k < w.heap.size := h.1.foot_lt hk
theorem Cut_st (n : Int) (h : St W w g vb vl d) : Calls Try.prog 14 #[.pointer (some ⟨g, 0, none⟩), .int .i64 n] w fun e w' => e = .returned (.tuple #[]) ∧ St W w' g vb vl (cutD d n) ∧ Moved w w' (Foot g vb vl) :=
  (Cut_calls n h.1).mono fun e w' ⟨h1, h2, h3⟩ => ⟨h1, ⟨h2, h3.below h.2 h.2.size (fun k _ hk => hk ▸ h.1.1)⟩, h3.mono (fun k _ hk => Or.inl hk)⟩
theorem Restore_st (h : St W w g vb vl d) : Calls Try.prog 32 #[.pointer (some ⟨g, 0, none⟩)] w fun e w' => e = .returned (.tuple #[]) ∧ St W w' g vb vl (restoreD d) ∧ Moved w w' (Foot g vb vl) :=
  (Restore_calls h.1).mono fun e w' ⟨h1, h2, h3⟩ => ⟨h1, ⟨h2, h3.below h.2 h.2.size (fun k _ hk => hk ▸ h.1.1)⟩, h3.mono (fun k _ hk => Or.inl hk)⟩
theorem Write_st (a : Int) (s : ByteArray) (h : St W w g vb vl d) (hlog : (d.log.length + 1) * 24 ≤ 140737488355328) : Calls Try.prog 30 #[.pointer (some ⟨g, 0, none⟩), .int .i64 a, .string s] w fun e w' => ∃ vl', e = .returned (.int .i64 (writeD d a s).2) ∧ St W w' g vb vl' (writeD d a s).1 ∧ (∀ k, Foot g vb vl' k → Foot g vb vl k ∨ w.heap.size ≤ k) ∧ Moved w w' (Foot g vb vl) :=
  (Write_calls a s h.1 hlog).mono fun e w' ⟨vl', h1, h2, h3, h4⟩ => ⟨vl', h1, ⟨h2, h4.below h.2 h.2.size (fun k _ hk => (h.foot hk).1)⟩, fun k hk => by
    rcases hk with hk | hk | hk
    · exact Or.inl (Or.inl hk)
    · exact Or.inl (Or.inr (Or.inl hk))
    · rcases h3 with e | ⟨b, e, hb⟩
      · exact Or.inl (Or.inr (Or.inr (e ▸ hk)))
      · rw [e] at hk
        injection hk with hk
        exact Or.inr (hk ▸ hb), h4⟩
theorem New_st (n : Nat) (h1 : 64 ≤ n) (h2 : n ≤ 2048) (hW : Below W.heap.size W w) : Calls Try.prog 27 #[.int .i64 (n : Int)] w fun e w' => ∃ g vb, e = .returned (.tuple #[.pointer (some ⟨g, 0, none⟩), .int .i64 0]) ∧ St W w' g vb (.slice none 0 0) (newD n) ∧ (∀ k, Foot g vb (.slice none 0 0) k → w.heap.size ≤ k) ∧ Below w.heap.size w w' :=
  (New_calls n h1 h2 w).mono fun e w' ⟨g, vb, e1, h3, h4⟩ => ⟨g, vb, e1, ⟨h3.lower hW.size, below_step hW h4⟩, fun k hk => (h3.foot_lt hk).1, h4⟩
end
theorem writeD_ok {d : Dk} {a : Int} {s : ByteArray} (h : mayD d a = 0) (hs : s.size = 256) (hc : ¬ (d.told = true ∧ d.left = 0)) : writeD d a s = (putD d a s, 0) := by
  unfold writeD
  rw [if_pos h, if_pos hs, if_neg hc]
theorem writeD_cut {d : Dk} {a : Int} {s : ByteArray} (h : mayD d a = 0) (hs : s.size = 256) (hc : d.told = true ∧ d.left = 0) : writeD d a s = (⟨d.blocks, d.log, d.left, d.told, true⟩, 17) := by
  unfold writeD
  rw [if_pos h, if_pos hs, if_pos hc]
def xTxt : ByteArray := ⟨#[120]⟩
/-- The disk of 'wakes', step by step. -/
def wk1 : Dk := cutD (newD 64) 1
def wk2 : Dk := putD wk1 3 (blockS xTxt)
def wk3 : Dk := ⟨wk2.blocks, wk2.log, wk2.left, wk2.told, true⟩
theorem wk_len (n : Nat) : (newD n).blocks.length = n := List.length_replicate
theorem wk_w1 : writeD wk1 3 (blockS xTxt) = (wk2, 0) := by
  refine writeD_ok ?_ (blockS_size _) ?_
  · show mayD wk1 3 = 0
    decide
  · intro h
    exact absurd h.2 (by decide)
theorem wk2_len : wk2.blocks.length = 64 := by
  show ((newD 64).blocks.set (3 : Int).toNat (blockS xTxt)).length = 64
  rw [List.length_set, wk_len]
theorem wk_w2 : writeD wk2 4 (blockS xTxt) = (wk3, 17) := by
  have hl : wk2.left = 0 := by
    show (if decide ((1 : Int) ≥ 0) = true then wrap64 (1 - 1) else 1) = 0
    rw [if_pos (by decide), wrap64_small (by decide) (by decide)]
    decide
  refine writeD_cut ?_ (blockS_size _) ⟨rfl, hl⟩
  show (if wk2.down = true then (17 : Int) else if (4 : Int) < 0 ∨ (4 : Int) ≥ (wk2.blocks.length : Int) then 1 else 0) = 0
  rw [wk2_len]
  decide
theorem wk_r : readD (restoreD wk3) 3 = (blockS xTxt, 0) := by
  have hm : mayD (restoreD wk3) 3 = 0 := by
    show (if false = true then (17 : Int) else if (3 : Int) < 0 ∨ (3 : Int) ≥ (wk2.blocks.length : Int) then 1 else 0) = 0
    rw [wk2_len]
    decide
  unfold readD
  rw [if_pos hm]
  have hg : (wk2.blocks).getD 3 ⟨#[]⟩ = blockS xTxt := by
    show ((newD 64).blocks.set 3 (blockS xTxt)).getD 3 ⟨#[]⟩ = blockS xTxt
    rw [List.getD_eq_getElem?_getD, List.getElem?_set_self (by rw [wk_len]; omega)]
    rfl
  exact Prod.ext hg rfl
set_option maxRecDepth 100000 in
set_option maxHeartbeats 2000000 in
theorem wakes_calls (W : World) : Calls Try.prog 26 #[] W fun e w' => e = .returned (.bool true) ∧ Below W.heap.size W w' := by
  have w1 := wk_w1
  have w2 := wk_w2
  have rd := wk_r
  have hd : wk3.down = true := rfl
  have hl0 := wk_len 64
  have hx : (⟨#[120]⟩ : ByteArray) = xTxt := rfl
  generalize hb : blockS xTxt = B at w1 w2 rd
  go_enter Try.func26, Try.ntmps26
  go_wp2_with (first
    | (go_at_call 27; refine (New_st 64 (by decide) (by decide) (Below.refl _ _)).mono ?_; rintro e wa ⟨g, vb, rfl, hs, _, _⟩; have S1 := Aside0.mk hs; clear hs)
    | (go_at_call 34; refine (Len_calls S1.out.1).mono ?_; rintro e wb ⟨rfl, hw⟩; obtain rfl := hw.symm; rw [hl0])
    | (go_at_call 14; refine (Cut_st 1 S1.out).mono ?_; rintro e wc ⟨rfl, hs, _⟩; have S2 : Aside0 (St W wc g vb (.slice none 0 0) wk1) := ⟨hs⟩; clear hs)
    | (go_at_call 31; refine (block_calls ⟨#[120]⟩ _).mono ?_; rintro e wd ⟨rfl, hb'⟩; rw [hx, hb]; have HB1 := Aside0.mk hb'; clear hb')
    | (go_at_call 30; first
        | (refine (Write_st 3 B (S2.out.below HB1.out) (by decide)).mono ?_; rintro e we ⟨vl, rfl, hs, _, _⟩; rw [w1] at hs ⊢; have S3 := Aside0.mk hs; clear hs)
        | (refine (Write_st 4 B (S3.out.below HB1.out) (by decide)).mono ?_; rintro e we ⟨vl3, rfl, hs, _, _⟩; rw [w2] at hs ⊢; have S4 := Aside0.mk hs; clear hs))
    | (go_at_call 25; refine (Down_calls S4.out.1).mono ?_; rintro e wb ⟨rfl, hw⟩; obtain rfl := hw.symm; rw [hd])
    | (go_at_call 32; refine (Restore_st S4.out).mono ?_; rintro e wb ⟨rfl, hs, _⟩; have S5 := Aside0.mk hs; clear hs)
    | (go_at_call 33; refine (Read_calls 3 S5.out.1).mono ?_; rintro e wb ⟨rfl, hw⟩; obtain rfl := hw.symm; rw [rd]))
  go_ret
  exact ⟨rfl, below_step S5.out.2 HB1.out⟩
end Go.Proofs.Ytgageigcjeaenaa.Disk
