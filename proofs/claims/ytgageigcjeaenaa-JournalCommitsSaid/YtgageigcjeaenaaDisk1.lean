/- Disks: contracts and laws, walked by hand. No condition beside those that each theorem names. -/
import Derived.Test.YtgageigcjeaenaaDisk0
namespace Go.Proofs.Ytgageigcjeaenaa.Disk
open Go.RowKit Go.Proofs.YtgageigcjeaenaaW.PrintWords Go.Proofs.YtgageigcjeaenaaW.PrintLast Go.Proofs.YtgageigcjeaenaaW.PrintMore Go.Proofs.Ytgageigcjeaenaa.MixBase Go.Proofs.Ytgageigcjeaenaa.MixPlain Go.Proofs.Ytgageigcjeaenaa.NumBase Go.Proofs.Ytgageigcjeaenaa.PadPlain
attribute [local go_sem] max2_int min2_int max_two min_two max_three min_three max_four min_four
set_option linter.unusedVariables false
set_option linter.unusedSimpArgs false
section
variable {w : World} {base g : Nat} {vb vl : Value} {d : Dk}
theorem own_slice {e size n : Nat} {v : Value} {xs : List Value} (h : w.ownsRow base e size v n xs) : ∃ A c, v = .slice A n c ∧ n ≤ maxLen := by
  rcases h.2 with ⟨rfl, rfl⟩ | ⟨k, cap, cur, rfl, _, _, h1, h2, _⟩
  · exact ⟨none, 0, rfl, Nat.zero_le _⟩
  · exact ⟨_, cap, rfl, by omega⟩
/-- (*Disk).Len of a disk that is. -/
theorem Len_calls (h : DiskIs w base g vb vl d) : Calls Try.prog 34 #[.pointer (some ⟨g, 0, none⟩)] w fun e w' => e = .returned (.int .i64 (d.blocks.length : Int)) ∧ w' = w := by
  have hu78 := Try.underlying78
  obtain ⟨A, c, rfl, _⟩ := own_slice h.2.2.1
  have c0 := (blk_cell h.2.1 0).trans rfl
  clear h
  go_enter Try.func34, Try.ntmps34
  go_wp2
  go_ret
  exact ⟨rfl, rfl⟩
theorem Len_nil (w : World) : Calls Try.prog 34 #[.pointer none] w fun e w' => e = .returned (.int .i64 0) ∧ w' = w := by
  go_enter Try.func34, Try.ntmps34
  go_wp2
  go_ret
  exact ⟨rfl, rfl⟩
theorem Down_calls (h : DiskIs w base g vb vl d) : Calls Try.prog 25 #[.pointer (some ⟨g, 0, none⟩)] w fun e w' => e = .returned (.bool d.down) ∧ w' = w := by
  have hu78 := Try.underlying78
  have c4 := (blk_cell h.2.1 4).trans rfl
  clear h
  go_enter Try.func25, Try.ntmps25
  go_wp2
  go_ret
  exact ⟨rfl, rfl⟩
theorem Down_nil (w : World) : Calls Try.prog 25 #[.pointer none] w fun e w' => e = .returned (.bool false) ∧ w' = w := by
  go_enter Try.func25, Try.ntmps25
  go_wp2
  go_ret
  exact ⟨rfl, rfl⟩
theorem DiskIs.put (h : DiskIs w base g vb vl d) {w' : World} {left' : Int} {told' down' : Bool} (hg : w'.heap[g]? = some (.cells #[vb, vl, .int .i64 left', .bool told', .bool down'] 78 (0, 0))) (hm : Moved w w' (fun k => k = g)) : DiskIs w' base g vb vl ⟨d.blocks, d.log, left', told', down'⟩ :=
  ⟨h.1, hg, hm.own h.2.2.1 (own_ne h.2.2.1 h.2.1 (by decide)), hm.own h.2.2.2 (own_ne h.2.2.2 h.2.1 (by decide))⟩
theorem Cut_calls (n : Int) (h : DiskIs w base g vb vl d) : Calls Try.prog 14 #[.pointer (some ⟨g, 0, none⟩), .int .i64 n] w fun e w' => e = .returned (.tuple #[]) ∧ DiskIs w' base g vb vl (cutD d n) ∧ Moved w w' (fun k => k = g) := by
  have hu78 := Try.underlying78
  have c2 := (blk_cell h.2.1 2).trans rfl
  have c3 := (blk_cell h.2.1 3).trans rfl
  have f2 := blk_frozen h.2.1 2
  have f3 := blk_frozen h.2.1 3
  have HD := Aside0.mk h
  clear h
  go_enter Try.func14, Try.ntmps14
  go_wp2
  go_end0
  have hm : Moved w ((w.setCell ⟨g, 3, none⟩ (.bool (decide (n ≥ 0)))).setCell ⟨g, 2, none⟩ (.int .i64 n)) (fun k => k = g) := Moved.trans (Moved.set (S := fun k => k = g) rfl _) (Moved.set (S := fun k => k = g) rfl _)
  exact ⟨rfl, HD.out.put (blk_put (blk_put HD.out.2.1 3 _ rfl) 2 _ rfl) hm, hm⟩
theorem Cut_nil (n : Int) (w : World) : Calls Try.prog 14 #[.pointer none, .int .i64 n] w fun e w' => e = .returned (.tuple #[]) ∧ w' = w := by
  go_enter Try.func14, Try.ntmps14
  go_wp2
  go_end0
  exact ⟨rfl, rfl⟩
theorem Restore_calls (h : DiskIs w base g vb vl d) : Calls Try.prog 32 #[.pointer (some ⟨g, 0, none⟩)] w fun e w' => e = .returned (.tuple #[]) ∧ DiskIs w' base g vb vl (restoreD d) ∧ Moved w w' (fun k => k = g) := by
  have hu78 := Try.underlying78
  have c3 := (blk_cell h.2.1 3).trans rfl
  have c4 := (blk_cell h.2.1 4).trans rfl
  have f3 := blk_frozen h.2.1 3
  have f4 := blk_frozen h.2.1 4
  have HD := Aside0.mk h
  clear h
  go_enter Try.func32, Try.ntmps32
  go_wp2
  go_end0
  have hm : Moved w ((w.setCell ⟨g, 3, none⟩ (.bool false)).setCell ⟨g, 4, none⟩ (.bool false)) (fun k => k = g) := Moved.trans (Moved.set (S := fun k => k = g) rfl _) (Moved.set (S := fun k => k = g) rfl _)
  exact ⟨rfl, HD.out.put (blk_put (blk_put HD.out.2.1 3 _ rfl) 4 _ rfl) hm, hm⟩
theorem Restore_nil (w : World) : Calls Try.prog 32 #[.pointer none] w fun e w' => e = .returned (.tuple #[]) ∧ w' = w := by
  go_enter Try.func32, Try.ntmps32
  go_wp2
  go_end0
  exact ⟨rfl, rfl⟩
theorem may_nil (a : Int) (w : World) : Calls Try.prog 60 #[.pointer none, .int .i64 a] w fun e w' => e = .returned (.int .i64 18) ∧ w' = w := by
  go_enter Try.func60, Try.ntmps60
  go_wp2
  go_ret
  exact ⟨rfl, rfl⟩
set_option maxRecDepth 100000 in
theorem may_calls (a : Int) (h : DiskIs w base g vb vl d) : Calls Try.prog 60 #[.pointer (some ⟨g, 0, none⟩), .int .i64 a] w fun e w' => e = .returned (.int .i64 (mayD d a)) ∧ w' = w := by
  have hu78 := Try.underlying78
  obtain ⟨A, c, rfl, _⟩ := own_slice h.2.2.1
  have c0 := (blk_cell h.2.1 0).trans rfl
  have c4 := (blk_cell h.2.1 4).trans rfl
  clear h
  unfold mayD
  cases hd : d.down with
  | true =>
    rw [hd] at c4
    go_enter Try.func60, Try.ntmps60
    go_wp2
    go_ret
    exact ⟨rfl, rfl⟩
  | false =>
    rw [hd] at c4
    by_cases h0 : a < 0
    · have b0 : decide (a < 0) = true := decide_eq_true h0
      rw [if_neg (by decide), if_pos (Or.inl h0)]
      go_enter Try.func60, Try.ntmps60
      go_wp2
      go_ret
      exact ⟨rfl, rfl⟩
    · have b0 : decide (a < 0) = false := decide_eq_false h0
      by_cases h1 : a ≥ (d.blocks.length : Int)
      · have b1 : decide ((d.blocks.length : Int) ≤ a) = true := decide_eq_true h1
        rw [if_neg (by decide), if_pos (Or.inr h1)]
        go_enter Try.func60, Try.ntmps60
        go_wp2
        go_ret
        exact ⟨rfl, rfl⟩
      · have b1 : decide ((d.blocks.length : Int) ≤ a) = false := decide_eq_false h1
        rw [if_neg (by decide), if_neg (by omega)]
        go_enter Try.func60, Try.ntmps60
        go_wp2
        go_ret
        exact ⟨rfl, rfl⟩
end
end Go.Proofs.Ytgageigcjeaenaa.Disk
