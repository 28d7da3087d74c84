/- Disks: contracts and laws, walked by hand. No condition beside those that each theorem names. -/
import Derived.Test.YtgageigcjeaenaaGMid
namespace Go.Proofs.Ytgageigcjeaenaa.Disk
open Go.RowKit Go.Proofs.YtgageigcjeaenaaW.PrintWords Go.Proofs.YtgageigcjeaenaaW.PrintLast Go.Proofs.YtgageigcjeaenaaW.PrintMore Go.Proofs.Ytgageigcjeaenaa.MixBase Go.Proofs.Ytgageigcjeaenaa.MixPlain Go.Proofs.Ytgageigcjeaenaa.NumBase Go.Proofs.Ytgageigcjeaenaa.PadPlain
attribute [local go_sem] max2_int min2_int max_two min_two max_three min_three max_four min_four
set_option linter.unusedVariables false
set_option linter.unusedSimpArgs false
section
variable {w : World} {base g : Nat} {vb vl : Value} {d : Dk}
theorem RefIs.put (h : RefIs w base g vb vl d) {w' : World} {left' : Int} {told' down' : Bool} (hg : w'.heap[g]? = some (.cells #[vb, vl, .bool told', .int .i64 left', .bool down'] 39 (0, 0))) (hm : Moved w w' (fun k => k = g)) : RefIs w' base g vb vl ⟨d.blocks, d.log, left', told', down'⟩ :=
  ⟨h.1, hg, hm.own h.2.2.1 (own_ne h.2.2.1 h.2.1 (by decide)), hm.own h.2.2.2 (own_ne h.2.2.2 h.2.1 (by decide))⟩
theorem RefCut_calls (n : Int) (h : RefIs w base g vb vl d) : Calls Try.prog 15 #[.pointer (some ⟨g, 0, none⟩), .int .i64 n] w fun e w' => e = .returned (.tuple #[]) ∧ RefIs w' base g vb vl (cutD d n) ∧ Moved w w' (fun k => k = g) := by
  have hu39 := Try.underlying39
  have c2 := (blk_cell h.2.1 2).trans rfl
  have c3 := (blk_cell h.2.1 3).trans rfl
  have f2 := blk_frozen h.2.1 2
  have f3 := blk_frozen h.2.1 3
  have HD := Aside0.mk h
  clear h
  go_enter Try.func15, Try.ntmps15
  go_wp2
  go_end0
  have hm : Moved w ((w.setCell ⟨g, 2, none⟩ (.bool (decide (n ≥ 0)))).setCell ⟨g, 3, none⟩ (.int .i64 n)) (fun k => k = g) := Moved.trans (Moved.set (S := fun k => k = g) rfl _) (Moved.set (S := fun k => k = g) rfl _)
  exact ⟨rfl, HD.out.put (blk_put (blk_put HD.out.2.1 2 _ rfl) 3 _ rfl) hm, hm⟩
theorem RefRestore_calls (h : RefIs w base g vb vl d) : Calls Try.prog 59 #[.pointer (some ⟨g, 0, none⟩)] w fun e w' => e = .returned (.tuple #[]) ∧ RefIs w' base g vb vl (restoreD d) ∧ Moved w w' (fun k => k = g) := by
  have hu39 := Try.underlying39
  have c2 := (blk_cell h.2.1 2).trans rfl
  have c4 := (blk_cell h.2.1 4).trans rfl
  have f2 := blk_frozen h.2.1 2
  have f4 := blk_frozen h.2.1 4
  have HD := Aside0.mk h
  clear h
  go_enter Try.func59, Try.ntmps59
  go_wp2
  go_end0
  have hm : Moved w ((w.setCell ⟨g, 2, none⟩ (.bool false)).setCell ⟨g, 4, none⟩ (.bool false)) (fun k => k = g) := Moved.trans (Moved.set (S := fun k => k = g) rfl _) (Moved.set (S := fun k => k = g) rfl _)
  exact ⟨rfl, HD.out.put (blk_put (blk_put HD.out.2.1 2 _ rfl) 4 _ rfl) hm, hm⟩
theorem may_bad {a : Int} (h : ¬ mayD d a = 0) : (d.down = true ∧ mayD d a = 17) ∨ (d.down = false ∧ a < 0 ∧ mayD d a = 1) ∨ (d.down = false ∧ ¬ a < 0 ∧ a ≥ (d.blocks.length : Int) ∧ mayD d a = 1) := by
  unfold mayD at *
  cases hd : d.down with
  | true => exact Or.inl ⟨rfl, rfl⟩
  | false =>
    rw [hd, if_neg (by decide)] at h
    rw [if_neg (by decide)]
    by_cases h1 : a < 0
    · exact Or.inr (Or.inl ⟨rfl, h1, if_pos (Or.inl h1)⟩)
    · by_cases h2 : a ≥ (d.blocks.length : Int)
      · exact Or.inr (Or.inr ⟨rfl, h1, h2, if_pos (Or.inr h2)⟩)
      · rw [if_neg (by omega)] at h
        exact absurd rfl h
set_option maxRecDepth 100000 in
theorem RefRead_calls (a : Int) (h : RefIs w base g vb vl d) : Calls Try.prog 48 #[.pointer (some ⟨g, 0, none⟩), .int .i64 a] w fun e w' => e = .returned (.tuple #[.string (readD d a).1, .int .i64 (readD d a).2]) ∧ w' = w := by
  have hu39 := Try.underlying39
  have c4 := (blk_cell h.2.1 4).trans rfl
  by_cases h0 : mayD d a = 0
  · obtain ⟨hd, ha, hb⟩ := may_zero h0
    rw [hd] at c4
    obtain ⟨bb, c, cur, rfl, _, hh, hc, hat⟩ := own_form h.2.2.1 (by omega)
    have c0 := (blk_cell h.2.1 0).trans rfl
    have q := (blk_cell hh a.toNat).trans ((hat a.toNat (by omega)).trans (strs_at d.blocks a.toNat (by omega)))
    have b0 : decide (a < 0) = false := decide_eq_false (by omega)
    have b1 : decide ((d.blocks.length : Int) ≤ a) = false := decide_eq_false (by omega)
    unfold readD
    rw [if_pos h0]
    generalize d.blocks.getD a.toNat ⟨#[]⟩ = x at q ⊢
    clear h hh hat h0
    go_enter Try.func48, Try.ntmps48
    go_wp2
    go_ret2
    exact ⟨rfl, rfl⟩
  · unfold readD
    rw [if_neg h0]
    obtain ⟨A, c, rfl, _⟩ := own_slice h.2.2.1
    have c0 := (blk_cell h.2.1 0).trans rfl
    rcases may_bad h0 with ⟨hd, e⟩ | ⟨hd, ha, e⟩ | ⟨hd, ha, hb, e⟩
    · rw [hd] at c4
      rw [e]
      clear h h0 hd e
      go_enter Try.func48, Try.ntmps48
      go_wp2
      go_ret2
      exact ⟨rfl, rfl⟩
    · rw [hd] at c4
      rw [e]
      have b0 : decide (a < 0) = true := decide_eq_true ha
      clear h h0 hd e
      go_enter Try.func48, Try.ntmps48
      go_wp2
      go_ret2
      exact ⟨rfl, rfl⟩
    · rw [hd] at c4
      rw [e]
      have b0 : decide (a < 0) = false := decide_eq_false ha
      have b1 : decide ((d.blocks.length : Int) ≤ a) = true := decide_eq_true hb
      clear h h0 hd e
      go_enter Try.func48, Try.ntmps48
      go_wp2
      go_ret2
      exact ⟨rfl, rfl⟩
theorem RefIs.setBlock {bb c : Nat} {n : Nat} (h : RefIs w base g (.slice (some ⟨bb, 0, none⟩) n c) vl d) (i : Nat) (s : ByteArray) :
    RefIs (w.setCell ⟨bb, i, none⟩ (.string s)) base g (.slice (some ⟨bb, 0, none⟩) n c) vl ⟨d.blocks.set i s, d.log, d.left, d.told, d.down⟩ := by
  have hn : d.blocks.length = n := by
    rcases h.2.2.1.2 with ⟨e, _⟩ | ⟨_, _, _, e, _⟩
    · cases e
    · injection e with _ e; exact e.symm
  obtain ⟨ho, hgr⟩ := World.ownsRow.stored (hn ▸ h.2.2.1) i (.string s)
  have hgb : bb ≠ g := own_ne h.2.2.1 h.2.1 (by decide) bb rfl
  have hlb : ∀ k, vl.ownBlock = some k → k ≠ bb := fun k hk e => own_apart h.2.2.2 h.2.2.1 (by decide) k hk (by rw [e]; rfl)
  have hm : Moved w (w.setCell ⟨bb, i, none⟩ (.string s)) (fun k => k = bb) := Moved.set (S := fun k => k = bb) rfl _
  refine ⟨h.1, hm.block h.2.1 (fun e => hgb e.symm), ?_, hm.own h.2.2.2 (fun k hk => hlb k hk)⟩
  show World.ownsRow _ base 9 1 _ (d.blocks.set i s).length (strs (d.blocks.set i s))
  rw [List.length_set, hn, show strs (d.blocks.set i s) = (strs d.blocks).set i (.string s) by simp [strs, List.map_set]]
  exact ho
theorem RefIs.logged {w1 : World} {v1 : Value} (h : RefIs w base g vb vl d) (p : Pg) (ho : w1.ownsRow base 62 2 v1 (d.log.length + 1) (pgs d.log ++ [.int .i64 p.at_, .string p.data])) (hg : w.grownBy w1 vl.ownBlock) :
    RefIs (w1.setCell ⟨g, 1, none⟩ v1) base g vb v1 ⟨d.blocks, d.log ++ [p], d.left, d.told, d.down⟩ := by
  have hm : Moved w w1 (fun k => vl.ownBlock = some k) := Moved.of_grown hg (fun k hk => hk.symm)
  have h1 := hm.block h.2.1 (fun e => own_ne h.2.2.2 h.2.1 (by decide) g e rfl)
  have h2 := hm.own h.2.2.1 (fun k hk hk' => own_apart h.2.2.1 h.2.2.2 (by decide) k hk hk')
  have hs : Moved w1 (w1.setCell ⟨g, 1, none⟩ v1) (fun k => k = g) := Moved.set (S := fun k => k = g) rfl _
  refine ⟨h.1, blk_put h1 1 v1 rfl, hs.own h2 (own_ne h2 h1 (by decide)), ?_⟩
  have h3 := hs.own ho (own_ne ho h1 (by decide))
  rw [List.length_append, List.length_singleton, pgs_snoc]
  exact h3
set_option maxRecDepth 100000 in
set_option maxHeartbeats 2000000 in
theorem RefWrite_calls (a : Int) (s : ByteArray) (h : RefIs w base g vb vl d) (hlog : (d.log.length + 1) * 24 ≤ 140737488355328) : Calls Try.prog 58 #[.pointer (some ⟨g, 0, none⟩), .int .i64 a, .string s] w fun e w' => ∃ vl', e = .returned (.int .i64 (writeD d a s).2) ∧ RefIs w' base g vb vl' (writeD d a s).1 ∧ (vl'.ownBlock = vl.ownBlock ∨ ∃ b, vl'.ownBlock = some b ∧ w.heap.size ≤ b) ∧ Moved w w' (Foot g vb vl) := by
  have hu39 := Try.underlying39
  have hu62 := Try.underlying62
  have HD := Aside0.mk h
  have c4 := (blk_cell h.2.1 4).trans rfl
  by_cases h0 : mayD d a = 0
  case neg =>
    unfold writeD
    rw [if_neg h0]
    obtain ⟨A, c, rfl, _⟩ := own_slice h.2.2.1
    have c0 := (blk_cell h.2.1 0).trans rfl
    rcases may_bad h0 with ⟨hd, e⟩ | ⟨hd, ha, e⟩ | ⟨hd, ha, hb, e⟩
    · rw [hd] at c4
      rw [e]
      clear h h0 hd e
      go_enter Try.func58, Try.ntmps58
      go_wp2
      go_ret
      first | exact ⟨vl, rfl, HD.out, Or.inl rfl, Moved.refl _ _⟩ | exact ⟨rfl, vl, HD.out, Or.inl rfl, Moved.refl _ _⟩
    · rw [hd] at c4
      rw [e]
      have b0 : decide (a < 0) = true := decide_eq_true ha
      clear h h0 hd e
      go_enter Try.func58, Try.ntmps58
      go_wp2
      go_ret
      first | exact ⟨vl, rfl, HD.out, Or.inl rfl, Moved.refl _ _⟩ | exact ⟨rfl, vl, HD.out, Or.inl rfl, Moved.refl _ _⟩
    · rw [hd] at c4
      rw [e]
      have b0 : decide (a < 0) = false := decide_eq_false ha
      have b1 : decide ((d.blocks.length : Int) ≤ a) = true := decide_eq_true hb
      clear h h0 hd e
      go_enter Try.func58, Try.ntmps58
      go_wp2
      go_ret
      first | exact ⟨vl, rfl, HD.out, Or.inl rfl, Moved.refl _ _⟩ | exact ⟨rfl, vl, HD.out, Or.inl rfl, Moved.refl _ _⟩
  obtain ⟨hdn, ha, hb⟩ := may_zero h0
  rw [hdn] at c4
  have b00 : decide (a < 0) = false := decide_eq_false (by omega)
  have b01 : decide ((d.blocks.length : Int) ≤ a) = false := decide_eq_false (by omega)
  unfold writeD
  rw [if_pos h0]
  obtain ⟨Al, cl, rfl, _⟩ := own_slice h.2.2.2
  obtain ⟨bb, c, cur, rfl, hbb, hh, hc, hat⟩ := own_form h.2.2.1 (by omega)
  have c0 := (blk_cell h.2.1 0).trans rfl
  by_cases hs : s.size = 256
  case neg =>
    have b1 : ((s.size : Int) != 256) = true := bne_iff_ne.2 (by omega)
    rw [if_neg hs]
    clear h h0 ha hb hs hh hat
    go_enter Try.func58, Try.ntmps58
    go_wp2
    go_ret
    exact ⟨_, rfl, HD.out, Or.inl rfl, Moved.refl _ _⟩
  have b1 : ((s.size : Int) != 256) = false := bne_eq_false_iff_eq.2 (by omega)
  rw [if_pos hs]
  have c1 := (blk_cell h.2.1 1).trans rfl
  have c2 := (blk_cell h.2.1 2).trans rfl
  have c3 := (blk_cell h.2.1 3).trans rfl
  have f1 := blk_frozen h.2.1 1
  have f3 := blk_frozen h.2.1 3
  have f4 := blk_frozen h.2.1 4
  have q := (blk_cell hh a.toNat).trans ((hat a.toNat (by omega)).trans (strs_at d.blocks a.toNat (by omega)))
  have fq := blk_frozen hh a.toNat
  have hgb : g ≠ bb := fun e => own_ne h.2.2.1 h.2.1 (by decide) bb rfl e.symm
  have hbg : bb ≠ g := fun e => hgb e.symm
  have HL := Aside0.mk hlog
  generalize d.blocks.getD a.toNat ⟨#[]⟩ = x at q
  have hbs : base ≤ w.heap.size := Nat.le_of_lt (Nat.lt_of_le_of_lt h.1 (blk_lt h.2.1))
  clear h h0 hh hat hs hlog
  cases ht : d.told with
  | true =>
    rw [ht] at c2
    by_cases hl : d.left = 0
    · rw [if_pos ⟨rfl, hl⟩]
      have hlb : (d.left == 0) = true := beq_iff_eq.2 hl
      have HBb := Aside0.mk hbb
      clear hl ha hb hbs hbb
      go_enter Try.func58, Try.ntmps58
      go_wp2
      go_ret
      have hm : Moved w (w.setCell ⟨g, 4, none⟩ (.bool true)) (fun k => k = g) := Moved.set (S := fun k => k = g) rfl _
      have hD := HD.out.put (told' := d.told) (down' := true) (blk_put HD.out.2.1 4 _ rfl) hm
      rw [ht] at hD
      exact ⟨_, rfl, hD, Or.inl rfl, hm.mono (fun k _ hk => Or.inl hk)⟩
    · rw [if_neg (fun e => hl e.2)]
      have hlb : (d.left == 0) = false := beq_eq_false_iff_ne.2 hl
      have D1 := Aside0.mk (HD.out.put (w' := w.setCell ⟨g, 3, none⟩ (.int .i64 (wrap64 (d.left - 1)))) (left' := wrap64 (d.left - 1)) (told' := d.told) (down' := d.down) (blk_put HD.out.2.1 3 _ rfl) (Moved.set (S := fun k => k = g) rfl _))
      have D2 := Aside0.mk (D1.out.setBlock a.toNat s)
      have HBs : Aside0 (base ≤ ((w.setCell ⟨g, 3, none⟩ (.int .i64 (wrap64 (d.left - 1)))).setCell ⟨bb, a.toNat, none⟩ (.string s)).heap.size) := ⟨by simpa [World.setCell] using hbs⟩
      clear hl hbb hbs
      go_enter Try.func58, Try.ntmps58
      go_wp2_with (((with_reducible refine gate_builtin (b := .append) (xs := #[.tmp 61, .tmp 65]) rfl ?_); at_builtin; refine print_append_cells (w0 := (w.setCell ⟨g, 3, none⟩ (.int .i64 (wrap64 (d.left - 1)))).setCell ⟨bb, a.toNat, none⟩ (.string s)) base rfl (.tmp 61) (.tmp 65) 35 62 (.agg #[(.int .i64 0), (.string ⟨#[]⟩)]) 2 24 rfl Try.underlying35 info62 rfl (by decide) (by decide) (.slice Al d.log.length cl) d.log.length (pgs d.log) [.int .i64 a, .string s] rfl (by first | rfl | (simp [World.setCell]; done) | (show Value.slice (some ⟨w.heap.size, 0, none⟩) 1 1 = _; simp [World.setCell])) rfl (by intro u hu; simp at hu; rcases hu with rfl | rfl <;> rfl) D2.out.2.2.2 (Below.refl _ _) HBs.out HL.out ?_; intro v1 w3 ho _ hg hat; have hm3 := Moved.of_grown (S := fun k => (Value.slice Al d.log.length cl).ownBlock = some k) hg (fun k hk => hk.symm); have h1 := hm3.block D2.out.2.1 (fun e => own_ne D2.out.2.2.2 D2.out.2.1 (by decide) g e rfl); obtain ⟨A1, c1, e1, _⟩ := own_slice ho; subst e1; have HO := Aside0.mk ho; have HG := Aside0.mk hg; have HAt := Aside0.mk hat; have HM3 := Aside0.mk hm3; have z1 := (blk_cell h1 1).trans rfl; have z1f := blk_frozen h1 1; clear ho hg hat hm3 h1))
      go_ret
      have hD := D2.out.logged ⟨a, s⟩ HO.out HG.out
      unfold putD
      rw [if_pos ht]
      refine ⟨rfl, _, hD, ?_, ?_⟩
      · rcases HAt.out with e | ⟨b, e, hb'⟩
        · exact Or.inl e
        · exact Or.inr ⟨b, e, by simpa [World.setCell] using hb'⟩
      · refine Moved.trans (Moved.trans (Moved.trans (Moved.set (j := 3) (Or.inl rfl) _) (Moved.set (j := a.toNat) (Or.inr (Or.inl rfl)) _)) (HM3.out.mono (fun k _ hk => Or.inr (Or.inr hk)))) (Moved.set (Or.inl rfl) _)
  | false =>
    rw [ht] at c2
    rw [if_neg (fun e => by cases e.1)]
    have D2 := Aside0.mk (HD.out.setBlock a.toNat s)
    have HBs : Aside0 (base ≤ (w.setCell ⟨bb, a.toNat, none⟩ (.string s)).heap.size) := ⟨by simpa [World.setCell] using hbs⟩
    clear hbb hbs
    go_enter Try.func58, Try.ntmps58
    go_wp2_with (((with_reducible refine gate_builtin (b := .append) (xs := #[.tmp 61, .tmp 65]) rfl ?_); at_builtin; refine print_append_cells (w0 := w.setCell ⟨bb, a.toNat, none⟩ (.string s)) base rfl (.tmp 61) (.tmp 65) 35 62 (.agg #[(.int .i64 0), (.string ⟨#[]⟩)]) 2 24 rfl Try.underlying35 info62 rfl (by decide) (by decide) (.slice Al d.log.length cl) d.log.length (pgs d.log) [.int .i64 a, .string s] rfl (by first | rfl | (simp [World.setCell]; done) | (show Value.slice (some ⟨w.heap.size, 0, none⟩) 1 1 = _; simp [World.setCell])) rfl (by intro u hu; simp at hu; rcases hu with rfl | rfl <;> rfl) D2.out.2.2.2 (Below.refl _ _) HBs.out HL.out ?_; intro v1 w3 ho _ hg hat; have hm3 := Moved.of_grown (S := fun k => (Value.slice Al d.log.length cl).ownBlock = some k) hg (fun k hk => hk.symm); have h1 := hm3.block D2.out.2.1 (fun e => own_ne D2.out.2.2.2 D2.out.2.1 (by decide) g e rfl); obtain ⟨A1, c1, e1, _⟩ := own_slice ho; subst e1; have HO := Aside0.mk ho; have HG := Aside0.mk hg; have HAt := Aside0.mk hat; have HM3 := Aside0.mk hm3; have z1 := (blk_cell h1 1).trans rfl; have z1f := blk_frozen h1 1; clear ho hg hat hm3 h1))
    go_ret
    have hD := D2.out.logged ⟨a, s⟩ HO.out HG.out
    unfold putD
    rw [if_neg (by rw [ht]; decide)]
    refine ⟨rfl, _, hD, ?_, ?_⟩
    · rcases HAt.out with e | ⟨b, e, hb'⟩
      · exact Or.inl e
      · exact Or.inr ⟨b, e, by simpa [World.setCell] using hb'⟩
    · refine Moved.trans (Moved.trans (Moved.set (j := a.toNat) (Or.inr (Or.inl rfl)) _) (HM3.out.mono (fun k _ hk => Or.inr (Or.inr hk)))) (Moved.set (Or.inl rfl) _)
end
end Go.Proofs.Ytgageigcjeaenaa.Disk
namespace Go.Proofs.Ytgageigcjeaenaa.Disk
open Go.RowKit Go.Proofs.YtgageigcjeaenaaW.PrintWords Go.Proofs.YtgageigcjeaenaaW.PrintLast Go.Proofs.YtgageigcjeaenaaW.PrintMore Go.Proofs.Ytgageigcjeaenaa.MixBase Go.Proofs.Ytgageigcjeaenaa.MixPlain Go.Proofs.Ytgageigcjeaenaa.NumBase Go.Proofs.Ytgageigcjeaenaa.PadPlain
attribute [local go_sem] max2_int min2_int max_two min_two max_three min_three max_four min_four
set_option linter.unusedVariables false
set_option linter.unusedSimpArgs false
/-- The document's disk, in a world that has gone on from W. -/
def RSt (W w : World) (g : Nat) (vb vl : Value) (d : Dk) : Prop := RefIs w W.heap.size g vb vl d ∧ Below W.heap.size W w
section
variable {W w w' : World} {g h : Nat} {vb vl ub ul : Value} {d : Dk}
theorem RSt.moved (h : RSt W w g vb vl d) {S : Nat → Prop} (hm : Moved w w' S) (hn : ∀ k, Foot g vb vl k → ¬ S k) (hs : ∀ k, k < w.heap.size → S k → W.heap.size ≤ k) : RSt W w' g vb vl d :=
  ⟨h.1.moved hm hn, hm.below h.2 h.2.size hs⟩
theorem RSt.foot (h : RSt W w g vb vl d) {k : Nat} (hk : Foot g vb vl k) : W.heap.size ≤ k ∧ k < w.heap.size := h.1.foot_lt hk
/-- Both disks, told alike, apart from each other. -/
def Two (W w : World) (g : Nat) (vb vl : Value) (h : Nat) (ub ul : Value) (d : Dk) : Prop := St W w g vb vl d ∧ RSt W w h ub ul d ∧ ∀ k, Foot g vb vl k → ¬ Foot h ub ul k
theorem Two.below (t : Two W w g vb vl h ub ul d) (hb : Below w.heap.size w w') : Two W w' g vb vl h ub ul d :=
  ⟨t.1.below hb, t.2.1.moved (Moved.of_below hb (fun _ => False)) (fun _ _ h => h) (fun _ _ h => h.elim), t.2.2⟩
/-- Half done: the program's disk is ahead of the document's. -/
def Half (W w : World) (g : Nat) (vb vl : Value) (h : Nat) (ub ul : Value) (d1 d2 : Dk) : Prop := St W w g vb vl d1 ∧ RSt W w h ub ul d2 ∧ ∀ k, Foot g vb vl k → ¬ Foot h ub ul k
theorem Half.below {d1 d2 : Dk} (t : Half W w g vb vl h ub ul d1 d2) (hb : Below w.heap.size w w') : Half W w' g vb vl h ub ul d1 d2 :=
  ⟨t.1.below hb, t.2.1.moved (Moved.of_below hb (fun _ => False)) (fun _ _ h => h) (fun _ _ h => h.elim), t.2.2⟩
theorem Write_two (a : Int) (s : ByteArray) (t : Two W w g vb vl h ub ul d) (hlog : (d.log.length + 1) * 24 ≤ 140737488355328) : Calls Try.prog 30 #[.pointer (some ⟨g, 0, none⟩), .int .i64 a, .string s] w fun e w' => ∃ vl', e = .returned (.int .i64 (writeD d a s).2) ∧ Half W w' g vb vl' h ub ul (writeD d a s).1 d ∧ Moved w w' (Foot g vb vl) :=
  (Write_st a s t.1 hlog).mono fun e w' ⟨vl', e1, h1, h2, h3⟩ => ⟨vl', e1, ⟨h1, t.2.1.moved h3 (fun k hk hf => t.2.2 k hf hk) (fun k _ hk => (t.1.foot hk).1), fun k hk hf => by
    rcases h2 k hk with h | h
    · exact t.2.2 k h hf
    · have := (t.2.1.foot hf).2
      omega⟩, h3⟩
theorem RefWrite_half (a : Int) (s : ByteArray) {d1 : Dk} (t : Half W w g vb vl h ub ul d1 d) (hlog : (d.log.length + 1) * 24 ≤ 140737488355328) : Calls Try.prog 58 #[.pointer (some ⟨h, 0, none⟩), .int .i64 a, .string s] w fun e w' => ∃ ul', e = .returned (.int .i64 (writeD d a s).2) ∧ Half W w' g vb vl h ub ul' d1 (writeD d a s).1 ∧ Moved w w' (Foot h ub ul) :=
  (RefWrite_calls a s t.2.1.1 hlog).mono fun e w' ⟨ul', e1, h1, h2, h3⟩ => ⟨ul', e1, ⟨t.1.moved h3 (fun k hk hf => t.2.2 k hk hf) (fun k _ hk => (t.2.1.foot hk).1), ⟨h1, h3.below t.2.1.2 t.2.1.2.size (fun k _ hk => (t.2.1.foot hk).1)⟩, fun k hk hf => by
    rcases hf with hf | hf | hf
    · exact t.2.2 k hk (Or.inl hf)
    · exact t.2.2 k hk (Or.inr (Or.inl hf))
    · rcases h2 with e | ⟨b, e, hb⟩
      · exact t.2.2 k hk (Or.inr (Or.inr (e ▸ hf)))
      · rw [e] at hf
        injection hf with hf
        have := (t.1.foot hk).2
        omega⟩, h3⟩
theorem Cut_two (n : Int) (t : Two W w g vb vl h ub ul d) : Calls Try.prog 14 #[.pointer (some ⟨g, 0, none⟩), .int .i64 n] w fun e w' => e = .returned (.tuple #[]) ∧ Half W w' g vb vl h ub ul (cutD d n) d ∧ Moved w w' (Foot g vb vl) :=
  (Cut_st n t.1).mono fun e w' ⟨e1, h1, h3⟩ => ⟨e1, ⟨h1, t.2.1.moved h3 (fun k hk hf => t.2.2 k hf hk) (fun k _ hk => (t.1.foot hk).1), t.2.2⟩, h3⟩
theorem RefCut_half (n : Int) {d1 : Dk} (t : Half W w g vb vl h ub ul d1 d) : Calls Try.prog 15 #[.pointer (some ⟨h, 0, none⟩), .int .i64 n] w fun e w' => e = .returned (.tuple #[]) ∧ Half W w' g vb vl h ub ul d1 (cutD d n) :=
  (RefCut_calls n t.2.1.1).mono fun e w' ⟨e1, h1, h3⟩ => ⟨e1, t.1.moved h3 (fun k hk hf => t.2.2 k hk (Or.inl hf)) (fun k _ hk => hk ▸ t.2.1.1.1), ⟨h1, h3.below t.2.1.2 t.2.1.2.size (fun k _ hk => hk ▸ t.2.1.1.1)⟩, t.2.2⟩
theorem Restore_two (t : Two W w g vb vl h ub ul d) : Calls Try.prog 32 #[.pointer (some ⟨g, 0, none⟩)] w fun e w' => e = .returned (.tuple #[]) ∧ Half W w' g vb vl h ub ul (restoreD d) d :=
  (Restore_st t.1).mono fun e w' ⟨e1, h1, h3⟩ => ⟨e1, h1, t.2.1.moved h3 (fun k hk hf => t.2.2 k hf hk) (fun k _ hk => (t.1.foot hk).1), t.2.2⟩
theorem RefRestore_half {d1 : Dk} (t : Half W w g vb vl h ub ul d1 d) : Calls Try.prog 59 #[.pointer (some ⟨h, 0, none⟩)] w fun e w' => e = .returned (.tuple #[]) ∧ Half W w' g vb vl h ub ul d1 (restoreD d) :=
  (RefRestore_calls t.2.1.1).mono fun e w' ⟨e1, h1, h3⟩ => ⟨e1, t.1.moved h3 (fun k hk hf => t.2.2 k hk (Or.inl hf)) (fun k _ hk => hk ▸ t.2.1.1.1), ⟨h1, h3.below t.2.1.2 t.2.1.2.size (fun k _ hk => hk ▸ t.2.1.1.1)⟩, t.2.2⟩
end
theorem refnew_push {w : World} {base g : Nat} {vb : Value} {i : Nat} {z : ByteArray} {w1 : World} {v1 : Value} (h : RefIs w base g vb (.slice none 0 0) ⟨List.replicate i z, [], 0, false, false⟩) (ho : w1.ownsRow base 9 1 v1 (i + 1) (strs (List.replicate i z) ++ [.string z])) (hg : w.grownBy w1 vb.ownBlock) :
    RefIs (w1.setCell ⟨g, 0, none⟩ v1) base g v1 (.slice none 0 0) ⟨List.replicate (i + 1) z, [], 0, false, false⟩ := by
  have hm : Moved w w1 (fun k => vb.ownBlock = some k) := Moved.of_grown hg (fun k hk => hk.symm)
  have h1 := hm.block h.2.1 (fun e => own_ne h.2.2.1 h.2.1 (by decide) g e rfl)
  have hs : Moved w1 (w1.setCell ⟨g, 0, none⟩ v1) (fun k => k = g) := Moved.set (S := fun k => k = g) rfl _
  refine ⟨h.1, blk_put h1 0 v1 rfl, ?_, own_none _ _ _⟩
  have h3 := hs.own ho (own_ne ho h1 (by decide))
  show World.ownsRow _ _ 9 1 _ (List.replicate (i + 1) z).length (strs (List.replicate (i + 1) z))
  rw [List.length_replicate, show strs (List.replicate (i + 1) z) = strs (List.replicate i z) ++ [.string z] by simp [strs, List.replicate_succ']]
  exact h3
set_option maxRecDepth 100000 in
theorem RefNew_bad (a : Int) (h : ¬ (64 ≤ a ∧ a ≤ 2048)) (w : World) : Calls Try.prog 28 #[.int .i64 a] w fun e w' => e = .returned (.pointer none) ∧ w' = w := by
  by_cases h1 : a < 64
  · have b1 : decide (a < 64) = true := decide_eq_true h1
    clear h h1
    go_enter Try.func28, Try.ntmps28
    go_wp2
    go_ret
    exact ⟨rfl, rfl⟩
  · have b1 : decide (a < 64) = false := decide_eq_false h1
    have b2 : decide (2048 < a) = true := decide_eq_true (by omega)
    clear h h1
    go_enter Try.func28, Try.ntmps28
    go_wp2
    go_ret
    exact ⟨rfl, rfl⟩
set_option maxRecDepth 100000 in
set_option maxHeartbeats 2000000 in
theorem RefNew_calls (n : Nat) (h1 : 64 ≤ n) (h2 : n ≤ 2048) (w : World) : Calls Try.prog 28 #[.int .i64 (n : Int)] w fun e w' => ∃ g vb, e = .returned (.pointer (some ⟨g, 0, none⟩)) ∧ RefIs w' w.heap.size g vb (.slice none 0 0) (newD n) ∧ Below w.heap.size w w' := by
  have hu39 := Try.underlying39
  have b1 : decide ((n : Int) < 64) = false := decide_eq_false (by omega)
  have b2 : decide (2048 < (n : Int)) = false := decide_eq_false (by omega)
  have H2 := Aside0.mk h2
  clear h1 h2
  go_enter Try.func28, Try.ntmps28
  go_wp2_with (first
    | ((with_reducible refine gate_dst (N := 13) rfl ?_); refine box_event ?hg (N := 13) ?hd (cs := #[.slice none 0 0, .slice none 0 0, .bool false, .int .i64 0, .bool false]) (t := 39) ?hr ?_; (case hd => rfl); (case hg => rfl); (case hr => first | (go_simp; done) | (go_simp; rfl)); intro g hg wb hbox hb; have R0 : Aside0 (RefIs wb w.heap.size g (.slice none 0 0) (.slice none 0 0) ⟨List.replicate 0 (zeros 256), [], 0, false, false⟩) := ⟨⟨Nat.le_of_eq hg.symm, hbox, own_none _ _ _, own_none _ _ _⟩⟩; have HB0 := Aside0.mk hb; clear hbox hb hg)
    | (go_at_call 37; refine (Zeros_calls 256 (by decide) _).mono ?_; rintro e wk ⟨rfl, hb⟩; have R1 := Aside0.mk (R0.out.moved (Moved.of_below hb (fun _ => False)) (fun _ _ h => h)); have HB1 := Aside0.mk (below_step HB0.out hb); clear hb))
  go_loopg [5] n (fun kq v5 wr => ∃ (i : Nat) (vb : Value), v5 = .int .i64 (i : Int) ∧ i ≤ n ∧ Aside0 (kq = n - i) ∧ Aside0 (RefIs wr w.heap.size g vb (.slice none 0 0) ⟨List.replicate i (zeros 256), [], 0, false, false⟩) ∧ Aside0 (Below w.heap.size w wr))
  case atStart => exact ⟨0, _, rfl, Nat.zero_le _, ⟨rfl⟩, R1, HB1⟩
  case round =>
    clear R0 R1 HB0 HB1
    obtain ⟨i, vb, rfl, hi, hkq, R, HB⟩ := hrel
    have hown := R.out.2.2.1
    rw [List.length_replicate] at hown
    obtain ⟨A, c, rfl, _⟩ := own_slice hown
    by_cases hil : i < n
    · have hi0 : 0 ≤ (i : Int) := by omega
      have hiz : (i : Int) < (n : Int) := by omega
      have HI : Aside0 (i < 2048) := ⟨by have := H2.out; omega⟩
      have c0 := (blk_cell R.out.2.1 0).trans rfl
      have HO := Aside0.mk hown
      have HBs : Aside0 (w.heap.size ≤ wr.heap.size) := ⟨HB.out.size⟩
      clear hown
      go_wp2_with ((with_reducible refine gate_builtin (b := .append) (xs := #[.tmp 24, .tmp 26]) rfl ?_); at_builtin; refine print_append_cells (w0 := wr) w.heap.size rfl (.tmp 24) (.tmp 26) 37 9 (.string ⟨#[]⟩) 1 16 rfl Try.underlying37 info9 rfl (by decide) (by decide) (.slice A i c) i (strs (List.replicate i (zeros 256))) [.string (zeros 256)] rfl rfl rfl (by intro u hu; simp at hu; subst hu; rfl) HO.out (Below.refl _ _) HBs.out (by have := HI.out; omega) ?_; intro v1 w3 ho hb hg _; obtain ⟨A1, c1, e1, _⟩ := own_slice ho; subst e1; have h1 := (Moved.of_grown (S := fun k => (Value.slice A i c).ownBlock = some k) hg (fun k hk => hk.symm)).block R.out.2.1 (fun e => own_ne HO.out R.out.2.1 (by decide) g e rfl); have z0 := (blk_cell h1 0).trans rfl; have z0f := blk_frozen h1 0; have HO3 := Aside0.mk ho; have HG3 := Aside0.mk hg; have HB3 := Aside0.mk ((Moved.of_grown (S := fun k => (Value.slice A i c).ownBlock = some k) hg (fun k hk => hk.symm)).below HB.out HBs.out (fun k _ hk => own_base HO.out k hk)); clear ho hb hg h1)
      go_roundg (n - (i + 1))
      case measure => have := hkq.out; omega
      case rel => exact ⟨i + 1, _, by have := HI.out; first | rfl | (rw [wrap64_small (by omega) (by omega)]; rfl), by omega, ⟨rfl⟩, ⟨refnew_push R.out HO3.out HG3.out⟩, ⟨HB3.out.setCell R.out.1 _⟩⟩
    · obtain rfl : i = n := by omega
      clear hil hi hkq hown
      go_wp2
      go_ret
      exact ⟨_, _, rfl, R.out, HB.out⟩
end Go.Proofs.Ytgageigcjeaenaa.Disk
namespace Go.Proofs.Ytgageigcjeaenaa.Disk
open Go.RowKit Go.Proofs.YtgageigcjeaenaaW.PrintWords Go.Proofs.YtgageigcjeaenaaW.PrintLast Go.Proofs.YtgageigcjeaenaaW.PrintMore Go.Proofs.Ytgageigcjeaenaa.MixBase Go.Proofs.Ytgageigcjeaenaa.MixPlain Go.Proofs.Ytgageigcjeaenaa.NumBase Go.Proofs.Ytgageigcjeaenaa.PadPlain
attribute [local go_sem] max2_int min2_int max_two min_two max_three min_three max_four min_four
set_option linter.unusedVariables false
set_option linter.unusedSimpArgs false
/-- What an act on both leaves: the same answers, both disks told alike. -/
def DoesOk (W w' : World) (g : Nat) (vb : Value) (h : Nat) (ub : Value) (d : Dk) (e : Ending) : Prop := e = .returned (.bool true) ∧ ∃ vl' ul' d', Two W w' g vb vl' h ub ul' d' ∧ d'.log.length ≤ d.log.length + 1 ∧ d'.blocks.length = d.blocks.length
theorem write_len (d : Dk) (a : Int) (s : ByteArray) : (writeD d a s).1.log.length ≤ d.log.length + 1 ∧ (writeD d a s).1.blocks.length = d.blocks.length := by
  unfold writeD
  split
  · split
    · split
      · exact ⟨Nat.le_succ _, rfl⟩
      · refine ⟨?_, ?_⟩
        · show (d.log ++ [_]).length ≤ _
          rw [List.length_append, List.length_singleton]
          exact Nat.le_refl _
        · show (d.blocks.set _ _).length = _
          rw [List.length_set]
    · exact ⟨Nat.le_succ _, rfl⟩
  · exact ⟨Nat.le_succ _, rfl⟩
set_option maxRecDepth 100000 in
set_option maxHeartbeats 8000000 in
theorem does_calls {W w : World} {g h : Nat} {vb vl ub ul : Value} {d : Dk} (e0 : Act3) (t : Two W w g vb vl h ub ul d) (hlog : (d.log.length + 1) * 24 ≤ 140737488355328) : Calls Try.prog 29 #[.pointer (some ⟨g, 0, none⟩), .pointer (some ⟨h, 0, none⟩), .agg #[.int .i64 e0.kind, .int .i64 e0.at_, .string e0.text]] w fun e w' => DoesOk W w' g vb h ub d e := by
  have hu53 := Try.underlying53
  have hu39 := Try.underlying39
  have HT := Aside0.mk t
  have HLg := Aside0.mk hlog
  obtain ⟨K, hK⟩ : ∃ K, kindS e0.kind 8 = K := ⟨_, rfl⟩
  clear t hlog
  by_cases k0 : K = 0
  · have hk0 : (K == 0) = true := beq_iff_eq.2 k0
    clear k0
    go_enter Try.func29, Try.ntmps29
    go_wp2_with (first
      | ((with_reducible refine gate_dst (N := 5) rfl ?_); refine box_event ?hg (N := 5) ?hd (cs := #[.int .i64 e0.kind, .int .i64 e0.at_, .string e0.text]) (t := 53) ?hr ?_; (case hd => rfl); (case hg => rfl); (case hr => first | (go_simp; done) | (go_simp; rfl)); intro b5 hb5 w1 hbox hb; have T1 := Aside0.mk (HT.out.below hb); have BX := Aside0.mk hbox; have HN1 : Aside0 (∀ k, Foot g vb vl k → k ≠ b5) := ⟨fun k hk => by have := (HT.out.1.foot hk).2; omega⟩; have HN2 : Aside0 (∀ k, Foot h ub ul k → k ≠ b5) := ⟨fun k hk => by have := (HT.out.2.1.foot hk).2; omega⟩; have z0 := (blk_cell hbox 0).trans rfl; clear hbox hb hb5)
      | (go_at_call 36; refine (kind_b e0.kind 8 (by decide) (by decide) _).mono ?_; rintro e w2 ⟨rfl, hb⟩; rw [hK]; have T2 := Aside0.mk (T1.out.below hb); have BX2 := Aside0.mk (blk_below BX.out hb); have z1 := (blk_cell BX2.out 1).trans rfl; have z2 := (blk_cell BX2.out 2).trans rfl; clear hb)
      | (go_at_call 33; refine (Read_calls e0.at_ T2.out.1.1).mono ?_; rintro e w3 ⟨rfl, hw⟩; obtain rfl := hw.symm)
      | (go_at_call 48; refine (RefRead_calls e0.at_ T2.out.2.1.1).mono ?_; rintro e w3 ⟨rfl, hw⟩; obtain rfl := hw.symm))
    go_ret
    exact ⟨by first | rfl | simp, vl, ul, d, T2.out, Nat.le_succ _, rfl⟩
  have hk0 : (K == 0) = false := beq_eq_false_iff_ne.2 k0
  by_cases k4 : K = 4
  · have hk4 : (K == 4) = true := beq_iff_eq.2 k4
    clear k0 k4
    go_enter Try.func29, Try.ntmps29
    go_wp2_with (first
      | ((with_reducible refine gate_dst (N := 5) rfl ?_); refine box_event ?hg (N := 5) ?hd (cs := #[.int .i64 e0.kind, .int .i64 e0.at_, .string e0.text]) (t := 53) ?hr ?_; (case hd => rfl); (case hg => rfl); (case hr => first | (go_simp; done) | (go_simp; rfl)); intro b5 hb5 w1 hbox hb; have T1 := Aside0.mk (HT.out.below hb); have BX := Aside0.mk hbox; have HN1 : Aside0 (∀ k, Foot g vb vl k → k ≠ b5) := ⟨fun k hk => by have := (HT.out.1.foot hk).2; omega⟩; have HN2 : Aside0 (∀ k, Foot h ub ul k → k ≠ b5) := ⟨fun k hk => by have := (HT.out.2.1.foot hk).2; omega⟩; have z0 := (blk_cell hbox 0).trans rfl; clear hbox hb hb5)
      | (go_at_call 36; refine (kind_b e0.kind 8 (by decide) (by decide) _).mono ?_; rintro e w2 ⟨rfl, hb⟩; rw [hK]; have T2 := Aside0.mk (T1.out.below hb); have BX2 := Aside0.mk (blk_below BX.out hb); have z1 := (blk_cell BX2.out 1).trans rfl; have z2 := (blk_cell BX2.out 2).trans rfl; clear hb))
    have T3 := Aside0.mk (T2.out.below (below_drew1 (Below.refl w2.heap.size w2)))
    have BX3 := Aside0.mk (blk_drew BX2.out)
    go_region_held3 (fun w' => w'.cell? ⟨b5, 1, none⟩ = some (.int .i64 e0.at_) ∧ w'.cell? ⟨b5, 2, none⟩ = some (.string e0.text)) (first | exact ⟨(blk_cell BX3.out 1).trans rfl, (blk_cell BX3.out 2).trans rfl⟩ | exact ⟨(blk_cell BX4.out 1).trans rfl, (blk_cell BX4.out 2).trans rfl⟩ | exact ⟨(blk_cell BX5.out 1).trans rfl, (blk_cell BX5.out 2).trans rfl⟩) (first
      | (go_at_call 30; refine (Write_two e0.at_ e0.text T3.out HLg.out).mono ?_; rintro e w4 ⟨vl2, rfl, hs, hm⟩; have T4 := Aside0.mk hs; have BX4 := Aside0.mk (hm.block BX3.out (fun hk => HN1.out b5 hk rfl)); clear hs hm)
      | (go_at_call 58; refine (RefWrite_half e0.at_ e0.text T4.out HLg.out).mono ?_; rintro e w5 ⟨ul2, rfl, hs, hm⟩; have T5 := Aside0.mk hs; have BX5 := Aside0.mk (hm.block BX4.out (fun hk => HN2.out b5 hk rfl)); clear hs hm))
    go_wp2
    go_ret
    exact ⟨by first | rfl | simp, vl2, ul2, _, T5.out, (write_len d e0.at_ e0.text).1, (write_len d e0.at_ e0.text).2⟩
  have hk4 : (K == 4) = false := beq_eq_false_iff_ne.2 k4
  by_cases k5 : K = 5
  · have hk5 : (K == 5) = true := beq_iff_eq.2 k5
    clear k0 k4 k5
    go_enter Try.func29, Try.ntmps29
    go_wp2_with (first
      | ((with_reducible refine gate_dst (N := 5) rfl ?_); refine box_event ?hg (N := 5) ?hd (cs := #[.int .i64 e0.kind, .int .i64 e0.at_, .string e0.text]) (t := 53) ?hr ?_; (case hd => rfl); (case hg => rfl); (case hr => first | (go_simp; done) | (go_simp; rfl)); intro b5 hb5 w1 hbox hb; have T1 := Aside0.mk (HT.out.below hb); have BX := Aside0.mk hbox; have HN1 : Aside0 (∀ k, Foot g vb vl k → k ≠ b5) := ⟨fun k hk => by have := (HT.out.1.foot hk).2; omega⟩; have HN2 : Aside0 (∀ k, Foot h ub ul k → k ≠ b5) := ⟨fun k hk => by have := (HT.out.2.1.foot hk).2; omega⟩; have z0 := (blk_cell hbox 0).trans rfl; clear hbox hb hb5)
      | (go_at_call 36; refine (kind_b e0.kind 8 (by decide) (by decide) _).mono ?_; rintro e w2 ⟨rfl, hb⟩; rw [hK]; have T2 := Aside0.mk (T1.out.below hb); have BX2 := Aside0.mk (blk_below BX.out hb); have z1 := (blk_cell BX2.out 1).trans rfl; have z2 := (blk_cell BX2.out 2).trans rfl; clear hb)
      | (go_at_call 14; refine (Cut_two e0.at_ T2.out).mono ?_; rintro e w3 ⟨rfl, hs, hm⟩; have T3 := Aside0.mk hs; have BX3 := Aside0.mk (hm.block BX2.out (fun hk => HN1.out b5 hk rfl)); clear z1 z2; have z1 := (blk_cell BX3.out 1).trans rfl; clear hs hm)
      | (go_at_call 15; refine (RefCut_half e0.at_ T3.out).mono ?_; rintro e w4 ⟨rfl, hs⟩; have T4 := Aside0.mk hs; clear hs))
    go_ret
    exact ⟨by first | rfl | simp, vl, ul, _, T4.out, Nat.le_succ _, rfl⟩
  have hk5 : (K == 5) = false := beq_eq_false_iff_ne.2 k5
  by_cases k6 : K = 6
  · have hk6 : (K == 6) = true := beq_iff_eq.2 k6
    clear k0 k4 k5 k6
    go_enter Try.func29, Try.ntmps29
    go_wp2_with (first
      | ((with_reducible refine gate_dst (N := 5) rfl ?_); refine box_event ?hg (N := 5) ?hd (cs := #[.int .i64 e0.kind, .int .i64 e0.at_, .string e0.text]) (t := 53) ?hr ?_; (case hd => rfl); (case hg => rfl); (case hr => first | (go_simp; done) | (go_simp; rfl)); intro b5 hb5 w1 hbox hb; have T1 := Aside0.mk (HT.out.below hb); have BX := Aside0.mk hbox; have HN1 : Aside0 (∀ k, Foot g vb vl k → k ≠ b5) := ⟨fun k hk => by have := (HT.out.1.foot hk).2; omega⟩; have HN2 : Aside0 (∀ k, Foot h ub ul k → k ≠ b5) := ⟨fun k hk => by have := (HT.out.2.1.foot hk).2; omega⟩; have z0 := (blk_cell hbox 0).trans rfl; clear hbox hb hb5)
      | (go_at_call 36; refine (kind_b e0.kind 8 (by decide) (by decide) _).mono ?_; rintro e w2 ⟨rfl, hb⟩; rw [hK]; have T2 := Aside0.mk (T1.out.below hb); have BX2 := Aside0.mk (blk_below BX.out hb); have z1 := (blk_cell BX2.out 1).trans rfl; have z2 := (blk_cell BX2.out 2).trans rfl; clear hb)
      | (go_at_call 32; refine (Restore_two T2.out).mono ?_; rintro e w3 ⟨rfl, hs⟩; have T3 := Aside0.mk hs; clear hs)
      | (go_at_call 59; refine (RefRestore_half T3.out).mono ?_; rintro e w4 ⟨rfl, hs⟩; have T4 := Aside0.mk hs; clear hs))
    go_ret
    exact ⟨by first | rfl | simp, vl, ul, _, T4.out, Nat.le_succ _, rfl⟩
  have hk6 : (K == 6) = false := beq_eq_false_iff_ne.2 k6
  by_cases k7 : K = 7
  · have hk7 : (K == 7) = true := beq_iff_eq.2 k7
    clear k0 k4 k5 k6 k7
    go_enter Try.func29, Try.ntmps29
    go_wp2_with (first
      | ((with_reducible refine gate_dst (N := 5) rfl ?_); refine box_event ?hg (N := 5) ?hd (cs := #[.int .i64 e0.kind, .int .i64 e0.at_, .string e0.text]) (t := 53) ?hr ?_; (case hd => rfl); (case hg => rfl); (case hr => first | (go_simp; done) | (go_simp; rfl)); intro b5 hb5 w1 hbox hb; have T1 := Aside0.mk (HT.out.below hb); have BX := Aside0.mk hbox; have HN1 : Aside0 (∀ k, Foot g vb vl k → k ≠ b5) := ⟨fun k hk => by have := (HT.out.1.foot hk).2; omega⟩; have HN2 : Aside0 (∀ k, Foot h ub ul k → k ≠ b5) := ⟨fun k hk => by have := (HT.out.2.1.foot hk).2; omega⟩; have z0 := (blk_cell hbox 0).trans rfl; clear hbox hb hb5)
      | (go_at_call 36; refine (kind_b e0.kind 8 (by decide) (by decide) _).mono ?_; rintro e w2 ⟨rfl, hb⟩; rw [hK]; have T2 := Aside0.mk (T1.out.below hb); have BX2 := Aside0.mk (blk_below BX.out hb); have z1 := (blk_cell BX2.out 1).trans rfl; have z2 := (blk_cell BX2.out 2).trans rfl; clear hb))
    have T3 := Aside0.mk (T2.out.below (below_drew1 (Below.refl w2.heap.size w2)))
    obtain ⟨Ab, cb, eb, _⟩ := own_slice T3.out.2.1.1.2.2.1
    subst eb
    go_region_held3 (fun w' => w'.cell? ⟨h, 4, none⟩ = some (.bool d.down) ∧ w'.cell? ⟨h, 0, none⟩ = some (.slice Ab d.blocks.length cb)) (first | exact ⟨(blk_cell T3.out.2.1.1.2.1 4).trans rfl, (blk_cell T3.out.2.1.1.2.1 0).trans rfl⟩) (first
      | (go_at_call 25; refine (Down_calls T3.out.1.1).mono ?_; rintro e w4 ⟨rfl, hw⟩; obtain rfl := hw.symm)
      | (go_at_call 34; refine (Len_calls T3.out.1.1).mono ?_; rintro e w5 ⟨rfl, hw⟩; obtain rfl := hw.symm))
    go_wp2
    go_ret
    exact ⟨by first | rfl | simp, vl, _, d, T3.out, Nat.le_succ _, rfl⟩
  have hk7 : (K == 7) = false := beq_eq_false_iff_ne.2 k7
  clear k0 k4 k5 k6 k7
  go_enter Try.func29, Try.ntmps29
  go_wp2_with (first
      | ((with_reducible refine gate_dst (N := 5) rfl ?_); refine box_event ?hg (N := 5) ?hd (cs := #[.int .i64 e0.kind, .int .i64 e0.at_, .string e0.text]) (t := 53) ?hr ?_; (case hd => rfl); (case hg => rfl); (case hr => first | (go_simp; done) | (go_simp; rfl)); intro b5 hb5 w1 hbox hb; have T1 := Aside0.mk (HT.out.below hb); have BX := Aside0.mk hbox; have HN1 : Aside0 (∀ k, Foot g vb vl k → k ≠ b5) := ⟨fun k hk => by have := (HT.out.1.foot hk).2; omega⟩; have HN2 : Aside0 (∀ k, Foot h ub ul k → k ≠ b5) := ⟨fun k hk => by have := (HT.out.2.1.foot hk).2; omega⟩; have z0 := (blk_cell hbox 0).trans rfl; clear hbox hb hb5)
      | (go_at_call 36; refine (kind_b e0.kind 8 (by decide) (by decide) _).mono ?_; rintro e w2 ⟨rfl, hb⟩; rw [hK]; have T2 := Aside0.mk (T1.out.below hb); have BX2 := Aside0.mk (blk_below BX.out hb); have z1 := (blk_cell BX2.out 1).trans rfl; have z2 := (blk_cell BX2.out 2).trans rfl; clear hb))
  have T3 := Aside0.mk (T2.out.below (below_drew1 (Below.refl w2.heap.size w2)))
  have BX3 := Aside0.mk (blk_drew BX2.out)
  go_region_held3 (fun w' => w'.cell? ⟨b5, 1, none⟩ = some (.int .i64 e0.at_) ∧ w'.cell? ⟨b5, 2, none⟩ = some (.string e0.text)) (first | exact ⟨(blk_cell BX3.out 1).trans rfl, (blk_cell BX3.out 2).trans rfl⟩) (first
    | (go_at_call 31; first
        | (refine (block_calls _ _).mono ?_; rintro e wk ⟨rfl, hb⟩; have n1 := Aside0.mk (T7.out.below hb); have n2 := Aside0.mk (blk_below BX3.out hb); clear T7 BX3; have T8 := n1; have BX3 := n2; clear n1 n2 hb)
        | (refine (block_calls _ _).mono ?_; rintro e wk ⟨rfl, hb⟩; have n1 := Aside0.mk (T3.out.below hb); have n2 := Aside0.mk (blk_below BX3.out hb); clear T3 BX3; have T6 := n1; have BX3 := n2; clear n1 n2 hb))
    | (go_at_call 30; refine (Write_two e0.at_ (blockS e0.text) T6.out HLg.out).mono ?_; rintro e w4 ⟨vl2, rfl, hs, hm⟩; have T7 := Aside0.mk hs; have n2 := Aside0.mk (hm.block BX3.out (fun hk => HN1.out b5 hk rfl)); clear BX3; have BX3 := n2; clear n2 hs hm)
    | (go_at_call 58; refine (RefWrite_half e0.at_ (blockS e0.text) T8.out HLg.out).mono ?_; rintro e w5 ⟨ul2, rfl, hs, hm⟩; have T9 := Aside0.mk hs; have n2 := Aside0.mk (hm.block BX3.out (fun hk => HN2.out b5 hk rfl)); clear BX3; have BX3 := n2; clear n2 hs hm))
  go_wp2
  go_ret
  exact ⟨by first | rfl | simp, vl2, ul2, _, T9.out, (write_len d e0.at_ (blockS e0.text)).1, (write_len d e0.at_ (blockS e0.text)).2⟩
end Go.Proofs.Ytgageigcjeaenaa.Disk
namespace Go.Proofs.Ytgageigcjeaenaa.Disk
open Go.RowKit Go.Proofs.YtgageigcjeaenaaW.PrintWords Go.Proofs.YtgageigcjeaenaaW.PrintLast Go.Proofs.YtgageigcjeaenaaW.PrintMore Go.Proofs.Ytgageigcjeaenaa.MixBase Go.Proofs.Ytgageigcjeaenaa.MixPlain Go.Proofs.Ytgageigcjeaenaa.NumBase Go.Proofs.Ytgageigcjeaenaa.PadPlain
attribute [local go_sem] max2_int min2_int max_two min_two max_three min_three max_four min_four
set_option linter.unusedVariables false
set_option linter.unusedSimpArgs false
theorem nbelow_set {w0 w : World} {B g j : Nat} {u : Value} (hg : B ≤ g) (h : Below B w0 w) : Below B w0 (w.setCell ⟨g, j, none⟩ u) := h.setCell hg _
set_option maxRecDepth 100000 in
theorem RefOf_bad {w : World} {base : Nat} {v : Value} (l : List ByteArray) (h : w.ownsRow base 9 1 v l.length (strs l)) (hl : l.length ≤ 1000000) (he : ofErr l ≠ 0) : Calls Try.prog 38 #[v] w fun e w' => e = .returned (.tuple #[.pointer none, .int .i64 (ofErr l)]) ∧ w' = w := by
  obtain ⟨A, c, rfl, hm⟩ := own_slice h
  unfold ofErr at he ⊢
  by_cases hd : 64 ≤ l.length ∧ l.length ≤ 2048
  · rw [if_pos hd] at he ⊢
    by_cases ha : l.all (fun b => b.size == 256) = true
    · rw [if_pos ha] at he; exact absurd rfl he
    · rw [if_neg ha]
      have hd1 : decide ((l.length : Int) < 64) = false := decide_eq_false (by omega)
      have hd2 : decide (2048 < (l.length : Int)) = false := decide_eq_false (by omega)
      obtain ⟨bb, c2, cur, e, _⟩ := own_form h (by omega)
      injection e with e1 e2 e3
      subst e1 e3
      have HO := Aside0.mk h
      have HD := Aside0.mk hd
      have HA : Aside0 (¬ (l.drop 0).all (fun b => b.size == 256) = true) := ⟨ha⟩
      clear h hd he ha
      go_enter Try.func38, Try.ntmps38
      go_wp2
      go_loopg [16] l.length (fun kq v12 wr => ∃ (i : Nat), v12 = .int .i64 (i : Int) ∧ i ≤ l.length ∧ Aside0 (kq = l.length - i) ∧ Aside0 (¬ (l.drop i).all (fun b => b.size == 256) = true) ∧ wr = w)
      case atStart => exact ⟨0, rfl, Nat.zero_le _, ⟨rfl⟩, HA, rfl⟩
      case round =>
        clear HA
        obtain ⟨i, rfl, hi, hkq, HA, hw⟩ := hrel
        obtain rfl := hw.symm
        by_cases hil : i < l.length
        · have q := strs_cell HO.out (by have := HD.out; omega) i hil
          have hi0 : 0 ≤ (i : Int) := by omega
          have hiz : (i : Int) < (l.length : Int) := by omega
          have hda : (l.drop i).all (fun b => b.size == 256) = ((l.getD i ⟨#[]⟩).size == 256 && (l.drop (i + 1)).all (fun b => b.size == 256)) := by
            rw [List.drop_eq_getElem_cons hil, List.all_cons, List.getD_eq_getElem?_getD, List.getElem?_eq_getElem hil]
            rfl
          have HA2 := HA.out
          rw [hda] at HA2
          generalize l.getD i ⟨#[]⟩ = x at q HA2
          clear hda
          by_cases hx : x.size = 256
          · have hxb : ((x.size : Int) != 256) = false := bne_eq_false_iff_eq.2 (by omega)
            have HA3 : Aside0 (¬ (l.drop (i + 1)).all (fun b => b.size == 256) = true) := ⟨by rw [beq_iff_eq.2 hx, Bool.true_and] at HA2; exact HA2⟩
            clear HA2 hx
            go_wp2
            go_roundg (l.length - (i + 1))
            case measure => have := hkq.out; omega
            case rel => exact ⟨i + 1, by have := HD.out; first | rfl | (rw [wrap64_small (by omega) (by omega)]; rfl), by omega, ⟨rfl⟩, HA3, rfl⟩
          · have hxb : ((x.size : Int) != 256) = true := bne_iff_ne.2 (by omega)
            clear HA2 hx
            go_wp2
            go_ret2
            exact ⟨rfl, rfl⟩
        · exact absurd (by rw [List.drop_eq_nil_of_le (by omega)]; rfl) HA.out
  · rw [if_neg hd]
    by_cases h64 : l.length < 64
    · have hd1 : decide ((l.length : Int) < 64) = true := decide_eq_true (by omega)
      clear h hd he
      go_enter Try.func38, Try.ntmps38
      go_wp2
      go_ret2
      exact ⟨rfl, rfl⟩
    · have hd1 : decide ((l.length : Int) < 64) = false := decide_eq_false (by omega)
      have hd2 : decide (2048 < (l.length : Int)) = true := decide_eq_true (by omega)
      clear h hd he
      go_enter Try.func38, Try.ntmps38
      go_wp2
      go_ret2
      exact ⟨rfl, rfl⟩
set_option maxRecDepth 100000 in
theorem RefOf_good {w : World} {base : Nat} {v : Value} (l : List ByteArray) (h : w.ownsRow base 9 1 v l.length (strs l)) (he : ofErr l = 0) : Calls Try.prog 38 #[v] w fun e w' => ∃ g, e = .returned (.tuple #[.pointer (some ⟨g, 0, none⟩), .int .i64 0]) ∧ Below w.heap.size w w' := by
  have hu39 := Try.underlying39
  obtain ⟨A, c, rfl, hm⟩ := own_slice h
  unfold ofErr at he
  by_cases hd : 64 ≤ l.length ∧ l.length ≤ 2048
  case neg => rw [if_neg hd] at he; exact absurd he (by decide)
  rw [if_pos hd] at he
  by_cases ha : l.all (fun b => b.size == 256) = true
  case neg => rw [if_neg ha] at he; exact absurd he (by decide)
  have hd1 : decide ((l.length : Int) < 64) = false := decide_eq_false (by omega)
  have hd2 : decide (2048 < (l.length : Int)) = false := decide_eq_false (by omega)
  obtain ⟨bb, c2, cur, e, _⟩ := own_form h (by omega)
  injection e with e1 e2 e3
  subst e1 e3
  have HO := Aside0.mk h
  have HD := Aside0.mk hd
  have HA := Aside0.mk ha
  clear h hd he ha
  go_enter Try.func38, Try.ntmps38
  go_wp2
  go_loopg [16] l.length (fun kq v12 wr => ∃ (i : Nat), v12 = .int .i64 (i : Int) ∧ i ≤ l.length ∧ Aside0 (kq = l.length - i) ∧ wr = w)
  case atStart => exact ⟨0, rfl, Nat.zero_le _, ⟨rfl⟩, rfl⟩
  case round =>
    obtain ⟨i, rfl, hi, hkq, hw⟩ := hrel
    obtain rfl := hw.symm
    by_cases hil : i < l.length
    · have q := strs_cell HO.out (by have := HD.out; omega) i hil
      have hi0 : 0 ≤ (i : Int) := by omega
      have hiz : (i : Int) < (l.length : Int) := by omega
      have hx : (l.getD i ⟨#[]⟩).size = 256 := by
        have := List.all_eq_true.1 HA.out (l.getD i ⟨#[]⟩) (by rw [List.getD_eq_getElem?_getD, List.getElem?_eq_getElem hil]; exact List.getElem_mem hil)
        exact beq_iff_eq.1 this
      generalize l.getD i ⟨#[]⟩ = x at q hx
      have hxb : ((x.size : Int) != 256) = false := bne_eq_false_iff_eq.2 (by omega)
      clear hx
      go_wp2
      go_roundg (l.length - (i + 1))
      case measure => have := hkq.out; omega
      case rel => exact ⟨i + 1, by have := HD.out; first | rfl | (rw [wrap64_small (by omega) (by omega)]; rfl), by omega, ⟨rfl⟩, rfl⟩
    · obtain rfl : i = l.length := by omega
      clear hil hi
      go_wp2_with (first
        | ((with_reducible refine gate_dst (N := 27) rfl ?_); refine box_event ?hg (N := 27) ?hd (cs := #[.slice none 0 0, .slice none 0 0, .bool false, .int .i64 0, .bool false]) (t := 39) ?hr ?_; (case hd => rfl); (case hg => rfl); (case hr => first | (go_simp; done) | (go_simp; rfl)); intro g hg wb hbox hb; have BG := Aside0.mk hbox; have HB := Aside0.mk hb; have HGe : Aside0 (w.heap.size ≤ g) := ⟨Nat.le_of_eq hg.symm⟩; have z0 := (blk_cell hbox 0).trans rfl; have zf := blk_frozen hbox 0; clear hbox hb hg)
        | ((with_reducible refine gate_builtin (b := .append) (xs := #[.tmp 32, .tmp 33]) rfl ?_); at_builtin; refine Kd.R_append_row Value.string ⟨#[]⟩ (h1 := fun _ => rfl) (w0 := w) w.heap.size rfl (.tmp 32) (.tmp 33) 37 9 (.string ⟨#[]⟩) 16 rfl Try.underlying37 info9 rfl (by decide) (.slice none 0 0) ([] : List ByteArray) l (some ⟨bb, 0, none⟩) l.length c (fun _ => True) rfl rfl (fun _ _ => trivial) (Kd.R_nil _ _ _ _ _) ?aR HB.out HB.out.size ?aL ?_; (case aR => obtain ⟨A', c', e', _, hC'⟩ := strs_C (own_move HO.out (fun k hk => HB.out.block k (own_lt HO.out k hk))); injection e' with e1 e2 e3; subst e1; exact hC'); (case aL => have := HD.out; simp; omega); intro v1 w3 ho hb hg _; have HB3 := Aside0.mk hb; have BG3 := Aside0.mk ((hg.block g (blk_lt BG.out) (by simp [Value.ownBlock])).trans BG.out); obtain ⟨A3, c3, e3⟩ := Kd.R_slice ho; subst e3; have z3 := (blk_cell BG3.out 0).trans rfl; have z3f := blk_frozen BG3.out 0; clear ho hb hg))
      go_ret2
      exact ⟨⟨_, rfl⟩, nbelow_set HGe.out HB3.out⟩
def ofBlk (odd len : Int) (i : Nat) : ByteArray := if (i : Int) = odd then zeros len.toNat else zeros 256
def ofBlks (odd len : Int) (m : Nat) : List ByteArray := (List.range m).map (ofBlk odd len)
theorem ofBlks_length (odd len : Int) (m : Nat) : (ofBlks odd len m).length = m := by simp [ofBlks]
theorem ofBlks_succ (odd len : Int) (m : Nat) : strs (ofBlks odd len (m + 1)) = strs (ofBlks odd len m) ++ [.string (ofBlk odd len m)] := by simp [ofBlks, strs, List.range_succ]
set_option maxRecDepth 100000 in
set_option maxHeartbeats 4000000 in
theorem DiskOf_walk (n odd len : Int) (W : World) (hn : (Lit.int .i64 n).wf = true) (ho : (Lit.int .i64 odd).wf = true) (hlen : (Lit.int .i64 len).wf = true) : Calls Try.prog 9 #[.int .i64 n, .int .i64 odd, .int .i64 len] W fun e w' => e = .returned (.bool true) ∧ Below W.heap.size W w' := by
  by_cases hg : n < 0 ∨ 3000 < n ∨ len < 0 ∨ 1000 < len
  case pos =>
    by_cases h1 : n < 0
    · have b1 : decide (n < 0) = true := decide_eq_true h1
      clear hg h1 hn ho hlen
      go_enter Try.func9, Try.ntmps9
      go_wp2_with (go_at_call 26; refine (wakes_calls _).mono ?_; rintro e wa ⟨rfl, hb⟩; have HB0 := Aside0.mk hb; clear hb)
      go_ret
      exact ⟨rfl, HB0.out⟩
    have b1 : decide (n < 0) = false := decide_eq_false h1
    by_cases h2 : 3000 < n
    · have b2 : decide (3000 < n) = true := decide_eq_true h2
      clear hg h1 h2 hn ho hlen
      go_enter Try.func9, Try.ntmps9
      go_wp2_with (go_at_call 26; refine (wakes_calls _).mono ?_; rintro e wa ⟨rfl, hb⟩; have HB0 := Aside0.mk hb; clear hb)
      go_ret
      exact ⟨rfl, HB0.out⟩
    have b2 : decide (3000 < n) = false := decide_eq_false h2
    by_cases h3 : len < 0
    · have b3 : decide (len < 0) = true := decide_eq_true h3
      clear hg h1 h2 h3 hn ho hlen
      go_enter Try.func9, Try.ntmps9
      go_wp2_with (go_at_call 26; refine (wakes_calls _).mono ?_; rintro e wa ⟨rfl, hb⟩; have HB0 := Aside0.mk hb; clear hb)
      go_ret
      exact ⟨rfl, HB0.out⟩
    have b3 : decide (len < 0) = false := decide_eq_false h3
    have b4 : decide (1000 < len) = true := decide_eq_true (by omega)
    clear hg h1 h2 h3 hn ho hlen
    go_enter Try.func9, Try.ntmps9
    go_wp2_with (go_at_call 26; refine (wakes_calls _).mono ?_; rintro e wa ⟨rfl, hb⟩; have HB0 := Aside0.mk hb; clear hb)
    go_ret
    exact ⟨rfl, HB0.out⟩
  have b1 : decide (n < 0) = false := decide_eq_false (by omega)
  have b2 : decide (3000 < n) = false := decide_eq_false (by omega)
  have b3 : decide (len < 0) = false := decide_eq_false (by omega)
  have b4 : decide (1000 < len) = false := decide_eq_false (by omega)
  obtain ⟨m, rfl⟩ : ∃ m : Nat, n = (m : Int) := ⟨n.toNat, by omega⟩
  obtain ⟨len, rfl⟩ : ∃ k : Nat, len = (k : Int) := ⟨len.toNat, by omega⟩
  have HM : Aside0 (m ≤ 3000) := ⟨by omega⟩
  have HLe : Aside0 (len ≤ 1000) := ⟨by omega⟩
  clear hg hn ho hlen
  go_enter Try.func9, Try.ntmps9
  go_wp2_with (go_at_call 26; refine (wakes_calls _).mono ?_; rintro e wa ⟨rfl, hb⟩; have HB0 := Aside0.mk hb; clear hb)
  go_loopg [7, 8] m (fun kq v7 v8 wr => ∃ (i : Nat), v8 = .int .i64 (i : Int) ∧ i ≤ m ∧ Aside0 (kq = m - i) ∧ Aside0 (wr.ownsRow W.heap.size 9 1 v7 i (strs (ofBlks odd len i))) ∧ Aside0 (Below W.heap.size W wr))
  case atStart => exact ⟨0, rfl, Nat.zero_le _, ⟨rfl⟩, ⟨own_none _ _ _⟩, HB0⟩
  case round =>
    clear HB0
    obtain ⟨i, rfl, hi, hkq, HO, HB⟩ := hrel
    obtain ⟨A7, c7, rfl, _⟩ := own_slice HO.out
    by_cases hil : i < m
    · have hi0 : 0 ≤ (i : Int) := by omega
      have hiz : (i : Int) < (m : Int) := by omega
      have HI : Aside0 (i < 3000) := ⟨by have := HM.out; omega⟩
      have es := ofBlks_succ odd len i
      by_cases hod : (i : Int) = odd
      · have bo : ((i : Int) == odd) = true := beq_iff_eq.2 hod
        have eo : ofBlk odd len i = zeros len := by unfold ofBlk; rw [if_pos hod]; rfl
        rw [eo] at es
        clear hod
        go_wp2_with (first
          | (go_at_call 37; refine (Zeros_calls len (by have := HLe.out; omega) _).mono ?_; rintro e wk ⟨rfl, hb⟩; have HO2 := Aside0.mk ((Moved.of_below hb (fun _ => False)).own HO.out (fun _ _ h => h)); have HB2 := Aside0.mk (below_step HB.out hb); clear hb)
          | ((with_reducible refine gate_builtin (b := .append) (xs := #[.tmp 37, .tmp 40]) rfl ?_); at_builtin; refine print_append_cells (w0 := W) W.heap.size rfl (.tmp 37) (.tmp 40) 37 9 (.string ⟨#[]⟩) 1 16 rfl Try.underlying37 info9 rfl (by decide) (by decide) (.slice A7 i c7) i (strs (ofBlks odd len i)) [.string (zeros len)] rfl rfl rfl (by intro u hu; simp at hu; subst hu; rfl) HO2.out HB2.out (below_size HB2.out) (by have := HI.out; omega) ?_; intro v1 w3 ho hb _ _; have HO3 := Aside0.mk ho; have HB3 := Aside0.mk hb; clear ho hb))
        go_roundg (m - (i + 1))
        case measure => have := hkq.out; have := HI.out; omega
        case rel => exact ⟨i + 1, by have := HI.out; first | rfl | (rw [wrap64_small (by omega) (by omega)]; rfl), by omega, ⟨rfl⟩, ⟨by rw [es]; exact HO3.out⟩, HB3⟩
      · have bo : ((i : Int) == odd) = false := beq_eq_false_iff_ne.2 hod
        have eo : ofBlk odd len i = zeros 256 := by unfold ofBlk; rw [if_neg hod]
        rw [eo] at es
        clear hod
        go_wp2_with (first
          | (go_at_call 37; refine (Zeros_calls 256 (by decide) _).mono ?_; rintro e wk ⟨rfl, hb⟩; have HO2 := Aside0.mk ((Moved.of_below hb (fun _ => False)).own HO.out (fun _ _ h => h)); have HB2 := Aside0.mk (below_step HB.out hb); clear hb)
          | ((with_reducible refine gate_builtin (b := .append) (xs := #[.tmp 42, .tmp 44]) rfl ?_); at_builtin; refine print_append_cells (w0 := W) W.heap.size rfl (.tmp 42) (.tmp 44) 37 9 (.string ⟨#[]⟩) 1 16 rfl Try.underlying37 info9 rfl (by decide) (by decide) (.slice A7 i c7) i (strs (ofBlks odd len i)) [.string (zeros 256)] rfl rfl rfl (by intro u hu; simp at hu; subst hu; rfl) HO2.out HB2.out (below_size HB2.out) (by have := HI.out; omega) ?_; intro v1 w3 ho hb _ _; have HO3 := Aside0.mk ho; have HB3 := Aside0.mk hb; clear ho hb))
        go_roundg (m - (i + 1))
        case measure => have := hkq.out; have := HI.out; omega
        case rel => exact ⟨i + 1, by have := HI.out; first | rfl | (rw [wrap64_small (by omega) (by omega)]; rfl), by omega, ⟨rfl⟩, ⟨by rw [es]; exact HO3.out⟩, HB3⟩
    · obtain rfl : i = m := by omega
      clear hil hi hkq
      generalize hbl : ofBlks odd len i = bl at HO
      have hbn : bl.length = i := by rw [← hbl]; exact ofBlks_length _ _ _
      have HOl : Aside0 (wr.ownsRow W.heap.size 9 1 (.slice A7 i c7) bl.length (strs bl)) := ⟨by rw [hbn]; exact HO.out⟩
      have HBn : Aside0 (bl.length ≤ 3000) := ⟨by rw [hbn]; exact HM.out⟩
      clear hbl hbn HO
      by_cases he : ofErr bl = 0
      · have C1 := Aside0.mk he
        clear he
        go_wp2_with (first
          | (go_at_call 35; refine (Of_good bl HOl.out C1.out).mono ?_; rintro e wd ⟨g, vb, rfl, hd, hb⟩; have S1 : Aside0 (St W wd g vb (.slice none 0 0) ⟨bl, [], 0, false, false⟩) := ⟨⟨hd.lower HB.out.size, below_step HB.out hb⟩⟩; have HO1 := Aside0.mk ((Moved.of_below hb (fun _ => False)).own HOl.out (fun _ _ h => h)); clear hd hb)
          | (go_at_call 38; refine (RefOf_good bl HO1.out C1.out).mono ?_; rintro e we ⟨g2, rfl, hb⟩; have S2 := Aside0.mk (S1.out.below hb); have HO2 := Aside0.mk ((Moved.of_below hb (fun _ => False)).own HO1.out (fun _ _ h => h)); clear hb)
          | (go_at_call 24; refine (Image_calls S2.out.1 (by have := HBn.out; show bl.length * 16 ≤ _; omega)).mono ?_; rintro e wi ⟨v2, rfl, ho, hb⟩; have HI1 := Aside0.mk ho; have S3 := Aside0.mk (S2.out.below hb); have HO3 := Aside0.mk ((Moved.of_below hb (fun _ => False)).own HO2.out (fun _ _ h => h)); clear ho hb)
          | (go_at_call 23; refine (Same_true HI1.out HO3.out (by have := HBn.out; show bl.length ≤ _; omega)).mono ?_; rintro e ws ⟨rfl, hb⟩; have S4 := Aside0.mk (S3.out.below hb); clear hb)
          | (go_at_call 19; refine (Log_calls S4.out.1 (by show ([] : List Pg).length * 24 ≤ _; simp)).mono ?_; rintro e wl ⟨v3, rfl, ho, hb⟩; obtain ⟨A3, c3, rfl, _⟩ := own_slice ho; have S5 := Aside0.mk (S4.out.below hb); clear ho hb))
        go_ret
        exact ⟨by first | rfl | simp, S5.out.2⟩
      · have C1 := Aside0.mk he
        clear he
        go_wp2_with (first
          | (go_at_call 35; refine (Of_bad bl HOl.out C1.out).mono ?_; rintro e wd ⟨rfl, hw⟩; obtain rfl := hw.symm)
          | (go_at_call 38; refine (RefOf_bad bl HOl.out (by have := HBn.out; omega) C1.out).mono ?_; rintro e we ⟨rfl, hw⟩; obtain rfl := hw.symm))
        go_ret
        exact ⟨by first | rfl | simp, HB.out⟩
end Go.Proofs.Ytgageigcjeaenaa.Disk
namespace Go.Proofs.Ytgageigcjeaenaa.Disk
open Go.RowKit Go.Proofs.YtgageigcjeaenaaW.PrintWords Go.Proofs.YtgageigcjeaenaaW.PrintLast Go.Proofs.YtgageigcjeaenaaW.PrintMore Go.Proofs.Ytgageigcjeaenaa.MixBase Go.Proofs.Ytgageigcjeaenaa.MixPlain Go.Proofs.Ytgageigcjeaenaa.NumBase Go.Proofs.Ytgageigcjeaenaa.PadPlain
attribute [local go_sem] max2_int min2_int max_two min_two max_three min_three max_four min_four
set_option linter.unusedVariables false
set_option linter.unusedSimpArgs false
def s62 (p : Pg) : S62 := ⟨p.at_, p.data⟩
theorem pgs_C {w : World} {base n : Nat} {v : Value} {l : List Pg} (h : w.ownsRow base 62 2 v n (pgs l)) : ∃ A c, v = .slice A (l.map s62).length c ∧ (l.map s62).length ≤ c ∧ Kd.C k62 w A (l.map s62).length (l.map s62) := by
  have hl : l.length = n := by have := h.1; rw [pgs_length] at this; omega
  subst hl
  obtain ⟨A, c, rfl, hm⟩ := own_slice h
  rw [List.length_map]
  have hc : l.length ≤ c := by
    rcases h.2 with ⟨e, e2⟩ | ⟨_, cap, _, e, _, _, h1, _⟩
    · omega
    · injection e with _ _ e; omega
  refine ⟨A, c, rfl, hc, ⟨List.length_map _, by simp only [maxLen] at hm; omega, fun hpos => ?_⟩⟩
  obtain ⟨bb, c2, cur, e, _, hh, _, hat⟩ := own_form h hpos
  injection e with e1 e2 e3
  subst e1
  refine ⟨_, rfl, fun j p hp => ?_⟩
  rw [List.getElem?_map] at hp
  obtain ⟨q, hq, rfl⟩ := Option.map_eq_some_iff.1 hp
  have hj := (List.getElem?_eq_some_iff.1 hq).1
  obtain ⟨h1, h2⟩ := pgs_at l j q hq
  refine ⟨[.int .i64 q.at_, .string q.data], rfl, k62_mk w (s62 q), fun i u hu => ?_⟩
  have ea : ∀ m, (⟨bb, 0, none⟩ : Addr).add m = ⟨bb, m, none⟩ := fun m => by unfold Addr.add; split <;> simp_all
  rw [ea]
  match i, hu with
  | 0, hu =>
    simp at hu
    subst hu
    exact (blk_cell hh (j * 2)).trans ((hat (j * 2) (by omega)).trans h1)
  | 1, hu =>
    simp at hu
    subst hu
    exact (blk_cell hh (j * 2 + 1)).trans ((hat (j * 2 + 1) (by omega)).trans h2)
theorem samepages_l0 (l : List S62) (hl : l.length ≤ 1000000000000000000) (d : Nat) : ∀ (k i : Nat), i + d = l.length → d < k → aumbryref09_SamePages.l0 k l l (l.length : Int) (i : Int) = some true := by
  induction d with
  | zero =>
    intro k i hi hk
    obtain ⟨k, rfl⟩ : ∃ m, k = m + 1 := ⟨k - 1, by omega⟩
    simp only [aumbryref09_SamePages.l0]
    rw [if_neg (by omega)]
  | succ d ih =>
    intro k i hi hk
    obtain ⟨k, rfl⟩ : ∃ m, k = m + 1 := ⟨k - 1, by omega⟩
    simp only [aumbryref09_SamePages.l0]
    rw [if_pos (by omega), if_pos (by omega), if_pos (by omega), if_pos (by omega)]
    simp only [beq_self_eq_true, Bool.not_true, Bool.or_self, Bool.false_eq_true, if_false]
    rw [wrap64_small (by omega) (by omega), show (i : Int) + 1 = ((i + 1 : Nat) : Int) by omega]
    exact ih k (i + 1) (by omega) (by omega)
theorem SamePages_true {w : World} {base base' n n' : Nat} {v v' : Value} {l : List Pg} (h : w.ownsRow base 62 2 v n (pgs l)) (h' : w.ownsRow base' 62 2 v' n' (pgs l)) (hl : l.length ≤ 1000000000000000000) :
    Calls Try.prog 18 #[v, v'] w fun e w' => e = .returned (.bool true) ∧ Below w.heap.size w w' := by
  obtain ⟨A, c, rfl, hc, hC⟩ := pgs_C h
  obtain ⟨A', c', rfl, hc', hC'⟩ := pgs_C h'
  refine (aumbryref09_SamePages.calls ((l.map s62).length + 1) A c (l.map s62) A' c' (l.map s62) true w hC hc hC' hc' ?_).mono ?_
  · unfold aumbryref09_SamePages.f
    rw [if_pos rfl]
    exact samepages_l0 (l.map s62) (by rw [List.length_map]; exact hl) (l.map s62).length _ 0 (by omega) (by omega)
  · rintro e w' ⟨rfl, ⟨nd, rfl⟩⟩
    exact ⟨rfl, pw_below_drewN (Below.refl _ _) _⟩
set_option maxRecDepth 100000 in
set_option maxHeartbeats 8000000 in
theorem DiskPlays_walk (n : Int) (A : Option Addr) (c : Nat) (l : List Act3) (W : World) (hn : (Lit.int .i64 n).wf = true) (hA : ActsAt W A l) (hc : l.length ≤ c) (hl : l.length * 32 ≤ 140737488351232) : Calls Try.prog 5 #[.int .i64 n, .slice A l.length c] W fun e w' => e = .returned (.bool true) ∧ Below W.heap.size W w' := by
  have hu53 := Try.underlying53
  have hu39 := Try.underlying39
  have HA := Aside0.mk hA
  have HL := Aside0.mk hl
  by_cases hb : 64 ≤ n ∧ n ≤ 2048
  case neg =>
    have HBd := Aside0.mk hb
    clear hA hl hb hn hc
    go_enter Try.func5, Try.ntmps5
    go_wp2_with (first
      | (go_at_call 26; refine (wakes_calls _).mono ?_; rintro e wa ⟨rfl, hb⟩; have HB0 := Aside0.mk hb; clear hb)
      | (go_at_call 27; refine (New_bad n HBd.out _).mono ?_; rintro e wb ⟨rfl, hw⟩; obtain rfl := hw.symm)
      | (go_at_call 28; refine (RefNew_bad n HBd.out _).mono ?_; rintro e wb ⟨rfl, hw⟩; obtain rfl := hw.symm))
    go_ret
    exact ⟨by first | rfl | simp, HB0.out⟩
  obtain ⟨m, rfl⟩ : ∃ m : Nat, n = (m : Int) := ⟨n.toNat, by omega⟩
  have H64 : Aside0 (64 ≤ m) := ⟨by omega⟩
  have H2k : Aside0 (m ≤ 2048) := ⟨by omega⟩
  clear hA hl hb hn
  go_enter Try.func5, Try.ntmps5
  go_wp2_with (first
    | (go_at_call 26; refine (wakes_calls _).mono ?_; rintro e wa ⟨rfl, hb⟩; have HB0 := Aside0.mk hb; clear hb)
    | (go_at_call 27; refine (New_st m H64.out H2k.out HB0.out).mono ?_; rintro e wn ⟨g, vb, rfl, hs, _, _⟩; have S1 := Aside0.mk hs; clear hs)
    | (go_at_call 28; refine (RefNew_calls m H64.out H2k.out _).mono ?_; rintro e wr0 ⟨h, ub, rfl, hs, hb⟩; have T1 : Aside0 (Two W wr0 g vb (.slice none 0 0) h ub (.slice none 0 0) (newD m)) := ⟨⟨S1.out.below hb, ⟨⟨Nat.le_trans S1.out.2.size hs.1, hs.2.1, own_less hs.2.2.1 S1.out.2.size, own_less hs.2.2.2 S1.out.2.size⟩, below_step S1.out.2 hb⟩, fun k hk hk' => by have := (S1.out.foot hk).2; have := (hs.foot_lt hk').1; omega⟩⟩; clear hs hb))
  go_loopg [36] l.length (fun kq v36 wr => ∃ (i : Nat) (vl ul : Value) (d : Dk), v36 = .int .i64 (i : Int) ∧ i ≤ l.length ∧ Aside0 (kq = l.length - i) ∧ Aside0 (Two W wr g vb vl h ub ul d) ∧ Aside0 (d.log.length ≤ i) ∧ Aside0 (d.blocks.length = m))
  case atStart => exact ⟨0, _, _, _, rfl, Nat.zero_le _, ⟨rfl⟩, T1, ⟨Nat.le_refl _⟩, ⟨wk_len m⟩⟩
  case round =>
    clear S1 T1
    obtain ⟨i, vl, ul, d, rfl, hi, hkq, T, HLo, HBm⟩ := hrel
    by_cases hil : i < l.length
    · obtain ⟨e0, he⟩ : ∃ e, l[i]? = some e := ⟨_, List.getElem?_eq_getElem hil⟩
      obtain ⟨ad, hAd, q0, q1, q2⟩ := HA.out i e0 he
      subst hAd
      have q0' := cellB T.out.1.2 q0
      have q1' := cellB T.out.1.2 q1
      have q2' := cellB T.out.1.2 q2
      have hi0 : 0 ≤ (i : Int) := by omega
      have hiz : (i : Int) < (l.length : Int) := by omega
      have HLg : Aside0 ((d.log.length + 1) * 24 ≤ 140737488355328) := ⟨by have := HLo.out; have := HL.out; omega⟩
      clear q0 q1 q2 he
      go_wp2_with (go_at_call 29; refine (does_calls e0 T.out HLg.out).mono ?_; rintro e w2 ⟨rfl, vl2, ul2, d2, hT2, hg1, hg2⟩; have T2 := Aside0.mk hT2; have HG1 := Aside0.mk hg1; have HG2 := Aside0.mk hg2; clear hT2 hg1 hg2)
      go_roundg (l.length - (i + 1))
      case measure => have := hkq.out; omega
      case rel => exact ⟨i + 1, vl2, ul2, d2, by have := HL.out; first | rfl | (rw [wrap64_small (by omega) (by omega)]; rfl), by omega, ⟨rfl⟩, T2, ⟨by have := HG1.out; have := HLo.out; omega⟩, ⟨HG2.out.trans HBm.out⟩⟩
    · obtain rfl : i = l.length := by omega
      clear hil hi hkq
      have HLg : Aside0 (d.log.length * 24 ≤ 140737488355328) := ⟨by have := HLo.out; have := HL.out; omega⟩
      have HLg2 : Aside0 (d.log.length ≤ 1000000000000000000) := ⟨by have := HLo.out; have := HL.out; omega⟩
      have HBk : Aside0 (d.blocks.length * 16 ≤ 140737488355328) := ⟨by rw [HBm.out]; have := H2k.out; omega⟩
      have HBk2 : Aside0 (d.blocks.length ≤ 1000000000000000000) := ⟨by rw [HBm.out]; have := H2k.out; omega⟩
      obtain ⟨Au, cu, eu, _⟩ := own_slice T.out.2.1.1.2.2.1
      obtain ⟨Al, cl, el, _⟩ := own_slice T.out.2.1.1.2.2.2
      subst eu el
      have T3 := Aside0.mk (T.out.below (below_drew1 (Below.refl wr.heap.size wr)))
      go_wp2
      go_region_held3 (fun w' => w'.cell? ⟨h, 1, none⟩ = some (.slice Al d.log.length cl) ∧ w'.cell? ⟨h, 0, none⟩ = some (.slice Au d.blocks.length cu)) (first | exact ⟨(blk_cell T3.out.2.1.1.2.1 1).trans rfl, (blk_cell T3.out.2.1.1.2.1 0).trans rfl⟩) (first
        | (go_at_call 19; refine (Log_calls T3.out.1.1 HLg.out).mono ?_; rintro e w4 ⟨v1, rfl, ho, hb⟩; have HG := Aside0.mk ho; have n1 := Aside0.mk (T3.out.below hb); clear T3; have T3 := n1; clear n1 ho hb)
        | (go_at_call 18; refine (SamePages_true HG.out T3.out.2.1.1.2.2.2 HLg2.out).mono ?_; rintro e w5 ⟨rfl, hb⟩; have n1 := Aside0.mk (T3.out.below hb); clear T3; have T3 := n1; clear n1 hb)
        | (go_at_call 24; refine (Image_calls T3.out.1.1 HBk.out).mono ?_; rintro e w6 ⟨v2, rfl, ho, hb⟩; have HI := Aside0.mk ho; have n1 := Aside0.mk (T3.out.below hb); clear T3; have T3 := n1; clear n1 ho hb)
        | (go_at_call 23; refine (Same_true HI.out T3.out.2.1.1.2.2.1 HBk2.out).mono ?_; rintro e w7 ⟨rfl, hb⟩; have n1 := Aside0.mk (T3.out.below hb); clear T3; have T3 := n1; clear n1 hb))
      go_wp2
      go_ret
      exact ⟨by first | rfl | simp, T3.out.1.2⟩
end Go.Proofs.Ytgageigcjeaenaa.Disk
