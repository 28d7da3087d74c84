/- Disks: contracts and laws, walked by hand. No condition beside those that each theorem names. -/
import Derived.Test.YtgageigcjeaenaaDiskA
namespace Go.Proofs.Ytgageigcjeaenaa.Disk
open Go.RowKit Go.Proofs.YtgageigcjeaenaaW.PrintWords Go.Proofs.YtgageigcjeaenaaW.PrintLast Go.Proofs.YtgageigcjeaenaaW.PrintMore Go.Proofs.Ytgageigcjeaenaa.MixBase Go.Proofs.Ytgageigcjeaenaa.MixPlain Go.Proofs.Ytgageigcjeaenaa.NumBase Go.Proofs.Ytgageigcjeaenaa.PadPlain
attribute [local go_sem] max2_int min2_int max_two min_two max_three min_three max_four min_four
set_option linter.unusedVariables false
set_option linter.unusedSimpArgs false
section
variable {w : World} {base g : Nat} {vb vl : Value} {d : Dk}
theorem RefIs.put (h : RefIs w base g vb vl d) {w' : World} {left' : Int} {told' down' : Bool} (hg : w'.heap[g]? = some (.cells #[vb, vl, .bool told', .int .i64 left', .bool down'] 39 (0, 0))) (hm : Moved w w' (fun k => k = g)) : RefIs w' base g vb vl ⟨d.blocks, d.log, left', told', down'⟩ :=
  ⟨h.1, hg, hm.own h.2.2.1 (own_ne h.2.2.1 h.2.1 (by decide)), hm.own h.2.2.2 (own_ne h.2.2.2 h.2.1 (by decide))⟩
theorem RefCut_calls (n : Int) (h : RefIs w base g vb vl d) : Calls Try.prog 15 #[.pointer (some ⟨g, 0, none⟩), .int .i64 n] w fun e w' => e = .returned (.tuple #[]) ∧ RefIs w' base g vb vl (cutD d n) ∧ Moved w w' (fun k => k = g) := by
  have hu39 := Try.underlying39
  have c2 := (blk_cell h.2.1 2).trans rfl
  have c3 := (blk_cell h.2.1 3).trans rfl
  have f2 := blk_frozen h.2.1 2
  have f3 := blk_frozen h.2.1 3
  have HD := Aside0.mk h
  clear h
  go_enter Try.func15, Try.ntmps15
  go_wp2
  go_end0
  have hm : Moved w ((w.setCell ⟨g, 2, none⟩ (.bool (decide (n ≥ 0)))).setCell ⟨g, 3, none⟩ (.int .i64 n)) (fun k => k = g) := Moved.trans (Moved.set (S := fun k => k = g) rfl _) (Moved.set (S := fun k => k = g) rfl _)
  exact ⟨rfl, HD.out.put (blk_put (blk_put HD.out.2.1 2 _ rfl) 3 _ rfl) hm, hm⟩
theorem RefRestore_calls (h : RefIs w base g vb vl d) : Calls Try.prog 59 #[.pointer (some ⟨g, 0, none⟩)] w fun e w' => e = .returned (.tuple #[]) ∧ RefIs w' base g vb vl (restoreD d) ∧ Moved w w' (fun k => k = g) := by
  have hu39 := Try.underlying39
  have c2 := (blk_cell h.2.1 2).trans rfl
  have c4 := (blk_cell h.2.1 4).trans rfl
  have f2 := blk_frozen h.2.1 2
  have f4 := blk_frozen h.2.1 4
  have HD := Aside0.mk h
  clear h
  go_enter Try.func59, Try.ntmps59
  go_wp2
  go_end0
  have hm : Moved w ((w.setCell ⟨g, 2, none⟩ (.bool false)).setCell ⟨g, 4, none⟩ (.bool false)) (fun k => k = g) := Moved.trans (Moved.set (S := fun k => k = g) rfl _) (Moved.set (S := fun k => k = g) rfl _)
  exact ⟨rfl, HD.out.put (blk_put (blk_put HD.out.2.1 2 _ rfl) 4 _ rfl) hm, hm⟩
theorem may_bad {a : Int} (h : ¬ mayD d a = 0) : (d.down = true ∧ mayD d a = 17) ∨ (d.down = false ∧ a < 0 ∧ mayD d a = 1) ∨ (d.down = false ∧ ¬ a < 0 ∧ a ≥ (d.blocks.length : Int) ∧ mayD d a = 1) := by
  unfold mayD at *
  cases hd : d.down with
  | true => exact Or.inl ⟨rfl, rfl⟩
  | false =>
    rw [hd, if_neg (by decide)] at h
    rw [if_neg (by decide)]
    by_cases h1 : a < 0
    · exact Or.inr (Or.inl ⟨rfl, h1, if_pos (Or.inl h1)⟩)
    · by_cases h2 : a ≥ (d.blocks.length : Int)
      · exact Or.inr (Or.inr ⟨rfl, h1, h2, if_pos (Or.inr h2)⟩)
      · rw [if_neg (by omega)] at h
        exact absurd rfl h
set_option maxRecDepth 100000 in
theorem RefRead_calls (a : Int) (h : RefIs w base g vb vl d) : Calls Try.prog 48 #[.pointer (some ⟨g, 0, none⟩), .int .i64 a] w fun e w' => e = .returned (.tuple #[.string (readD d a).1, .int .i64 (readD d a).2]) ∧ w' = w := by
  have hu39 := Try.underlying39
  have c4 := (blk_cell h.2.1 4).trans rfl
  by_cases h0 : mayD d a = 0
  · obtain ⟨hd, ha, hb⟩ := may_zero h0
    rw [hd] at c4
    obtain ⟨bb, c, cur, rfl, _, hh, hc, hat⟩ := own_form h.2.2.1 (by omega)
    have c0 := (blk_cell h.2.1 0).trans rfl
    have q := (blk_cell hh a.toNat).trans ((hat a.toNat (by omega)).trans (strs_at d.blocks a.toNat (by omega)))
    have b0 : decide (a < 0) = false := decide_eq_false (by omega)
    have b1 : decide ((d.blocks.length : Int) ≤ a) = false := decide_eq_false (by omega)
    unfold readD
    rw [if_pos h0]
    generalize d.blocks.getD a.toNat ⟨#[]⟩ = x at q ⊢
    clear h hh hat h0
    go_enter Try.func48, Try.ntmps48
    go_wp2
    go_ret2
    exact ⟨rfl, rfl⟩
  · unfold readD
    rw [if_neg h0]
    obtain ⟨A, c, rfl, _⟩ := own_slice h.2.2.1
    have c0 := (blk_cell h.2.1 0).trans rfl
    rcases may_bad h0 with ⟨hd, e⟩ | ⟨hd, ha, e⟩ | ⟨hd, ha, hb, e⟩
    · rw [hd] at c4
      rw [e]
      clear h h0 hd e
      go_enter Try.func48, Try.ntmps48
      go_wp2
      go_ret2
      exact ⟨rfl, rfl⟩
    · rw [hd] at c4
      rw [e]
      have b0 : decide (a < 0) = true := decide_eq_true ha
      clear h h0 hd e
      go_enter Try.func48, Try.ntmps48
      go_wp2
      go_ret2
      exact ⟨rfl, rfl⟩
    · rw [hd] at c4
      rw [e]
      have b0 : decide (a < 0) = false := decide_eq_false ha
      have b1 : decide ((d.blocks.length : Int) ≤ a) = true := decide_eq_true hb
      clear h h0 hd e
      go_enter Try.func48, Try.ntmps48
      go_wp2
      go_ret2
      exact ⟨rfl, rfl⟩
theorem RefIs.setBlock {bb c : Nat} {n : Nat} (h : RefIs w base g (.slice (some ⟨bb, 0, none⟩) n c) vl d) (i : Nat) (s : ByteArray) :
    RefIs (w.setCell ⟨bb, i, none⟩ (.string s)) base g (.slice (some ⟨bb, 0, none⟩) n c) vl ⟨d.blocks.set i s, d.log, d.left, d.told, d.down⟩ := by
  have hn : d.blocks.length = n := by
    rcases h.2.2.1.2 with ⟨e, _⟩ | ⟨_, _, _, e, _⟩
    · cases e
    · injection e with _ e; exact e.symm
  obtain ⟨ho, hgr⟩ := World.ownsRow.stored (hn ▸ h.2.2.1) i (.string s)
  have hgb : bb ≠ g := own_ne h.2.2.1 h.2.1 (by decide) bb rfl
  have hlb : ∀ k, vl.ownBlock = some k → k ≠ bb := fun k hk e => own_apart h.2.2.2 h.2.2.1 (by decide) k hk (by rw [e]; rfl)
  have hm : Moved w (w.setCell ⟨bb, i, none⟩ (.string s)) (fun k => k = bb) := Moved.set (S := fun k => k = bb) rfl _
  refine ⟨h.1, hm.block h.2.1 (fun e => hgb e.symm), ?_, hm.own h.2.2.2 (fun k hk => hlb k hk)⟩
  show World.ownsRow _ base 9 1 _ (d.blocks.set i s).length (strs (d.blocks.set i s))
  rw [List.length_set, hn, show strs (d.blocks.set i s) = (strs d.blocks).set i (.string s) by simp [strs, List.map_set]]
  exact ho
theorem RefIs.logged {w1 : World} {v1 : Value} (h : RefIs w base g vb vl d) (p : Pg) (ho : w1.ownsRow base 62 2 v1 (d.log.length + 1) (pgs d.log ++ [.int .i64 p.at_, .string p.data])) (hg : w.grownBy w1 vl.ownBlock) :
    RefIs (w1.setCell ⟨g, 1, none⟩ v1) base g vb v1 ⟨d.blocks, d.log ++ [p], d.left, d.told, d.down⟩ := by
  have hm : Moved w w1 (fun k => vl.ownBlock = some k) := Moved.of_grown hg (fun k hk => hk.symm)
  have h1 := hm.block h.2.1 (fun e => own_ne h.2.2.2 h.2.1 (by decide) g e rfl)
  have h2 := hm.own h.2.2.1 (fun k hk hk' => own_apart h.2.2.1 h.2.2.2 (by decide) k hk hk')
  have hs : Moved w1 (w1.setCell ⟨g, 1, none⟩ v1) (fun k => k = g) := Moved.set (S := fun k => k = g) rfl _
  refine ⟨h.1, blk_put h1 1 v1 rfl, hs.own h2 (own_ne h2 h1 (by decide)), ?_⟩
  have h3 := hs.own ho (own_ne ho h1 (by decide))
  rw [List.length_append, List.length_singleton, pgs_snoc]
  exact h3
set_option maxRecDepth 100000 in
set_option maxHeartbeats 2000000 in
theorem RefWrite_calls (a : Int) (s : ByteArray) (h : RefIs w base g vb vl d) (hlog : (d.log.length + 1) * 24 ≤ 140737488355328) : Calls Try.prog 58 #[.pointer (some ⟨g, 0, none⟩), .int .i64 a, .string s] w fun e w' => ∃ vl', e = .returned (.int .i64 (writeD d a s).2) ∧ RefIs w' base g vb vl' (writeD d a s).1 ∧ (vl'.ownBlock = vl.ownBlock ∨ ∃ b, vl'.ownBlock = some b ∧ w.heap.size ≤ b) ∧ Moved w w' (Foot g vb vl) := by
  have hu39 := Try.underlying39
  have hu62 := Try.underlying62
  have HD := Aside0.mk h
  have c4 := (blk_cell h.2.1 4).trans rfl
  by_cases h0 : mayD d a = 0
  case neg =>
    unfold writeD
    rw [if_neg h0]
    obtain ⟨A, c, rfl, _⟩ := own_slice h.2.2.1
    have c0 := (blk_cell h.2.1 0).trans rfl
    rcases may_bad h0 with ⟨hd, e⟩ | ⟨hd, ha, e⟩ | ⟨hd, ha, hb, e⟩
    · rw [hd] at c4
      rw [e]
      clear h h0 hd e
      go_enter Try.func58, Try.ntmps58
      go_wp2
      go_ret
      first | exact ⟨vl, rfl, HD.out, Or.inl rfl, Moved.refl _ _⟩ | exact ⟨rfl, vl, HD.out, Or.inl rfl, Moved.refl _ _⟩
    · rw [hd] at c4
      rw [e]
      have b0 : decide (a < 0) = true := decide_eq_true ha
      clear h h0 hd e
      go_enter Try.func58, Try.ntmps58
      go_wp2
      go_ret
      first | exact ⟨vl, rfl, HD.out, Or.inl rfl, Moved.refl _ _⟩ | exact ⟨rfl, vl, HD.out, Or.inl rfl, Moved.refl _ _⟩
    · rw [hd] at c4
      rw [e]
      have b0 : decide (a < 0) = false := decide_eq_false ha
      have b1 : decide ((d.blocks.length : Int) ≤ a) = true := decide_eq_true hb
      clear h h0 hd e
      go_enter Try.func58, Try.ntmps58
      go_wp2
      go_ret
      first | exact ⟨vl, rfl, HD.out, Or.inl rfl, Moved.refl _ _⟩ | exact ⟨rfl, vl, HD.out, Or.inl rfl, Moved.refl _ _⟩
  obtain ⟨hdn, ha, hb⟩ := may_zero h0
  rw [hdn] at c4
  have b00 : decide (a < 0) = false := decide_eq_false (by omega)
  have b01 : decide ((d.blocks.length : Int) ≤ a) = false := decide_eq_false (by omega)
  unfold writeD
  rw [if_pos h0]
  obtain ⟨Al, cl, rfl, _⟩ := own_slice h.2.2.2
  obtain ⟨bb, c, cur, rfl, hbb, hh, hc, hat⟩ := own_form h.2.2.1 (by omega)
  have c0 := (blk_cell h.2.1 0).trans rfl
  by_cases hs : s.size = 256
  case neg =>
    have b1 : ((s.size : Int) != 256) = true := bne_iff_ne.2 (by omega)
    rw [if_neg hs]
    clear h h0 ha hb hs hh hat
    go_enter Try.func58, Try.ntmps58
    go_wp2
    go_ret
    exact ⟨_, rfl, HD.out, Or.inl rfl, Moved.refl _ _⟩
  have b1 : ((s.size : Int) != 256) = false := bne_eq_false_iff_eq.2 (by omega)
  rw [if_pos hs]
  have c1 := (blk_cell h.2.1 1).trans rfl
  have c2 := (blk_cell h.2.1 2).trans rfl
  have c3 := (blk_cell h.2.1 3).trans rfl
  have f1 := blk_frozen h.2.1 1
  have f3 := blk_frozen h.2.1 3
  have f4 := blk_frozen h.2.1 4
  have q := (blk_cell hh a.toNat).trans ((hat a.toNat (by omega)).trans (strs_at d.blocks a.toNat (by omega)))
  have fq := blk_frozen hh a.toNat
  have hgb : g ≠ bb := fun e => own_ne h.2.2.1 h.2.1 (by decide) bb rfl e.symm
  have hbg : bb ≠ g := fun e => hgb e.symm
  have HL := Aside0.mk hlog
  generalize d.blocks.getD a.toNat ⟨#[]⟩ = x at q
  have hbs : base ≤ w.heap.size := Nat.le_of_lt (Nat.lt_of_le_of_lt h.1 (blk_lt h.2.1))
  clear h h0 hh hat hs hlog
  cases ht : d.told with
  | true =>
    rw [ht] at c2
    by_cases hl : d.left = 0
    · rw [if_pos ⟨rfl, hl⟩]
      have hlb : (d.left == 0) = true := beq_iff_eq.2 hl
      have HBb := Aside0.mk hbb
      clear hl ha hb hbs hbb
      go_enter Try.func58, Try.ntmps58
      go_wp2
      go_ret
      have hm : Moved w (w.setCell ⟨g, 4, none⟩ (.bool true)) (fun k => k = g) := Moved.set (S := fun k => k = g) rfl _
      have hD := HD.out.put (told' := d.told) (down' := true) (blk_put HD.out.2.1 4 _ rfl) hm
      rw [ht] at hD
      exact ⟨_, rfl, hD, Or.inl rfl, hm.mono (fun k _ hk => Or.inl hk)⟩
    · rw [if_neg (fun e => hl e.2)]
      have hlb : (d.left == 0) = false := beq_eq_false_iff_ne.2 hl
      have D1 := Aside0.mk (HD.out.put (w' := w.setCell ⟨g, 3, none⟩ (.int .i64 (wrap64 (d.left - 1)))) (left' := wrap64 (d.left - 1)) (told' := d.told) (down' := d.down) (blk_put HD.out.2.1 3 _ rfl) (Moved.set (S := fun k => k = g) rfl _))
      have D2 := Aside0.mk (D1.out.setBlock a.toNat s)
      have HBs : Aside0 (base ≤ ((w.setCell ⟨g, 3, none⟩ (.int .i64 (wrap64 (d.left - 1)))).setCell ⟨bb, a.toNat, none⟩ (.string s)).heap.size) := ⟨by simpa [World.setCell] using hbs⟩
      clear hl hbb hbs
      go_enter Try.func58, Try.ntmps58
      go_wp2_with (((with_reducible refine gate_builtin (b := .append) (xs := #[.tmp 61, .tmp 65]) rfl ?_); at_builtin; refine print_append_cells (w0 := (w.setCell ⟨g, 3, none⟩ (.int .i64 (wrap64 (d.left - 1)))).setCell ⟨bb, a.toNat, none⟩ (.string s)) base rfl (.tmp 61) (.tmp 65) 35 62 (.agg #[(.int .i64 0), (.string ⟨#[]⟩)]) 2 24 rfl Try.underlying35 info62 rfl (by decide) (by decide) (.slice Al d.log.length cl) d.log.length (pgs d.log) [.int .i64 a, .string s] rfl (by first | rfl | (simp [World.setCell]; done) | (show Value.slice (some ⟨w.heap.size, 0, none⟩) 1 1 = _; simp [World.setCell])) rfl (by intro u hu; simp at hu; rcases hu with rfl | rfl <;> rfl) D2.out.2.2.2 (Below.refl _ _) HBs.out HL.out ?_; intro v1 w3 ho _ hg hat; have hm3 := Moved.of_grown (S := fun k => (Value.slice Al d.log.length cl).ownBlock = some k) hg (fun k hk => hk.symm); have h1 := hm3.block D2.out.2.1 (fun e => own_ne D2.out.2.2.2 D2.out.2.1 (by decide) g e rfl); obtain ⟨A1, c1, e1, _⟩ := own_slice ho; subst e1; have HO := Aside0.mk ho; have HG := Aside0.mk hg; have HAt := Aside0.mk hat; have HM3 := Aside0.mk hm3; have z1 := (blk_cell h1 1).trans rfl; have z1f := blk_frozen h1 1; clear ho hg hat hm3 h1))
      go_ret
      have hD := D2.out.logged ⟨a, s⟩ HO.out HG.out
      unfold putD
      rw [if_pos ht]
      refine ⟨rfl, _, hD, ?_, ?_⟩
      · rcases HAt.out with e | ⟨b, e, hb'⟩
        · exact Or.inl e
        · exact Or.inr ⟨b, e, by simpa [World.setCell] using hb'⟩
      · refine Moved.trans (Moved.trans (Moved.trans (Moved.set (j := 3) (Or.inl rfl) _) (Moved.set (j := a.toNat) (Or.inr (Or.inl rfl)) _)) (HM3.out.mono (fun k _ hk => Or.inr (Or.inr hk)))) (Moved.set (Or.inl rfl) _)
  | false =>
    rw [ht] at c2
    rw [if_neg (fun e => by cases e.1)]
    have D2 := Aside0.mk (HD.out.setBlock a.toNat s)
    have HBs : Aside0 (base ≤ (w.setCell ⟨bb, a.toNat, none⟩ (.string s)).heap.size) := ⟨by simpa [World.setCell] using hbs⟩
    clear hbb hbs
    go_enter Try.func58, Try.ntmps58
    go_wp2_with (((with_reducible refine gate_builtin (b := .append) (xs := #[.tmp 61, .tmp 65]) rfl ?_); at_builtin; refine print_append_cells (w0 := w.setCell ⟨bb, a.toNat, none⟩ (.string s)) base rfl (.tmp 61) (.tmp 65) 35 62 (.agg #[(.int .i64 0), (.string ⟨#[]⟩)]) 2 24 rfl Try.underlying35 info62 rfl (by decide) (by decide) (.slice Al d.log.length cl) d.log.length (pgs d.log) [.int .i64 a, .string s] rfl (by first | rfl | (simp [World.setCell]; done) | (show Value.slice (some ⟨w.heap.size, 0, none⟩) 1 1 = _; simp [World.setCell])) rfl (by intro u hu; simp at hu; rcases hu with rfl | rfl <;> rfl) D2.out.2.2.2 (Below.refl _ _) HBs.out HL.out ?_; intro v1 w3 ho _ hg hat; have hm3 := Moved.of_grown (S := fun k => (Value.slice Al d.log.length cl).ownBlock = some k) hg (fun k hk => hk.symm); have h1 := hm3.block D2.out.2.1 (fun e => own_ne D2.out.2.2.2 D2.out.2.1 (by decide) g e rfl); obtain ⟨A1, c1, e1, _⟩ := own_slice ho; subst e1; have HO := Aside0.mk ho; have HG := Aside0.mk hg; have HAt := Aside0.mk hat; have HM3 := Aside0.mk hm3; have z1 := (blk_cell h1 1).trans rfl; have z1f := blk_frozen h1 1; clear ho hg hat hm3 h1))
    go_ret
    have hD := D2.out.logged ⟨a, s⟩ HO.out HG.out
    unfold putD
    rw [if_neg (by rw [ht]; decide)]
    refine ⟨rfl, _, hD, ?_, ?_⟩
    · rcases HAt.out with e | ⟨b, e, hb'⟩
      · exact Or.inl e
      · exact Or.inr ⟨b, e, by simpa [World.setCell] using hb'⟩
    · refine Moved.trans (Moved.trans (Moved.set (j := a.toNat) (Or.inr (Or.inl rfl)) _) (HM3.out.mono (fun k _ hk => Or.inr (Or.inr hk)))) (Moved.set (Or.inl rfl) _)
end
end Go.Proofs.Ytgageigcjeaenaa.Disk
