/- Disks: contracts and laws, walked by hand. No condition beside those that each theorem names. -/
import Derived.Test.YtgageigcjeaenaaDisk1
namespace Go.Proofs.Ytgageigcjeaenaa.Disk
open Go.RowKit Go.Proofs.YtgageigcjeaenaaW.PrintWords Go.Proofs.YtgageigcjeaenaaW.PrintLast Go.Proofs.YtgageigcjeaenaaW.PrintMore Go.Proofs.Ytgageigcjeaenaa.MixBase Go.Proofs.Ytgageigcjeaenaa.MixPlain Go.Proofs.Ytgageigcjeaenaa.NumBase Go.Proofs.Ytgageigcjeaenaa.PadPlain
attribute [local go_sem] max2_int min2_int max_two min_two max_three min_three max_four min_four
set_option linter.unusedVariables false
set_option linter.unusedSimpArgs false
section
variable {w : World} {base g : Nat} {vb vl : Value} {d : Dk}
theorem Moved.of_grown {w w' : World} {row : Option Nat} {S : Nat → Prop} (h : w.grownBy w' row) (hs : ∀ k, some k = row → S k) : Moved w w' S :=
  ⟨h.os, h.tape, h.output, h.size, fun i hi hn => h.block i hi (fun e => hn (hs i e))⟩
theorem own_form {base e size n : Nat} {v : Value} {xs : List Value} (h : w.ownsRow base e size v n xs) (hn : 0 < n) :
    ∃ bb c cur, v = .slice (some ⟨bb, 0, none⟩) n c ∧ base ≤ bb ∧ w.heap[bb]? = some (.cells cur e (0, 0)) ∧ n ≤ c ∧ ∀ i, i < n * size → cur[i]? = xs[i]? := by
  rcases h.2 with ⟨_, h0⟩ | ⟨bb, c, cur, rfl, hb, hh, h1, h2, h3, h4⟩
  · omega
  · refine ⟨bb, c, cur, rfl, hb, hh, h1, fun i hi => ?_⟩
    rw [← h4, List.getElem?_take_of_lt hi, Array.getElem?_toList]
theorem strs_at (l : List ByteArray) (i : Nat) (hi : i < l.length) : (strs l)[i]? = some (.string (l.getD i ⟨#[]⟩)) := by
  rw [strs, List.getElem?_map, List.getElem?_eq_getElem hi, List.getD_eq_getElem?_getD, List.getElem?_eq_getElem hi]
  rfl
theorem may_zero {a : Int} (h : mayD d a = 0) : d.down = false ∧ 0 ≤ a ∧ a < (d.blocks.length : Int) := by
  unfold mayD at h
  cases hd : d.down with
  | true => rw [hd, if_pos rfl] at h; exact absurd h (by decide)
  | false =>
    rw [hd, if_neg (by decide)] at h
    by_cases h1 : a < 0 ∨ a ≥ (d.blocks.length : Int)
    · rw [if_pos h1] at h; exact absurd h (by decide)
    · exact ⟨rfl, by omega, by omega⟩
set_option maxRecDepth 100000 in
theorem Read_calls (a : Int) (h : DiskIs w base g vb vl d) : Calls Try.prog 33 #[.pointer (some ⟨g, 0, none⟩), .int .i64 a] w fun e w' => e = .returned (.tuple #[.string (readD d a).1, .int .i64 (readD d a).2]) ∧ w' = w := by
  have hu78 := Try.underlying78
  have HD := Aside0.mk h
  by_cases h0 : mayD d a = 0
  · obtain ⟨_, ha, hb⟩ := may_zero h0
    obtain ⟨bb, c, cur, rfl, _, hh, hc, hat⟩ := own_form h.2.2.1 (by omega)
    have c0 := (blk_cell h.2.1 0).trans rfl
    have q := (blk_cell hh a.toNat).trans ((hat a.toNat (by omega)).trans (strs_at d.blocks a.toNat (by omega)))
    have b0 : (mayD d a != 0) = false := by rw [h0]; rfl
    unfold readD
    rw [if_pos h0]
    generalize d.blocks.getD a.toNat ⟨#[]⟩ = x at q ⊢
    clear h hh hat h0
    go_enter Try.func33, Try.ntmps33
    go_wp2_with (go_at_call 60; refine (may_calls a HD.out).mono ?_; rintro e w2 ⟨rfl, hw⟩; obtain rfl := hw.symm)
    go_ret2
    exact ⟨rfl, rfl⟩
  · have b0 : (mayD d a != 0) = true := bne_iff_ne.2 h0
    unfold readD
    rw [if_neg h0]
    clear h h0
    go_enter Try.func33, Try.ntmps33
    go_wp2_with (go_at_call 60; refine (may_calls a HD.out).mono ?_; rintro e w2 ⟨rfl, hw⟩; obtain rfl := hw.symm)
    go_ret2
    exact ⟨rfl, rfl⟩
set_option maxRecDepth 100000 in
theorem Read_nil (a : Int) (w : World) : Calls Try.prog 33 #[.pointer none, .int .i64 a] w fun e w' => e = .returned (.tuple #[.string ⟨#[]⟩, .int .i64 18]) ∧ w' = w := by
  go_enter Try.func33, Try.ntmps33
  go_wp2_with (go_at_call 60; refine (may_nil a _).mono ?_; rintro e w2 ⟨rfl, hw⟩; obtain rfl := hw.symm)
  go_ret2
  exact ⟨rfl, rfl⟩
set_option maxRecDepth 100000 in
theorem Write_nil (a : Int) (s : ByteArray) (w : World) : Calls Try.prog 30 #[.pointer none, .int .i64 a, .string s] w fun e w' => e = .returned (.int .i64 18) ∧ w' = w := by
  go_enter Try.func30, Try.ntmps30
  go_wp2_with (go_at_call 60; refine (may_nil a _).mono ?_; rintro e w2 ⟨rfl, hw⟩; obtain rfl := hw.symm)
  go_ret
  exact ⟨rfl, rfl⟩
theorem info62 : (Try.prog.info? 62).map (fun i => (i.zero, i.size, i.bytes)) = some (some (.agg #[(.int .i64 0), (.string ⟨#[]⟩)]), 2, 24) := by kernel_rfl
theorem info9 : (Try.prog.info? 9).map (fun i => (i.zero, i.size, i.bytes)) = some (some (.string ⟨#[]⟩), 1, 16) := by kernel_rfl
/-- A block of a disk put: the row's cell. -/
theorem DiskIs.setBlock {bb c : Nat} {n : Nat} (h : DiskIs w base g (.slice (some ⟨bb, 0, none⟩) n c) vl d) (i : Nat) (s : ByteArray) :
    DiskIs (w.setCell ⟨bb, i, none⟩ (.string s)) base g (.slice (some ⟨bb, 0, none⟩) n c) vl ⟨d.blocks.set i s, d.log, d.left, d.told, d.down⟩ := by
  have hn : d.blocks.length = n := by
    rcases h.2.2.1.2 with ⟨e, _⟩ | ⟨_, _, _, e, _⟩
    · cases e
    · injection e with _ e; exact e.symm
  obtain ⟨ho, hgr⟩ := World.ownsRow.stored (hn ▸ h.2.2.1) i (.string s)
  have hgb : bb ≠ g := own_ne h.2.2.1 h.2.1 (by decide) bb rfl
  have hlb : ∀ k, vl.ownBlock = some k → k ≠ bb := fun k hk e => own_apart h.2.2.2 h.2.2.1 (by decide) k hk (by rw [e]; rfl)
  have hm : Moved w (w.setCell ⟨bb, i, none⟩ (.string s)) (fun k => k = bb) := Moved.set (S := fun k => k = bb) rfl _
  refine ⟨h.1, hm.block h.2.1 (fun e => hgb e.symm), ?_, hm.own h.2.2.2 (fun k hk => hlb k hk)⟩
  show World.ownsRow _ base 9 1 _ (d.blocks.set i s).length (strs (d.blocks.set i s))
  rw [List.length_set, hn, show strs (d.blocks.set i s) = (strs d.blocks).set i (.string s) by simp [strs, List.map_set]]
  exact ho
theorem pgs_snoc (l : List Pg) (p : Pg) : pgs (l ++ [p]) = pgs l ++ [.int .i64 p.at_, .string p.data] := by
  simp [pgs, List.flatMap_append]
/-- A disk's log, one page longer: the new row told in its block. -/
theorem DiskIs.logged {w1 : World} {v1 : Value} (h : DiskIs w base g vb vl d) (p : Pg) (ho : w1.ownsRow base 62 2 v1 (d.log.length + 1) (pgs d.log ++ [.int .i64 p.at_, .string p.data])) (hg : w.grownBy w1 vl.ownBlock) :
    DiskIs (w1.setCell ⟨g, 1, none⟩ v1) base g vb v1 ⟨d.blocks, d.log ++ [p], d.left, d.told, d.down⟩ := by
  have hm : Moved w w1 (fun k => vl.ownBlock = some k) := Moved.of_grown hg (fun k hk => hk.symm)
  have h1 := hm.block h.2.1 (fun e => own_ne h.2.2.2 h.2.1 (by decide) g e rfl)
  have h2 := hm.own h.2.2.1 (fun k hk hk' => own_apart h.2.2.1 h.2.2.2 (by decide) k hk hk')
  have hs : Moved w1 (w1.setCell ⟨g, 1, none⟩ v1) (fun k => k = g) := Moved.set (S := fun k => k = g) rfl _
  refine ⟨h.1, blk_put h1 1 v1 rfl, hs.own h2 (own_ne h2 h1 (by decide)), ?_⟩
  have h3 := hs.own ho (own_ne ho h1 (by decide))
  rw [List.length_append, List.length_singleton, pgs_snoc]
  exact h3
set_option maxRecDepth 100000 in
set_option maxHeartbeats 2000000 in
theorem Write_calls (a : Int) (s : ByteArray) (h : DiskIs w base g vb vl d) (hlog : (d.log.length + 1) * 24 ≤ 140737488355328) : Calls Try.prog 30 #[.pointer (some ⟨g, 0, none⟩), .int .i64 a, .string s] w fun e w' => ∃ vl', e = .returned (.int .i64 (writeD d a s).2) ∧ DiskIs w' base g vb vl' (writeD d a s).1 ∧ (vl'.ownBlock = vl.ownBlock ∨ ∃ b, vl'.ownBlock = some b ∧ w.heap.size ≤ b) ∧ Moved w w' (Foot g vb vl) := by
  have hu78 := Try.underlying78
  have hu62 := Try.underlying62
  have HD := Aside0.mk h
  by_cases h0 : mayD d a = 0
  case neg =>
    have b0 : (mayD d a != 0) = true := bne_iff_ne.2 h0
    unfold writeD
    rw [if_neg h0]
    clear h h0
    go_enter Try.func30, Try.ntmps30
    go_wp2_with (go_at_call 60; refine (may_calls a HD.out).mono ?_; rintro e w2 ⟨rfl, hw⟩; obtain rfl := hw.symm)
    go_ret
    exact ⟨vl, rfl, HD.out, Or.inl rfl, Moved.refl _ _⟩
  obtain ⟨_, ha, hb⟩ := may_zero h0
  have b0 : (mayD d a != 0) = false := by rw [h0]; rfl
  unfold writeD
  rw [if_pos h0]
  by_cases hs : s.size = 256
  case neg =>
    have b1 : ((s.size : Int) != 256) = true := bne_iff_ne.2 (by omega)
    rw [if_neg hs]
    clear h h0 ha hb hs
    go_enter Try.func30, Try.ntmps30
    go_wp2_with (go_at_call 60; refine (may_calls a HD.out).mono ?_; rintro e w2 ⟨rfl, hw⟩; obtain rfl := hw.symm)
    go_ret
    exact ⟨vl, rfl, HD.out, Or.inl rfl, Moved.refl _ _⟩
  have b1 : ((s.size : Int) != 256) = false := bne_eq_false_iff_eq.2 (by omega)
  rw [if_pos hs]
  obtain ⟨Al, cl, rfl, _⟩ := own_slice h.2.2.2
  obtain ⟨bb, c, cur, rfl, hbb, hh, hc, hat⟩ := own_form h.2.2.1 (by omega)
  have c0 := (blk_cell h.2.1 0).trans rfl
  have c1 := (blk_cell h.2.1 1).trans rfl
  have c2 := (blk_cell h.2.1 2).trans rfl
  have c3 := (blk_cell h.2.1 3).trans rfl
  have c4 := (blk_cell h.2.1 4).trans rfl
  have f1 := blk_frozen h.2.1 1
  have f2 := blk_frozen h.2.1 2
  have f4 := blk_frozen h.2.1 4
  have q := (blk_cell hh a.toNat).trans ((hat a.toNat (by omega)).trans (strs_at d.blocks a.toNat (by omega)))
  have fq := blk_frozen hh a.toNat
  have hgb : g ≠ bb := fun e => own_ne h.2.2.1 h.2.1 (by decide) bb rfl e.symm
  have hbg : bb ≠ g := fun e => hgb e.symm
  have HL := Aside0.mk hlog
  generalize d.blocks.getD a.toNat ⟨#[]⟩ = x at q
  have hbs : base ≤ w.heap.size := Nat.le_of_lt (Nat.lt_of_le_of_lt h.1 (blk_lt h.2.1))
  clear h h0 hh hat hs hlog
  cases ht : d.told with
  | true =>
    rw [ht] at c3
    by_cases hl : d.left = 0
    · rw [if_pos ⟨rfl, hl⟩]
      have hlb : (d.left == 0) = true := beq_iff_eq.2 hl
      have HBb := Aside0.mk hbb
      clear hl ha hb hbs hbb
      go_enter Try.func30, Try.ntmps30
      go_wp2_with (go_at_call 60; refine (may_calls a HD.out).mono ?_; rintro e w2 ⟨rfl, hw⟩; obtain rfl := hw.symm)
      go_ret
      have hm : Moved w (w.setCell ⟨g, 4, none⟩ (.bool true)) (fun k => k = g) := Moved.set (S := fun k => k = g) rfl _
      have hD := HD.out.put (told' := d.told) (down' := true) (blk_put HD.out.2.1 4 _ rfl) hm
      rw [ht] at hD
      exact ⟨_, rfl, hD, Or.inl rfl, hm.mono (fun k _ hk => Or.inl hk)⟩
    · rw [if_neg (fun e => hl e.2)]
      have hlb : (d.left == 0) = false := beq_eq_false_iff_ne.2 hl
      have D1 := Aside0.mk (HD.out.put (w' := w.setCell ⟨g, 2, none⟩ (.int .i64 (wrap64 (d.left - 1)))) (left' := wrap64 (d.left - 1)) (told' := d.told) (down' := d.down) (blk_put HD.out.2.1 2 _ rfl) (Moved.set (S := fun k => k = g) rfl _))
      have D2 := Aside0.mk (D1.out.setBlock a.toNat s)
      have HBs : Aside0 (base ≤ ((w.setCell ⟨g, 2, none⟩ (.int .i64 (wrap64 (d.left - 1)))).setCell ⟨bb, a.toNat, none⟩ (.string s)).heap.size) := ⟨by simpa [World.setCell] using hbs⟩
      clear hl hbb hbs
      go_enter Try.func30, Try.ntmps30
      go_wp2_with (first
        | (go_at_call 60; refine (may_calls a HD.out).mono ?_; rintro e w2 ⟨rfl, hw⟩; obtain rfl := hw.symm)
        | ((with_reducible refine gate_builtin (b := .append) (xs := #[.tmp 53, .tmp 57]) rfl ?_); at_builtin; refine print_append_cells (w0 := (w.setCell ⟨g, 2, none⟩ (.int .i64 (wrap64 (d.left - 1)))).setCell ⟨bb, a.toNat, none⟩ (.string s)) base rfl (.tmp 53) (.tmp 57) 35 62 (.agg #[(.int .i64 0), (.string ⟨#[]⟩)]) 2 24 rfl Try.underlying35 info62 rfl (by decide) (by decide) (.slice Al d.log.length cl) d.log.length (pgs d.log) [.int .i64 a, .string s] rfl (by first | rfl | (simp [World.setCell]; done) | (show Value.slice (some ⟨w.heap.size, 0, none⟩) 1 1 = _; simp [World.setCell])) rfl (by intro u hu; simp at hu; rcases hu with rfl | rfl <;> rfl) D2.out.2.2.2 (Below.refl _ _) HBs.out HL.out ?_; intro v1 w3 ho _ hg hat; have hm3 := Moved.of_grown (S := fun k => (Value.slice Al d.log.length cl).ownBlock = some k) hg (fun k hk => hk.symm); have h1 := hm3.block D2.out.2.1 (fun e => own_ne D2.out.2.2.2 D2.out.2.1 (by decide) g e rfl); obtain ⟨A1, c1, e1, _⟩ := own_slice ho; subst e1; have HO := Aside0.mk ho; have HG := Aside0.mk hg; have HAt := Aside0.mk hat; have HM3 := Aside0.mk hm3; have z1 := (blk_cell h1 1).trans rfl; have z1f := blk_frozen h1 1; clear ho hg hat hm3 h1))
      go_ret
      have hD := D2.out.logged ⟨a, s⟩ HO.out HG.out
      unfold putD
      rw [if_pos ht]
      refine ⟨rfl, _, hD, ?_, ?_⟩
      · rcases HAt.out with e | ⟨b, e, hb'⟩
        · exact Or.inl e
        · exact Or.inr ⟨b, e, by simpa [World.setCell] using hb'⟩
      · refine Moved.trans (Moved.trans (Moved.trans (Moved.set (j := 2) (Or.inl rfl) _) (Moved.set (j := a.toNat) (Or.inr (Or.inl rfl)) _)) (HM3.out.mono (fun k _ hk => Or.inr (Or.inr hk)))) (Moved.set (Or.inl rfl) _)
  | false =>
    rw [ht] at c3
    rw [if_neg (fun e => by cases e.1)]
    have D2 := Aside0.mk (HD.out.setBlock a.toNat s)
    have HBs : Aside0 (base ≤ (w.setCell ⟨bb, a.toNat, none⟩ (.string s)).heap.size) := ⟨by simpa [World.setCell] using hbs⟩
    clear hbb hbs
    go_enter Try.func30, Try.ntmps30
    go_wp2_with (first
      | (go_at_call 60; refine (may_calls a HD.out).mono ?_; rintro e w2 ⟨rfl, hw⟩; obtain rfl := hw.symm)
      | ((with_reducible refine gate_builtin (b := .append) (xs := #[.tmp 53, .tmp 57]) rfl ?_); at_builtin; refine print_append_cells (w0 := w.setCell ⟨bb, a.toNat, none⟩ (.string s)) base rfl (.tmp 53) (.tmp 57) 35 62 (.agg #[(.int .i64 0), (.string ⟨#[]⟩)]) 2 24 rfl Try.underlying35 info62 rfl (by decide) (by decide) (.slice Al d.log.length cl) d.log.length (pgs d.log) [.int .i64 a, .string s] rfl (by first | rfl | (simp [World.setCell]; done) | (show Value.slice (some ⟨w.heap.size, 0, none⟩) 1 1 = _; simp [World.setCell])) rfl (by intro u hu; simp at hu; rcases hu with rfl | rfl <;> rfl) D2.out.2.2.2 (Below.refl _ _) HBs.out HL.out ?_; intro v1 w3 ho _ hg hat; have hm3 := Moved.of_grown (S := fun k => (Value.slice Al d.log.length cl).ownBlock = some k) hg (fun k hk => hk.symm); have h1 := hm3.block D2.out.2.1 (fun e => own_ne D2.out.2.2.2 D2.out.2.1 (by decide) g e rfl); obtain ⟨A1, c1, e1, _⟩ := own_slice ho; subst e1; have HO := Aside0.mk ho; have HG := Aside0.mk hg; have HAt := Aside0.mk hat; have HM3 := Aside0.mk hm3; have z1 := (blk_cell h1 1).trans rfl; have z1f := blk_frozen h1 1; clear ho hg hat hm3 h1))
    go_ret
    have hD := D2.out.logged ⟨a, s⟩ HO.out HG.out
    unfold putD
    rw [if_neg (by rw [ht]; decide)]
    refine ⟨rfl, _, hD, ?_, ?_⟩
    · rcases HAt.out with e | ⟨b, e, hb'⟩
      · exact Or.inl e
      · exact Or.inr ⟨b, e, by simpa [World.setCell] using hb'⟩
    · refine Moved.trans (Moved.trans (Moved.set (j := a.toNat) (Or.inr (Or.inl rfl)) _) (HM3.out.mono (fun k _ hk => Or.inr (Or.inr hk)))) (Moved.set (Or.inl rfl) _)
end
end Go.Proofs.Ytgageigcjeaenaa.Disk
