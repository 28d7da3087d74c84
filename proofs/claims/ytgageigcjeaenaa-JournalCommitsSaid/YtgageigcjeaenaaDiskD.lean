/- Disks: contracts and laws, walked by hand. No condition beside those that each theorem names. -/
import Derived.Test.YtgageigcjeaenaaDiskC
namespace Go.Proofs.Ytgageigcjeaenaa.Disk
open Go.RowKit Go.Proofs.YtgageigcjeaenaaW.PrintWords Go.Proofs.YtgageigcjeaenaaW.PrintLast Go.Proofs.YtgageigcjeaenaaW.PrintMore Go.Proofs.Ytgageigcjeaenaa.MixBase Go.Proofs.Ytgageigcjeaenaa.MixPlain Go.Proofs.Ytgageigcjeaenaa.NumBase Go.Proofs.Ytgageigcjeaenaa.PadPlain
attribute [local go_sem] max2_int min2_int max_two min_two max_three min_three max_four min_four
set_option linter.unusedVariables false
set_option linter.unusedSimpArgs false
/-- The document's disk, in a world that has gone on from W. -/
def RSt (W w : World) (g : Nat) (vb vl : Value) (d : Dk) : Prop := RefIs w W.heap.size g vb vl d ∧ Below W.heap.size W w
section
variable {W w w' : World} {g h : Nat} {vb vl ub ul : Value} {d : Dk}
theorem RSt.moved (h : RSt W w g vb vl d) {S : Nat → Prop} (hm : Moved w w' S) (hn : ∀ k, Foot g vb vl k → ¬ S k) (hs : ∀ k, k < w.heap.size → S k → W.heap.size ≤ k) : RSt W w' g vb vl d :=
  ⟨h.1.moved hm hn, hm.below h.2 h.2.size hs⟩
theorem RSt.foot (h : RSt W w g vb vl d) {k : Nat} (hk : Foot g vb vl k) : W.heap.size ≤ k ∧ k < w.heap.size := h.1.foot_lt hk
/-- Both disks, told alike, apart from each other. -/
def Two (W w : World) (g : Nat) (vb vl : Value) (h : Nat) (ub ul : Value) (d : Dk) : Prop := St W w g vb vl d ∧ RSt W w h ub ul d ∧ ∀ k, Foot g vb vl k → ¬ Foot h ub ul k
theorem Two.below (t : Two W w g vb vl h ub ul d) (hb : Below w.heap.size w w') : Two W w' g vb vl h ub ul d :=
  ⟨t.1.below hb, t.2.1.moved (Moved.of_below hb (fun _ => False)) (fun _ _ h => h) (fun _ _ h => h.elim), t.2.2⟩
/-- Half done: the program's disk is ahead of the document's. -/
def Half (W w : World) (g : Nat) (vb vl : Value) (h : Nat) (ub ul : Value) (d1 d2 : Dk) : Prop := St W w g vb vl d1 ∧ RSt W w h ub ul d2 ∧ ∀ k, Foot g vb vl k → ¬ Foot h ub ul k
theorem Half.below {d1 d2 : Dk} (t : Half W w g vb vl h ub ul d1 d2) (hb : Below w.heap.size w w') : Half W w' g vb vl h ub ul d1 d2 :=
  ⟨t.1.below hb, t.2.1.moved (Moved.of_below hb (fun _ => False)) (fun _ _ h => h) (fun _ _ h => h.elim), t.2.2⟩
theorem Write_two (a : Int) (s : ByteArray) (t : Two W w g vb vl h ub ul d) (hlog : (d.log.length + 1) * 24 ≤ 140737488355328) : Calls Try.prog 30 #[.pointer (some ⟨g, 0, none⟩), .int .i64 a, .string s] w fun e w' => ∃ vl', e = .returned (.int .i64 (writeD d a s).2) ∧ Half W w' g vb vl' h ub ul (writeD d a s).1 d ∧ Moved w w' (Foot g vb vl) :=
  (Write_st a s t.1 hlog).mono fun e w' ⟨vl', e1, h1, h2, h3⟩ => ⟨vl', e1, ⟨h1, t.2.1.moved h3 (fun k hk hf => t.2.2 k hf hk) (fun k _ hk => (t.1.foot hk).1), fun k hk hf => by
    rcases h2 k hk with h | h
    · exact t.2.2 k h hf
    · have := (t.2.1.foot hf).2
      omega⟩, h3⟩
theorem RefWrite_half (a : Int) (s : ByteArray) {d1 : Dk} (t : Half W w g vb vl h ub ul d1 d) (hlog : (d.log.length + 1) * 24 ≤ 140737488355328) : Calls Try.prog 58 #[.pointer (some ⟨h, 0, none⟩), .int .i64 a, .string s] w fun e w' => ∃ ul', e = .returned (.int .i64 (writeD d a s).2) ∧ Half W w' g vb vl h ub ul' d1 (writeD d a s).1 ∧ Moved w w' (Foot h ub ul) :=
  (RefWrite_calls a s t.2.1.1 hlog).mono fun e w' ⟨ul', e1, h1, h2, h3⟩ => ⟨ul', e1, ⟨t.1.moved h3 (fun k hk hf => t.2.2 k hk hf) (fun k _ hk => (t.2.1.foot hk).1), ⟨h1, h3.below t.2.1.2 t.2.1.2.size (fun k _ hk => (t.2.1.foot hk).1)⟩, fun k hk hf => by
    rcases hf with hf | hf | hf
    · exact t.2.2 k hk (Or.inl hf)
    · exact t.2.2 k hk (Or.inr (Or.inl hf))
    · rcases h2 with e | ⟨b, e, hb⟩
      · exact t.2.2 k hk (Or.inr (Or.inr (e ▸ hf)))
      · rw [e] at hf
        injection hf with hf
        have := (t.1.foot hk).2
        omega⟩, h3⟩
theorem Cut_two (n : Int) (t : Two W w g vb vl h ub ul d) : Calls Try.prog 14 #[.pointer (some ⟨g, 0, none⟩), .int .i64 n] w fun e w' => e = .returned (.tuple #[]) ∧ Half W w' g vb vl h ub ul (cutD d n) d ∧ Moved w w' (Foot g vb vl) :=
  (Cut_st n t.1).mono fun e w' ⟨e1, h1, h3⟩ => ⟨e1, ⟨h1, t.2.1.moved h3 (fun k hk hf => t.2.2 k hf hk) (fun k _ hk => (t.1.foot hk).1), t.2.2⟩, h3⟩
theorem RefCut_half (n : Int) {d1 : Dk} (t : Half W w g vb vl h ub ul d1 d) : Calls Try.prog 15 #[.pointer (some ⟨h, 0, none⟩), .int .i64 n] w fun e w' => e = .returned (.tuple #[]) ∧ Half W w' g vb vl h ub ul d1 (cutD d n) :=
  (RefCut_calls n t.2.1.1).mono fun e w' ⟨e1, h1, h3⟩ => ⟨e1, t.1.moved h3 (fun k hk hf => t.2.2 k hk (Or.inl hf)) (fun k _ hk => hk ▸ t.2.1.1.1), ⟨h1, h3.below t.2.1.2 t.2.1.2.size (fun k _ hk => hk ▸ t.2.1.1.1)⟩, t.2.2⟩
theorem Restore_two (t : Two W w g vb vl h ub ul d) : Calls Try.prog 32 #[.pointer (some ⟨g, 0, none⟩)] w fun e w' => e = .returned (.tuple #[]) ∧ Half W w' g vb vl h ub ul (restoreD d) d :=
  (Restore_st t.1).mono fun e w' ⟨e1, h1, h3⟩ => ⟨e1, h1, t.2.1.moved h3 (fun k hk hf => t.2.2 k hf hk) (fun k _ hk => (t.1.foot hk).1), t.2.2⟩
theorem RefRestore_half {d1 : Dk} (t : Half W w g vb vl h ub ul d1 d) : Calls Try.prog 59 #[.pointer (some ⟨h, 0, none⟩)] w fun e w' => e = .returned (.tuple #[]) ∧ Half W w' g vb vl h ub ul d1 (restoreD d) :=
  (RefRestore_calls t.2.1.1).mono fun e w' ⟨e1, h1, h3⟩ => ⟨e1, t.1.moved h3 (fun k hk hf => t.2.2 k hk (Or.inl hf)) (fun k _ hk => hk ▸ t.2.1.1.1), ⟨h1, h3.below t.2.1.2 t.2.1.2.size (fun k _ hk => hk ▸ t.2.1.1.1)⟩, t.2.2⟩
end
theorem refnew_push {w : World} {base g : Nat} {vb : Value} {i : Nat} {z : ByteArray} {w1 : World} {v1 : Value} (h : RefIs w base g vb (.slice none 0 0) ⟨List.replicate i z, [], 0, false, false⟩) (ho : w1.ownsRow base 9 1 v1 (i + 1) (strs (List.replicate i z) ++ [.string z])) (hg : w.grownBy w1 vb.ownBlock) :
    RefIs (w1.setCell ⟨g, 0, none⟩ v1) base g v1 (.slice none 0 0) ⟨List.replicate (i + 1) z, [], 0, false, false⟩ := by
  have hm : Moved w w1 (fun k => vb.ownBlock = some k) := Moved.of_grown hg (fun k hk => hk.symm)
  have h1 := hm.block h.2.1 (fun e => own_ne h.2.2.1 h.2.1 (by decide) g e rfl)
  have hs : Moved w1 (w1.setCell ⟨g, 0, none⟩ v1) (fun k => k = g) := Moved.set (S := fun k => k = g) rfl _
  refine ⟨h.1, blk_put h1 0 v1 rfl, ?_, own_none _ _ _⟩
  have h3 := hs.own ho (own_ne ho h1 (by decide))
  show World.ownsRow _ _ 9 1 _ (List.replicate (i + 1) z).length (strs (List.replicate (i + 1) z))
  rw [List.length_replicate, show strs (List.replicate (i + 1) z) = strs (List.replicate i z) ++ [.string z] by simp [strs, List.replicate_succ']]
  exact h3
set_option maxRecDepth 100000 in
theorem RefNew_bad (a : Int) (h : ¬ (64 ≤ a ∧ a ≤ 2048)) (w : World) : Calls Try.prog 28 #[.int .i64 a] w fun e w' => e = .returned (.pointer none) ∧ w' = w := by
  by_cases h1 : a < 64
  · have b1 : decide (a < 64) = true := decide_eq_true h1
    clear h h1
    go_enter Try.func28, Try.ntmps28
    go_wp2
    go_ret
    exact ⟨rfl, rfl⟩
  · have b1 : decide (a < 64) = false := decide_eq_false h1
    have b2 : decide (2048 < a) = true := decide_eq_true (by omega)
    clear h h1
    go_enter Try.func28, Try.ntmps28
    go_wp2
    go_ret
    exact ⟨rfl, rfl⟩
set_option maxRecDepth 100000 in
set_option maxHeartbeats 2000000 in
theorem RefNew_calls (n : Nat) (h1 : 64 ≤ n) (h2 : n ≤ 2048) (w : World) : Calls Try.prog 28 #[.int .i64 (n : Int)] w fun e w' => ∃ g vb, e = .returned (.pointer (some ⟨g, 0, none⟩)) ∧ RefIs w' w.heap.size g vb (.slice none 0 0) (newD n) ∧ Below w.heap.size w w' := by
  have hu39 := Try.underlying39
  have b1 : decide ((n : Int) < 64) = false := decide_eq_false (by omega)
  have b2 : decide (2048 < (n : Int)) = false := decide_eq_false (by omega)
  have H2 := Aside0.mk h2
  clear h1 h2
  go_enter Try.func28, Try.ntmps28
  go_wp2_with (first
    | ((with_reducible refine gate_dst (N := 13) rfl ?_); refine box_event ?hg (N := 13) ?hd (cs := #[.slice none 0 0, .slice none 0 0, .bool false, .int .i64 0, .bool false]) (t := 39) ?hr ?_; (case hd => rfl); (case hg => rfl); (case hr => first | (go_simp; done) | (go_simp; rfl)); intro g hg wb hbox hb; have R0 : Aside0 (RefIs wb w.heap.size g (.slice none 0 0) (.slice none 0 0) ⟨List.replicate 0 (zeros 256), [], 0, false, false⟩) := ⟨⟨Nat.le_of_eq hg.symm, hbox, own_none _ _ _, own_none _ _ _⟩⟩; have HB0 := Aside0.mk hb; clear hbox hb hg)
    | (go_at_call 37; refine (Zeros_calls 256 (by decide) _).mono ?_; rintro e wk ⟨rfl, hb⟩; have R1 := Aside0.mk (R0.out.moved (Moved.of_below hb (fun _ => False)) (fun _ _ h => h)); have HB1 := Aside0.mk (below_step HB0.out hb); clear hb))
  go_loopg [5] n (fun kq v5 wr => ∃ (i : Nat) (vb : Value), v5 = .int .i64 (i : Int) ∧ i ≤ n ∧ Aside0 (kq = n - i) ∧ Aside0 (RefIs wr w.heap.size g vb (.slice none 0 0) ⟨List.replicate i (zeros 256), [], 0, false, false⟩) ∧ Aside0 (Below w.heap.size w wr))
  case atStart => exact ⟨0, _, rfl, Nat.zero_le _, ⟨rfl⟩, R1, HB1⟩
  case round =>
    clear R0 R1 HB0 HB1
    obtain ⟨i, vb, rfl, hi, hkq, R, HB⟩ := hrel
    have hown := R.out.2.2.1
    rw [List.length_replicate] at hown
    obtain ⟨A, c, rfl, _⟩ := own_slice hown
    by_cases hil : i < n
    · have hi0 : 0 ≤ (i : Int) := by omega
      have hiz : (i : Int) < (n : Int) := by omega
      have HI : Aside0 (i < 2048) := ⟨by have := H2.out; omega⟩
      have c0 := (blk_cell R.out.2.1 0).trans rfl
      have HO := Aside0.mk hown
      have HBs : Aside0 (w.heap.size ≤ wr.heap.size) := ⟨HB.out.size⟩
      clear hown
      go_wp2_with ((with_reducible refine gate_builtin (b := .append) (xs := #[.tmp 24, .tmp 26]) rfl ?_); at_builtin; refine print_append_cells (w0 := wr) w.heap.size rfl (.tmp 24) (.tmp 26) 37 9 (.string ⟨#[]⟩) 1 16 rfl Try.underlying37 info9 rfl (by decide) (by decide) (.slice A i c) i (strs (List.replicate i (zeros 256))) [.string (zeros 256)] rfl rfl rfl (by intro u hu; simp at hu; subst hu; rfl) HO.out (Below.refl _ _) HBs.out (by have := HI.out; omega) ?_; intro v1 w3 ho hb hg _; obtain ⟨A1, c1, e1, _⟩ := own_slice ho; subst e1; have h1 := (Moved.of_grown (S := fun k => (Value.slice A i c).ownBlock = some k) hg (fun k hk => hk.symm)).block R.out.2.1 (fun e => own_ne HO.out R.out.2.1 (by decide) g e rfl); have z0 := (blk_cell h1 0).trans rfl; have z0f := blk_frozen h1 0; have HO3 := Aside0.mk ho; have HG3 := Aside0.mk hg; have HB3 := Aside0.mk ((Moved.of_grown (S := fun k => (Value.slice A i c).ownBlock = some k) hg (fun k hk => hk.symm)).below HB.out HBs.out (fun k _ hk => own_base HO.out k hk)); clear ho hb hg h1)
      go_roundg (n - (i + 1))
      case measure => have := hkq.out; omega
      case rel => exact ⟨i + 1, _, by have := HI.out; first | rfl | (rw [wrap64_small (by omega) (by omega)]; rfl), by omega, ⟨rfl⟩, ⟨refnew_push R.out HO3.out HG3.out⟩, ⟨HB3.out.setCell R.out.1 _⟩⟩
    · obtain rfl : i = n := by omega
      clear hil hi hkq hown
      go_wp2
      go_ret
      exact ⟨_, _, rfl, R.out, HB.out⟩
end Go.Proofs.Ytgageigcjeaenaa.Disk
