/- Disks: contracts and laws, walked by hand. No condition beside those that each theorem names. -/
import Derived.Test.YtgageigcjeaenaaDisk8
namespace Go.Proofs.Ytgageigcjeaenaa.Disk
open Go.RowKit Go.Proofs.YtgageigcjeaenaaW.PrintWords Go.Proofs.YtgageigcjeaenaaW.PrintLast Go.Proofs.YtgageigcjeaenaaW.PrintMore Go.Proofs.Ytgageigcjeaenaa.MixBase Go.Proofs.Ytgageigcjeaenaa.MixPlain Go.Proofs.Ytgageigcjeaenaa.NumBase Go.Proofs.Ytgageigcjeaenaa.PadPlain
attribute [local go_sem] max2_int min2_int max_two min_two max_three min_three max_four min_four
set_option linter.unusedVariables false
set_option linter.unusedSimpArgs false
def TextsAt (w : World) (A : Option Addr) (n : Nat) (Sx : Nat → ByteArray) : Prop := ∀ i, i < n → ∃ ad, A = some ad ∧ w.cell? (ad.add i) = some (.string (Sx i))
def textOf (n : Nat) (Sx : Nat → ByteArray) (i : Nat) : ByteArray := if i < n then Sx i else ⟨#[]⟩
def blks (n : Nat) (Sx : Nat → ByteArray) (m : Nat) : List ByteArray := (List.range m).map fun i => blockS (textOf n Sx i)
theorem blks_length (n : Nat) (Sx : Nat → ByteArray) (m : Nat) : (blks n Sx m).length = m := by simp [blks]
theorem blks_succ (n : Nat) (Sx : Nat → ByteArray) (m : Nat) : blks n Sx (m + 1) = blks n Sx m ++ [blockS (textOf n Sx m)] := by simp [blks, List.range_succ]
theorem blks_of (n : Nat) (Sx : Nat → ByteArray) : ofErr (blks n Sx 64) = 0 := by
  unfold ofErr
  rw [blks_length, if_pos (by omega), if_pos]
  rw [List.all_eq_true]
  intro x hx
  obtain ⟨i, _, rfl⟩ := List.mem_map.1 hx
  rw [blockS_size]
  rfl
def replay (b : List ByteArray) (log : List Pg) : List ByteArray := log.foldl (fun b p => b.set p.at_.toNat p.data) b
theorem replay_snoc (b : List ByteArray) (log : List Pg) (p : Pg) : replay b (log ++ [p]) = (replay b log).set p.at_.toNat p.data := by simp [replay, List.foldl_append]
theorem replay_length (log : List Pg) : ∀ b : List ByteArray, (replay b log).length = b.length := by
  induction log with
  | nil => intro b; rfl
  | cons p log ih => intro b; show (replay (b.set _ _) log).length = _; rw [ih, List.length_set]
/-- What the writes come to. -/
def LI (b : List ByteArray) (m : Nat) (d : Dk) : Prop := d.told = false ∧ d.down = false ∧ d.log.length = m ∧ d.blocks = replay b d.log ∧ d.blocks.length = 64 ∧ ∀ p ∈ d.log, 0 ≤ p.at_ ∧ p.at_ < 64
theorem LI_step {b : List ByteArray} {m : Nat} {d : Dk} (h : LI b m d) (a : Int) (h0 : 0 ≤ a) (h1 : a < 64) (s : ByteArray) (hs : s.size = 256) : LI b (m + 1) (writeD d a s).1 := by
  obtain ⟨i1, i2, i3, i4, i5, i6⟩ := h
  have hm : mayD d a = 0 := by
    unfold mayD
    rw [i2, if_neg (by decide), if_neg (by rw [i5]; omega)]
  rw [writeD_ok hm hs (fun e => by rw [i1] at e; exact absurd e.1 (by decide))]
  refine ⟨i1, i2, ?_, ?_, ?_, ?_⟩
  · show (d.log ++ [_]).length = m + 1
    rw [List.length_append, i3]
    rfl
  · show d.blocks.set a.toNat s = replay b (d.log ++ [⟨a, s⟩])
    rw [replay_snoc, ← i4]
  · show (d.blocks.set a.toNat s).length = 64
    rw [List.length_set, i5]
  · intro p hp
    rcases List.mem_append.1 (show p ∈ d.log ++ [⟨a, s⟩] from hp) with h | h
    · exact i6 p h
    · rw [List.mem_singleton.1 h]
      exact ⟨h0, h1⟩
def kindS (a n : Int) : Int := (IntKind.u64.wrap a) % n
theorem kindS_in (a n : Int) (hn : 0 < n) : 0 ≤ kindS a n ∧ kindS a n < n := ⟨Int.emod_nonneg _ (by omega), Int.emod_lt_of_pos _ hn⟩
theorem kind_calls (a n : Int) (hn : 0 < n) (hn1 : n < 1000) (w : World) : Calls Try.prog 36 #[.int .i64 a, .int .i64 n] w fun e w' => e = .returned (.int .i64 (kindS a n)) ∧ Drawn0 w w' :=
  aumbrylaw09_kind.calls a n (kindS a n) w (by
    have hk := kindS_in a n hn
    have hu : IntKind.u64.wrap n = n := u64_small (by omega) (by omega)
    have h0 : 0 ≤ IntKind.u64.wrap a := by
      have h : IntKind.u64.wrap a = a % 18446744073709551616 := rfl
      omega
    unfold aumbrylaw09_kind.f
    rw [hu, if_neg (by omega), Int.tmod_eq_emod_of_nonneg h0]
    have e : wrap64 (IntKind.u64.wrap a % n) = kindS a n := wrap64_small (by unfold kindS at hk; omega) (by unfold kindS at hk; omega)
    rw [e])
theorem pgs_at (l : List Pg) : ∀ (i : Nat) (p : Pg), l[i]? = some p → (pgs l)[i * 2]? = some (.int .i64 p.at_) ∧ (pgs l)[i * 2 + 1]? = some (.string p.data) := by
  induction l with
  | nil => intro i p h; simp at h
  | cons a l ih =>
    intro i p h
    have e : pgs (a :: l) = [.int .i64 a.at_, .string a.data] ++ pgs l := by simp [pgs]
    rw [e]
    cases i with
    | zero =>
      simp at h
      subst h
      exact ⟨rfl, rfl⟩
    | succ i =>
      rw [List.getElem?_cons_succ] at h
      obtain ⟨h1, h2⟩ := ih i p h
      refine ⟨?_, ?_⟩
      · rw [List.getElem?_append_right (by simp; omega)]
        simpa [show (i + 1) * 2 - 2 = i * 2 by omega] using h1
      · rw [List.getElem?_append_right (by simp; omega)]
        simpa [show (i + 1) * 2 + 1 - 2 = i * 2 + 1 by omega] using h2
end Go.Proofs.Ytgageigcjeaenaa.Disk
