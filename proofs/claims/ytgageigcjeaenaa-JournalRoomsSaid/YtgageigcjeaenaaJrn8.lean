/- Disks: contracts and laws, walked by hand. No condition beside those that each theorem names. -/
import Derived.Test.YtgageigcjeaenaaJrn7
import Derived.Deep.Slices
import Derived.Deep.Fields
import Derived.ChangeSame
import Derived.ProofKit
import Derived.SizedLaws
namespace Go.Proofs.Ytgageigcjeaenaa.Disk
open Go.RowKit Go.Proofs.YtgageigcjeaenaaW.PrintWords Go.Proofs.YtgageigcjeaenaaW.PrintLast Go.Proofs.YtgageigcjeaenaaW.PrintMore Go.Proofs.Ytgageigcjeaenaa.MixBase Go.Proofs.Ytgageigcjeaenaa.MixPlain Go.Proofs.Ytgageigcjeaenaa.NumBase Go.Proofs.Ytgageigcjeaenaa.PadPlain
attribute [local go_sem] max2_int min2_int max_two min_two max_three min_three max_four min_four
set_option linter.unusedVariables false
set_option linter.unusedSimpArgs false
section
open Go.ChangeShapes Go.WideShapes Go.Deep
variable {H : Type} {enc : TypeId × Value → H} {P : Program} {w : World} {base : Nat} {spare : Nat → Bool} {held : Bool}
theorem open_slice_fieldsJ {t e : TypeId} {fs : Array Field} {fuel : Nat} {cs : List Value} {x : DataW H × List MemPlace} (ht : P.underlying t = some (.slice e)) (he : P.underlying e = some (.struct fs))
    (hone : oneCellFields P fs = true) (hC : P.cellsOf e = fs.size) (h : DataW.trod enc P w base spare held fuel t cs = some x) :
    (cs = [.slice none 0 0] ∧ x = (.nil, [])) ∨
    ∃ (a : Addr) (len cap m : Nat) (D : Nat → DataW H) (Pl : Nat → List MemPlace), cs = [.slice (some a) len cap] ∧ base ≤ a.block ∧ len ≤ cap ∧ cap ≤ maxLen ∧ m = (if spare a.block then cap else len) ∧
      x = (.slice ((List.range len).map D) ((List.range (m - len)).map fun j => D (len + j)), MemPlace.row a (m * fs.size) ++ (List.range m).flatMap Pl) ∧
      ∀ i, i < m → ∃ (ys : List (DataW H × List MemPlace)) (n : Nat), D i = .agg (ys.map (·.1)) ∧ Pl i = ys.flatMap (·.2) ∧ ys.length = fs.size ∧
        ∀ (j : Nat) (f : Field), fs[j]? = some f → ∃ (v : Value) (y : DataW H × List MemPlace), w.cell? (a.add (i * fs.size + j)) = some v ∧ ys[j]? = some y ∧ DataW.trod enc P w base spare held n f.type [v] = some y := by
  rcases open_slice ht h with h0 | ⟨a, len, cap, m, n, D, Pl, hcs, hb, hl, hm, hmm, hx, hi⟩
  · exact .inl h0
  · refine .inr ⟨a, len, cap, m, D, Pl, hcs, hb, hl, hm, hmm, by rw [hC] at hx; exact hx, fun i him => ?_⟩
    obtain ⟨cs', hc, ht'⟩ := hi i him
    rw [hC] at hc
    obtain ⟨ys, n', hn', hy, hlen, hyl, hf⟩ := DataW.trod_struct he ht'
    obtain ⟨_, hcl, hat⟩ := World.cells?_some hc
    simp only [Prod.mk.injEq] at hy
    refine ⟨ys, n', hy.1, hy.2, hyl, fun j f hj => ?_⟩
    obtain ⟨ho, hk⟩ := hone_of hone j f hj
    have hjl : j < fs.size := (Array.getElem?_eq_some_iff.1 hj).1
    have hcell := hat j hjl
    have hv : cs'[j]? = some (cs'[j]'(by omega)) := List.getElem?_eq_getElem (by omega)
    have h1 := hf j f hj
    rw [ho, hk] at h1
    have hone' : (cs'.drop j).take 1 = [cs'[j]'(by omega)] := by
      rw [List.drop_eq_getElem_cons (by omega)]
      rfl
    rw [hone'] at h1
    have hys : ys[j]? = some (ys[j]'(by omega)) := List.getElem?_eq_getElem (by omega)
    refine ⟨_, _, ?_, hys, h1.trans hys⟩
    rw [← Go.Deep.add_add, hcell, hv]
/-- A slice of pages that came in. -/
theorem open_pages {ts : List TypeId} {ds : List (DataW H)} {j : Nat} {a : Option Addr} {len cap : Nat} {d : DataW H} {ps : List MemPlace}
    (hsz : (DataW.weightsEach Try.prog ts ds).all (· ≤ reachBytes) = true) (htj : ts[j]? = some 35) (hdj : ds[j]? = some d)
    (h : DataW.Trod enc Try.prog w 0 (fun _ => true) true 35 (.slice a len cap) d ps) :
    ∃ l : List QJour.S62, l.length = len ∧ len ≤ cap ∧ Kd.C QJour.k62 w a len l ∧ len * 24 ≤ 140737488351232 := by
  obtain ⟨fuel, hf⟩ := h
  rcases open_slice_fieldsJ Try.underlying35 Try.underlying62 (by kernel_rfl) (by kernel_rfl) hf with ⟨hcs, _⟩ | ⟨x, l, c, m, D, Pl, hcs, _, hl, hm, hmm, hx, hel⟩
  · simp [Value.cells] at hcs
    obtain ⟨rfl, rfl, rfl⟩ := hcs
    exact ⟨[], rfl, Nat.le_refl _, ⟨rfl, by decide, fun h => absurd h (by decide)⟩, by omega⟩
  · simp [Value.cells] at hcs
    obtain ⟨rfl, rfl, rfl⟩ := hcs
    simp only [if_true] at hmm
    obtain ⟨hx, _⟩ := Prod.mk.inj hx
    subst hx
    have z := sized_slice hsz htj hdj Try.underlying35
    rw [show Try.prog.bytesOf 62 = 24 from by kernel_rfl] at z
    simp only [List.length_map, List.length_range] at z
    have hz : (len + (m - len)) * 24 ≤ 140737488351232 := z
    have hent : ∀ i, i < len → ∃ e : QJour.S62, w.cell? (x.add (i * 2)) = some (.int .i64 e.f0) ∧ w.cell? ⟨(x.add (i * 2)).block, (x.add (i * 2)).off + 1, none⟩ = some (.string e.f1) := by
      intro i hi
      obtain ⟨ys, n, _, _, _, hfs⟩ := hel i (by omega)
      obtain ⟨v0, y0, hc0, _, ht0⟩ := hfs 0 _ rfl
      obtain ⟨v1, y1, hc1, _, ht1⟩ := hfs 1 _ rfl
      obtain ⟨a0, e0, _, _⟩ := DataW.trod_int Try.underlying3 ht0
      obtain ⟨a1, e1, _, _⟩ := DataW.trod_string Try.underlying9 ht1
      simp only [List.cons.injEq, and_true] at e0 e1
      subst e0 e1
      exact ⟨⟨a0, a1⟩, by simpa using hc0, by rw [← add_field _ _ 1 (by omega)]; exact hc1⟩
    have key : ∀ n, n ≤ len → ∃ l : List QJour.S62, l.length = n ∧ ∀ i e, l[i]? = some e → w.cell? (x.add (i * 2)) = some (.int .i64 e.f0) ∧ w.cell? ⟨(x.add (i * 2)).block, (x.add (i * 2)).off + 1, none⟩ = some (.string e.f1) := by
      intro n
      induction n with
      | zero => intro _; exact ⟨[], rfl, fun i e h => by simp at h⟩
      | succ n ih =>
        intro hn
        obtain ⟨l, h1, h2⟩ := ih (by omega)
        obtain ⟨e, he⟩ := hent n (by omega)
        refine ⟨l ++ [e], by rw [List.length_append, h1]; rfl, fun i e' hi => ?_⟩
        rcases Nat.lt_or_ge i l.length with h3 | h3
        · rw [List.getElem?_append_left h3] at hi
          exact h2 i e' hi
        · have h4 := (List.getElem?_eq_some_iff.1 hi).1
          rw [List.length_append, List.length_singleton] at h4
          obtain rfl : i = l.length := by omega
          simp at hi
          subst hi
          rw [h1]
          exact he
    obtain ⟨l, hll, hle⟩ := key len (Nat.le_refl _)
    refine ⟨l, hll, hl, ⟨hll, by omega, fun _ => ⟨x, rfl, fun i p hp => ⟨[.int .i64 p.f0, .string p.f1], rfl, ⟨[.int .i64 p.f0], [.string p.f1], rfl, rfl, rfl⟩, ?_⟩⟩⟩, by omega⟩
    intro q u hu
    have h1 := hle i p hp
    match q, hu with
    | 0, hu => cases hu; exact h1.1
    | 1, hu =>
      cases hu
      rw [← add_field _ _ 1 (by omega)] at h1
      exact h1.2
end
set_option maxRecDepth 100000 in
theorem JournalNil_walk (A : Option Addr) (c : Nat) (l : List QJour.S62) (W : World) (hC : Kd.C QJour.k62 W A l.length l) (hc : l.length ≤ c) (hl : l.length * 24 ≤ 140737488351232) : Calls Try.prog 11 #[.slice A l.length c] W fun e w' => e = .returned (.bool true) ∧ Below W.heap.size W w' := by
  have hcp : QJour.aumbryref09_CopyPages.f l = some l := by
    unfold QJour.aumbryref09_CopyPages.f
    rw [if_pos (by show 0 + l.length < _; omega)]
    rfl
  have HC := Aside0.mk hC
  have HCP := Aside0.mk hcp
  clear hC hcp hl
  go_enter Try.func11, Try.ntmps11
  go_wp2_with (first
    | (go_at_call 16; refine (Recover_nil _).mono ?_; rintro e w' ⟨rfl, hw⟩; obtain rfl := hw.symm)
    | (go_at_call 12; refine (jwakes_calls _).mono ?_; rintro e w1 ⟨rfl, hb⟩; have B1 := Aside0.mk hb; clear hb)
    | (go_at_call 20; refine (QJour.aumbryref09_CopyPages.calls A c l l _ (Kd.C_below HC.out B1.out) hc HCP.out).mono ?_; rintro e w2 ⟨v, rfl, hR, hb⟩; obtain ⟨A3, c3, rfl⟩ := Kd.R_slice hR; have B2 := Aside0.mk hb; clear hb hR)
    | (go_at_call 21; refine (Commit_nil (.bool true) A3 l.length c3 _).mono ?_; rintro e w' ⟨rfl, hw⟩; obtain rfl := hw.symm))
  go_ret
  exact ⟨rfl, below_step B1.out B2.out⟩
set_option maxRecDepth 100000 in
theorem JournalRooms_calls (n m fi : Int) (k : Nat) (W : World) (hP : QJour.journal_Pages.f k n = some m) (hF : QJour.journal_First.f k n = some fi) (hP2 : QJour.aumbryref10_Pages.f k n = some m) (hF2 : QJour.aumbryref10_First.f k n = some fi) (h : (m = 0 ∧ fi = 0) ∨ (31 ≤ m ∧ wrap64 (wrap64 (fi + m) - 1) ≤ n)) :
    Calls Try.prog 10 #[.int .i64 n] W fun e w' => e = .returned (.bool true) ∧ Below W.heap.size W w' := by
  have HP := Aside0.mk hP
  have HF := Aside0.mk hF
  have HP2 := Aside0.mk hP2
  have HF2 := Aside0.mk hF2
  clear hP hF hP2 hF2
  rcases h with ⟨rfl, rfl⟩ | ⟨h1, h2⟩
  · go_enter Try.func10, Try.ntmps10
    go_wp2_with (first
      | (go_at_call 12; refine (jwakes_calls _).mono ?_; rintro e w1 ⟨rfl, hb⟩; have B1 := Aside0.mk hb; clear hb)
      | (go_at_call 39; refine (QJour.journal_Pages.calls k n 0 _ HP.out).mono ?_; rintro e w' ⟨rfl, ⟨n1, rfl⟩⟩)
      | (go_at_call 40; refine (QJour.journal_First.calls k n 0 _ HF.out).mono ?_; rintro e w' ⟨rfl, ⟨n2, rfl⟩⟩)
      | (go_at_call 41; refine (QJour.aumbryref10_Pages.calls k n 0 _ HP2.out).mono ?_; rintro e w' ⟨rfl, ⟨n3, rfl⟩⟩)
      | (go_at_call 42; refine (QJour.aumbryref10_First.calls k n 0 _ HF2.out).mono ?_; rintro e w' ⟨rfl, ⟨n4, rfl⟩⟩))
    go_ret
    exact ⟨rfl, pw_below_drewN B1.out _⟩
  · have c1 : (m == 0) = false := beq_eq_false_iff_ne.2 (by omega)
    have c2 : decide (m ≥ 31) = true := decide_eq_true h1
    have c2' : decide (31 ≤ m) = true := decide_eq_true h1
    have c3 : decide (wrap64 (wrap64 (fi + m) - 1) ≤ n) = true := decide_eq_true h2
    clear h1 h2
    go_enter Try.func10, Try.ntmps10
    go_wp2_with (first
      | (go_at_call 12; refine (jwakes_calls _).mono ?_; rintro e w1 ⟨rfl, hb⟩; have B1 := Aside0.mk hb; clear hb)
      | (go_at_call 39; refine (QJour.journal_Pages.calls k n m _ HP.out).mono ?_; rintro e w' ⟨rfl, ⟨n1, rfl⟩⟩)
      | (go_at_call 40; refine (QJour.journal_First.calls k n fi _ HF.out).mono ?_; rintro e w' ⟨rfl, ⟨n2, rfl⟩⟩)
      | (go_at_call 41; refine (QJour.aumbryref10_Pages.calls k n m _ HP2.out).mono ?_; rintro e w' ⟨rfl, ⟨n3, rfl⟩⟩)
      | (go_at_call 42; refine (QJour.aumbryref10_First.calls k n fi _ HF2.out).mono ?_; rintro e w' ⟨rfl, ⟨n4, rfl⟩⟩))
    go_ret
    exact ⟨rfl, pw_below_drewN B1.out _⟩
end Go.Proofs.Ytgageigcjeaenaa.Disk
