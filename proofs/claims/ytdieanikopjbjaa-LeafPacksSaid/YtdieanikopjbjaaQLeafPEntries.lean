/- A slice of entries that came in, read as a list: what the rows of the leaf's statements open. No condition. -/
import Derived.Test.YtdieanikopjbjaaQLeafPx0
import Derived.Deep.Slices
import Derived.Deep.Fields
import Derived.ChangeSame
import Derived.ProofKit
import Derived.SizedLaws
namespace Go.Proofs.Ytdieanikopjbjaa.QLeafP
open Go.RowKit Go.Proofs.YtdieanikopjbjaaW.PrintWords Go.Proofs.YtdieanikopjbjaaW.PrintLast Go.Proofs.YtdieanikopjbjaaW.PrintMore
section
open Go.ChangeShapes Go.WideShapes Go.Deep
variable {H : Type} {enc : TypeId × Value → H} {P : Program} {w : World} {base : Nat} {spare : Nat → Bool} {held : Bool}
theorem open_slice_fields {t e : TypeId} {fs : Array Field} {fuel : Nat} {cs : List Value} {x : DataW H × List MemPlace} (ht : P.underlying t = some (.slice e)) (he : P.underlying e = some (.struct fs))
    (hone : oneCellFields P fs = true) (hC : P.cellsOf e = fs.size) (h : DataW.trod enc P w base spare held fuel t cs = some x) :
    (cs = [.slice none 0 0] ∧ x = (.nil, [])) ∨
    ∃ (a : Addr) (len cap m : Nat) (D : Nat → DataW H) (Pl : Nat → List MemPlace), cs = [.slice (some a) len cap] ∧ base ≤ a.block ∧ len ≤ cap ∧ cap ≤ maxLen ∧ m = (if spare a.block then cap else len) ∧
      x = (.slice ((List.range len).map D) ((List.range (m - len)).map fun j => D (len + j)), MemPlace.row a (m * fs.size) ++ (List.range m).flatMap Pl) ∧
      ∀ i, i < m → ∃ (ys : List (DataW H × List MemPlace)) (n : Nat), D i = .agg (ys.map (·.1)) ∧ Pl i = ys.flatMap (·.2) ∧ ys.length = fs.size ∧
        ∀ (j : Nat) (f : Field), fs[j]? = some f → ∃ (v : Value) (y : DataW H × List MemPlace), w.cell? (a.add (i * fs.size + j)) = some v ∧ ys[j]? = some y ∧ DataW.trod enc P w base spare held n f.type [v] = some y := by
  rcases open_slice ht h with h0 | ⟨a, len, cap, m, n, D, Pl, hcs, hb, hl, hm, hmm, hx, hi⟩
  · exact .inl h0
  · refine .inr ⟨a, len, cap, m, D, Pl, hcs, hb, hl, hm, hmm, by rw [hC] at hx; exact hx, fun i him => ?_⟩
    obtain ⟨cs', hc, ht'⟩ := hi i him
    rw [hC] at hc
    obtain ⟨ys, n', hn', hy, hlen, hyl, hf⟩ := DataW.trod_struct he ht'
    obtain ⟨_, hcl, hat⟩ := World.cells?_some hc
    simp only [Prod.mk.injEq] at hy
    refine ⟨ys, n', hy.1, hy.2, hyl, fun j f hj => ?_⟩
    obtain ⟨ho, hk⟩ := hone_of hone j f hj
    have hjl : j < fs.size := (Array.getElem?_eq_some_iff.1 hj).1
    have hcell := hat j hjl
    have hv : cs'[j]? = some (cs'[j]'(by omega)) := List.getElem?_eq_getElem (by omega)
    have h1 := hf j f hj
    rw [ho, hk] at h1
    have hone' : (cs'.drop j).take 1 = [cs'[j]'(by omega)] := by
      rw [List.drop_eq_getElem_cons (by omega)]
      rfl
    rw [hone'] at h1
    have hys : ys[j]? = some (ys[j]'(by omega)) := List.getElem?_eq_getElem (by omega)
    refine ⟨_, _, ?_, hys, h1.trans hys⟩
    rw [← Go.Deep.add_add, hcell, hv]
/-- A slice of entries that came in, as the printed texts read it. -/
theorem open_entries {ts : List TypeId} {ds : List (DataW H)} {j : Nat} {a : Option Addr} {len cap : Nat} {d : DataW H} {ps : List MemPlace}
    (hsz : (DataW.weightsEach Try.prog ts ds).all (· ≤ reachBytes) = true) (htj : ts[j]? = some 22) (hdj : ds[j]? = some d)
    (h : DataW.Trod enc Try.prog w 0 (fun _ => true) true 22 (.slice a len cap) d ps) :
    ∃ l : List S78, l.length = len ∧ len ≤ cap ∧ Kd.C k78 w a l.length l ∧ len < 4398046511104 := by
  obtain ⟨fuel, hf⟩ := h
  rcases open_slice_fields Try.underlying22 Try.underlying78 (by kernel_rfl) (by kernel_rfl) hf with ⟨hcs, _⟩ | ⟨x, l, c, m, D, Pl, hcs, _, hl, hm, hmm, hx, hel⟩
  · simp [Value.cells] at hcs
    obtain ⟨rfl, rfl, rfl⟩ := hcs
    exact ⟨[], rfl, Nat.le_refl _, ⟨rfl, by simp, fun h => by simp at h⟩, by omega⟩
  · simp [Value.cells] at hcs
    obtain ⟨rfl, rfl, rfl⟩ := hcs
    simp only [if_true] at hmm
    obtain ⟨hx, _⟩ := Prod.mk.inj hx
    subst hx
    have z := sized_slice hsz htj hdj Try.underlying22
    rw [show Try.prog.bytesOf 78 = 32 from by kernel_rfl] at z
    simp only [List.length_map, List.length_range] at z
    have hz : (len + (m - len)) * 32 ≤ 140737488351232 := z
    have hlen : len < 4398046511104 := by omega
    have hent : ∀ i, i < len → ∃ e : S78, w.cell? (x.add (i * 2)) = some (.string e.f0) ∧ w.cell? (x.add (i * 2 + 1)) = some (.string e.f1) := by
      intro i hi
      obtain ⟨ys, n, _, _, _, hfs⟩ := hel i (by omega)
      obtain ⟨v0, y0, hc0, _, ht0⟩ := hfs 0 _ rfl
      obtain ⟨v1, y1, hc1, _, ht1⟩ := hfs 1 _ rfl
      obtain ⟨s0, e0, _, _⟩ := DataW.trod_string Try.underlying9 ht0
      obtain ⟨s1, e1, _, _⟩ := DataW.trod_string Try.underlying9 ht1
      simp at e0 e1
      subst e0 e1
      exact ⟨⟨s0, s1⟩, hc0, hc1⟩
    obtain ⟨l, hll, hle⟩ : ∃ l : List S78, l.length = len ∧ ∀ i e, l[i]? = some e → w.cell? (x.add (i * 2)) = some (.string e.f0) ∧ w.cell? (x.add (i * 2 + 1)) = some (.string e.f1) := by
      clear hel hf hx hz z hsz hdj
      have key : ∀ n, n ≤ len → ∃ l : List S78, l.length = n ∧ ∀ i e, l[i]? = some e → w.cell? (x.add (i * 2)) = some (.string e.f0) ∧ w.cell? (x.add (i * 2 + 1)) = some (.string e.f1) := by
        intro n
        induction n with
        | zero => intro _; exact ⟨[], rfl, fun i e h => by simp at h⟩
        | succ n ih =>
          intro hn
          obtain ⟨l, h1, h2⟩ := ih (by omega)
          obtain ⟨e, he⟩ := hent n (by omega)
          refine ⟨l ++ [e], by rw [List.length_append, h1]; rfl, fun i e' hi => ?_⟩
          rcases Nat.lt_or_ge i l.length with h3 | h3
          · rw [List.getElem?_append_left h3] at hi
            exact h2 i e' hi
          · have h4 := (List.getElem?_eq_some_iff.1 hi).1
            rw [List.length_append, List.length_singleton] at h4
            obtain rfl : i = l.length := by omega
            simp at hi
            subst hi
            rw [h1]
            exact he
      exact key len (Nat.le_refl _)
    refine ⟨l, hll, hl, ⟨rfl, by omega, fun _ => ⟨x, rfl, fun i e hi => ⟨[.string e.f0, .string e.f1], rfl, k78_mk w e, fun q u hu => ?_⟩⟩⟩, hlen⟩
    obtain ⟨g0, g1⟩ := hle i e hi
    rw [show k78.sz = 2 from rfl]
    match q, hu with
    | 0, hu => simp at hu; subst hu; simpa using g0
    | 1, hu => simp at hu; subst hu; exact g1
end
end Go.Proofs.Ytdieanikopjbjaa.QLeafP
