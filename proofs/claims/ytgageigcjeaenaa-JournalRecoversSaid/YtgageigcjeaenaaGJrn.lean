/- Disks: contracts and laws, walked by hand. No condition beside those that each theorem names. -/
import Derived.Test.YtgageigcjeaenaaGMid
import Derived.RangeFuncNested
import Derived.RangeFuncBound
import Derived.RangeFuncCalls
import Derived.RangeFuncLeaves
import Derived.Shelf.Abstract
import Derived.Shelf.RegionOpen
import Derived.OwnWalkIn
import Derived.TacticsInMore
import Derived.LoopNIn
import Derived.LoopIn
import Derived.Test.YtgageigcjeaenaaGQJourx4
import Derived.Deep.RegionLaw
import Derived.Maps.OwnIn
import Derived.Maps.OwnOps
import Derived.Maps.Views
import Derived.Deep.Slices
import Derived.Deep.Fields
import Derived.ChangeSame
import Derived.ProofKit
import Derived.SizedLaws
namespace Go.Proofs.Ytgageigcjeaenaa.Disk
open Go.RowKit Go.Proofs.YtgageigcjeaenaaW.PrintWords Go.Proofs.YtgageigcjeaenaaW.PrintLast Go.Proofs.YtgageigcjeaenaaW.PrintMore Go.Proofs.Ytgageigcjeaenaa.MixBase Go.Proofs.Ytgageigcjeaenaa.MixPlain Go.Proofs.Ytgageigcjeaenaa.NumBase Go.Proofs.Ytgageigcjeaenaa.PadPlain
attribute [local go_sem] max2_int min2_int max_two min_two max_three min_three max_four min_four
set_option linter.unusedVariables false
set_option linter.unusedSimpArgs false
section law
variable {α : Type}
/-- What an iterator's value tells: all of xs, one by one, or as much as is asked for. -/
def Tells (gf : FuncId) (lb : Array Value) (enc : α → Value) (Kp : World → World → Prop) (xs : List α) (w : World) : Prop :=
  ∀ (l : Nat) (J Jx : List α → World → Prop) (W : World), Below w.heap.size w W → OwnFrom W.heap.size J → OwnFrom W.heap.size Jx →
    (∀ pre x W1, J pre W1 → (pre ++ [x]) <+: xs → ∀ m, YieldAt Fence.wide m Try.prog l #[enc x] W1 fun e W' =>
      (e = .returned (.bool true) ∧ J (pre ++ [x]) W' ∧ Kp W1 W' ∧ KeepsFrom W.heap.size W1 W') ∨ (e = .returned (.bool false) ∧ Jx (pre ++ [x]) W' ∧ KeepsFrom W.heap.size W1 W')) →
    J [] W →
    Calls Try.prog gf (#[.func (.yield l) #[] #[]] ++ lb) W fun e W' => (∃ v, e = .returned v) ∧ (J xs W' ∨ ∃ pre, pre <+: xs ∧ Jx pre W')
theorem keepsFrom_le {B B' : Nat} {A C : World} (h : KeepsFrom B A C) (hB : B ≤ B') : KeepsFrom B' A C := ⟨h.size, fun k o hk => h.same k o (Nat.le_trans hB hk)⟩
theorem keepsFrom_put {B l : Nat} {A : World} (o : Obj) (hl : l < B) : KeepsFrom B A (A.putObj l o) := KeepsFrom.of_grownBy (grownBy_putObj' A l o) (fun j e => by cases e; exact hl)
/-- How a round's body may be left: it goes on, or it returns. -/
def roundEnd (B : Nat) (Kp : World → World → Prop) (I Ix : List α → World → Prop) (xs : List α) (W : World) : Exit → Act → World → Prop
  | .normal, _, W' => KeepsFrom B W W' ∧ Kp W W' ∧ I xs W'
  | .ret, _, W' => KeepsFrom B W W' ∧ Ix xs W'
  | _, _, _ => False
/-- The loop 'for p := range g', over a value that tells. -/
theorem wp_tells {n : Nat} {g : Operand} {p : Tmp} {assign body : Code} {Q : Exit → Act → World → Prop} {a : Act} {w w0 : World} {gf : Nat} {lb : Array Value} {enc : α → Value} {Kp : World → World → Prop} {xs : List α}
    (hg : a.eval g = .func (.func gf) #[] lb) (eg : ∀ args w, (callFunc gf args).run Try.prog w = .ok (.enter gf args) w) (hseq : Tells gf lb enc Kp xs w0)
    (hKt : ∀ {A B C : World}, Kp A B → Kp B C → Kp A C) (hKb : ∀ (W : World) (l : Nat) (r r' : Loop), w.heap.size ≤ l → W.heap[l]? = some (.loop r) → Kp W (W.putObj l (.loop r'))) (hb0 : Below w0.heap.size w0 w)
    (I Ix : List α → World → Prop) (hI : OwnFrom w.heap.size I) (hIx : OwnFrom w.heap.size Ix) (h0 : I [] w) (Ax : α → Act → World → Prop) (hAx : ∀ x a', OwnFrom w.heap.size (fun (_ : Unit) W => Ax x a' W))
    (hassign : ∀ (m l : Nat) (pre : List α) (x : α) (W : World) (K : Act → World → Prop), I pre W → (∀ a' W', KeepsFrom w.heap.size W W' → Kp W W' → I pre W' → Ax x a' W' → K a' W') →
      assign.wpIn (Fence.wide.inRound l) m Try.prog (Exit.then K (fun _ _ _ => False)) { tmps := ((#[p] : Array Tmp).zip #[enc x]).foldl (fun t (p, v) => t.setIfInBounds p v) a.tmps, defers := [] } W)
    (hbody : ∀ (m l : Nat) (pre : List α) (x : α) (a' : Act) (W : World), I pre W → Ax x a' W → (pre ++ [x]) <+: xs → body.wpIn (Fence.wide.inRound l) m Try.prog (roundEnd w.heap.size Kp I Ix (pre ++ [x]) W) a' W)
    (hdone : ∀ (D : Nat) (W : World), w.heap.size ≤ D → I xs W → W.heap[D]? = some (.deferred (some [])) → Q .normal { a with defers := { target := .collected D, args := #[] } :: a.defers } W)
    (hstop : ∀ (D : Nat) (pre : List α) (W : World), w.heap.size ≤ D → pre <+: xs → Ix pre W → W.heap[D]? = some (.deferred (some [])) → Code.ret.wpIn Fence.wide n Try.prog Q { a with defers := { target := .collected D, args := #[] } :: a.defers } W) :
    (Code.rangeFunc g #[p] assign body).wpIn Fence.wide n Try.prog Q a w := by
  refine wpIn_rangeFunc fun fn hfn => ?_
  let rec_ : LoopState → Option Code → Loop := fun st pe => { state := st, pending := pe, fn := fn, tmps := a.tmps, params := #[p], assign := assign, body := body, defers := w.heap.size }
  let W1 := (w.alloc (.deferred (some []))).alloc (.loop (rec_ .ready none))
  have hs1 : W1.heap.size = w.heap.size + 1 + 1 := by show ((w.alloc _).alloc _).heap.size = _; rw [World.size_alloc, World.size_alloc]
  have hL1 : W1.heap[w.heap.size + 1]? = some (.loop (rec_ .ready none)) := by
    have := World.alloc_heap_new (w.alloc (.deferred (some []))) (.loop (rec_ .ready none))
    rwa [World.size_alloc] at this
  have hK1 : W1.heap[w.heap.size]? = some (.deferred (some [])) := (Below.heap_alloc _ _ _ (by rw [World.size_alloc]; omega)).trans (World.alloc_heap_new w _)
  have turn : ∀ {A : World} {row : Option Nat}, (∀ r, row = some r → W1.heap.size ≤ r ∧ ∃ o : Obj, A.heap[r]? = some o ∧ o.isCells = false) → (∀ r, row = some r → w.heap.size ≤ r ∧ ∃ o : Obj, A.heap[r]? = some o ∧ o.isCells = false) := fun h r e => ⟨by have := (h r e).1; omega, (h r e).2⟩
  have book : ∀ {A B : World} {row : Option Nat} {k : Nat} {o : Obj}, A.grownBy B row → (∀ r, row = some r → W1.heap.size ≤ r ∧ ∃ o : Obj, A.heap[r]? = some o ∧ o.isCells = false) → k < W1.heap.size → A.heap[k]? = some o → B.heap[k]? = some o := fun hgr h hk ho =>
    (hgr.block _ (Array.getElem?_eq_some_iff.1 ho).1 (fun e => by have := (h _ e.symm).1; omega)).trans ho
  refine ⟨w.heap.size + 1, [{ target := .collected w.heap.size, args := #[] }], W1, { target := .fn (.func gf) lb, args := #[.func (.yield (w.heap.size + 1)) #[] #[]] }, W1, gf,
    #[.func (.yield (w.heap.size + 1)) #[] #[]] ++ lb, W1, run_enterLoop_outer _ _ _ _ _, ?_, fun _ _ => trivial, ?_, fun h => by simp [Fence.wide] at h, ?_⟩
  · simp only [resolve, hg]
    simp [go_sem]
  · simp [invoke, go_sem, eg]
  refine (callsIn_wide.2 (hseq (w.heap.size + 1)
    (fun pre W => I pre W ∧ W.heap[w.heap.size + 1]? = some (.loop (rec_ .ready none)) ∧ W.heap[w.heap.size]? = some (.deferred (some [])))
    (fun pre W => Ix pre W ∧ W.heap[w.heap.size + 1]? = some (.loop (rec_ .done (some .ret))) ∧ W.heap[w.heap.size]? = some (.deferred (some [])))
    W1 (hb0.trans ((((Below.refl _ w).alloc (Nat.le_refl _) _).alloc (by rw [World.size_alloc]; omega) _).mono hb0.size))
    (fun s A B row hs hgr hr => ⟨hI s A B row hs.1 hgr (turn hr), book hgr hr (by omega) hs.2.1, book hgr hr (by omega) hs.2.2⟩)
    (fun s A B row hs hgr hr => ⟨hIx s A B row hs.1 hgr (turn hr), book hgr hr (by omega) hs.2.1, book hgr hr (by omega) hs.2.2⟩)
    ?_ ⟨hI.alloc _ (hI.alloc _ h0), hL1, hK1⟩)).mono ?_
  · rintro pre x W ⟨hi, hl, hk⟩ hpre m
    refine ⟨fn, _, assign, body, run_yield (args := #[enc x]) hl rfl, roundIn_of_wpIn hfn (hassign m _ pre x W _ hi ?_)⟩
    intro a' Wa hkf hkp hia hax
    have hla := hkf.same _ _ (by omega) hl rfl
    have hka := hkf.same _ _ (Nat.le_refl _) hk rfl
    have hlt := (Array.getElem?_eq_some_iff.1 hla).1
    refine ⟨_, run_beginRound hla rfl, wpIn_mono (hbody m _ pre x a' _ (hI.putObj _ hia (by omega) hla rfl) ((hAx x a').putObj (s := ()) _ hax (by omega) hla rfl) hpre) ?_⟩
    have hlb := World.putObj_heap_same (w := Wa) (o := .loop { rec_ .ready none with state := .busy }) hlt
    have hkb : (Wa.putObj (w.heap.size + 1) (.loop { rec_ .ready none with state := .busy })).heap[w.heap.size]? = some (.deferred (some [])) := (World.putObj_heap_other (by omega)).trans hka
    have hkp2 : Kp W (Wa.putObj (w.heap.size + 1) (.loop { rec_ .ready none with state := .busy })) := hKt hkp (hKb _ _ _ _ (by omega) hla)
    rintro e a3 W3 hp
    cases e with
    | normal =>
      obtain ⟨h3, h4, h5⟩ := hp
      have hl3 := h3.same _ _ (by omega) hlb rfl
      have hk3 := h3.same _ _ (Nat.le_refl _) hkb rfl
      exact ⟨_, _, run_endRound none hl3, .inl ⟨rfl, ⟨hI.putObj _ h5 (by omega) hl3 rfl, World.putObj_heap_same (Array.getElem?_eq_some_iff.1 hl3).1, (World.putObj_heap_other (by omega)).trans hk3⟩, hKt hkp2 (hKt h4 (hKb _ _ _ _ (by omega) hl3)), ((keepsFrom_le hkf (by omega)).trans (keepsFrom_put _ (by omega))).trans ((keepsFrom_le h3 (by omega)).trans (keepsFrom_put _ (by omega)))⟩⟩
    | ret =>
      obtain ⟨h3, h5⟩ := hp
      have hl3 := h3.same _ _ (by omega) hlb rfl
      have hk3 := h3.same _ _ (Nat.le_refl _) hkb rfl
      exact ⟨_, _, run_endRound (some .ret) hl3, .inr ⟨rfl, ⟨hIx.putObj _ h5 (by omega) hl3 rfl, World.putObj_heap_same (Array.getElem?_eq_some_iff.1 hl3).1, (World.putObj_heap_other (by omega)).trans hk3⟩, ((keepsFrom_le hkf (by omega)).trans (keepsFrom_put _ (by omega))).trans ((keepsFrom_le h3 (by omega)).trans (keepsFrom_put _ (by omega)))⟩⟩
    | exit id => exact hp.elim
    | goto t => exact hp.elim
    | panic ch => exact hp.elim
    | outgrown => exact hp.elim
  · rintro e W2 ⟨⟨v, rfl⟩, (⟨hi, hl, hk⟩ | ⟨pre, hpre, hi, hl, hk⟩)⟩
    · exact ⟨none, _, run_endLoop hl (by simp [rec_]), hdone _ _ (Nat.le_refl _) (hI.putObj _ hi (by omega) hl rfl) ((World.putObj_heap_other (by omega)).trans hk)⟩
    · exact ⟨some .ret, _, run_endLoop hl (by simp [rec_]), hstop _ pre _ (Nat.le_refl _) hpre (hIx.putObj _ hi (by omega) hl rfl) ((World.putObj_heap_other (by omega)).trans hk)⟩
end law
attribute [local go_sem] Oper.semAt_some
/-- What is written, up to the first error. -/
def doW (d : Dk) : List Pg → Dk × Int
  | [] => (d, 0)
  | p :: l => if (writeD d p.at_ p.data).2 = 0 then doW (writeD d p.at_ p.data).1 l else writeD d p.at_ p.data
theorem doW_append : ∀ (xs : List Pg) (d : Dk) (ys : List Pg), (doW d xs).2 = 0 → doW d (xs ++ ys) = doW (doW d xs).1 ys
  | [], d, ys, h => rfl
  | p :: l, d, ys, h => by
    by_cases hc : (writeD d p.at_ p.data).2 = 0
    · have e1 : ∀ zs, doW d (p :: zs) = doW (writeD d p.at_ p.data).1 zs := fun zs => if_pos hc
      rw [List.cons_append, e1, e1]
      rw [e1] at h
      exact doW_append l _ ys h
    · have e1 : ∀ zs, doW d (p :: zs) = writeD d p.at_ p.data := fun zs => if_neg hc
      rw [e1] at h
      exact absurd h hc
theorem doW_stop : ∀ (xs : List Pg) (d : Dk) (ys : List Pg), (doW d xs).2 ≠ 0 → doW d (xs ++ ys) = doW d xs
  | [], d, ys, h => absurd rfl h
  | p :: l, d, ys, h => by
    by_cases hc : (writeD d p.at_ p.data).2 = 0
    · have e1 : ∀ zs, doW d (p :: zs) = doW (writeD d p.at_ p.data).1 zs := fun zs => if_pos hc
      rw [List.cons_append, e1, e1]
      rw [e1] at h
      exact doW_stop l _ ys h
    · have e1 : ∀ zs, doW d (p :: zs) = writeD d p.at_ p.data := fun zs => if_neg hc
      rw [List.cons_append, e1, e1]
theorem doW_one (d : Dk) (x : Pg) : doW d [x] = writeD d x.at_ x.data := by
  by_cases hc : (writeD d x.at_ x.data).2 = 0
  · refine (if_pos hc).trans ?_
    show ((writeD d x.at_ x.data).1, (0 : Int)) = _
    rw [← hc]
  · exact if_neg hc
theorem doW_snoc (pre : List Pg) (x : Pg) (d : Dk) (h : (doW d pre).2 = 0) : doW d (pre ++ [x]) = writeD (doW d pre).1 x.at_ x.data := (doW_append pre d [x] h).trans (doW_one _ x)
theorem writeD_log (d : Dk) (a : Int) (s : ByteArray) : (writeD d a s).1.log.length ≤ d.log.length + 1 := by
  have hp : (putD d a s).log.length = d.log.length + 1 := by
    show (d.log ++ [_]).length = _
    rw [List.length_append]
    rfl
  unfold writeD
  split
  · split
    · split
      · exact Nat.le_succ _
      · exact Nat.le_of_eq hp
    · exact Nat.le_succ _
  · exact Nat.le_succ _
theorem doW_log : ∀ (xs : List Pg) (d : Dk), (doW d xs).1.log.length ≤ d.log.length + xs.length
  | [], d => Nat.le_refl _
  | p :: l, d => by
    have h1 := writeD_log d p.at_ p.data
    by_cases hc : (writeD d p.at_ p.data).2 = 0
    · have e1 : doW d (p :: l) = doW (writeD d p.at_ p.data).1 l := if_pos hc
      rw [e1, List.length_cons]
      have := doW_log l (writeD d p.at_ p.data).1
      omega
    · have e1 : doW d (p :: l) = writeD d p.at_ p.data := if_neg hc
      rw [e1, List.length_cons]
      omega
def encPg (p : Pg) : Value := .agg #[.int .i64 p.at_, .string p.data]
/-- The blocks that the disk at block g lies in, read off the memory. -/
def FootOf (g : Nat) (w : World) (k : Nat) : Prop := k = g ∨ ∃ (c : Array Value) (t : TypeId) (p : Nat × Nat), w.heap[g]? = some (.cells c t p) ∧ ((∃ v, c[0]? = some v ∧ v.ownBlock = some k) ∨ ∃ v, c[1]? = some v ∧ v.ownBlock = some k)
theorem DiskIs.footOf {w : World} {base g : Nat} {vb vl : Value} {d : Dk} (h : DiskIs w base g vb vl d) (k : Nat) : FootOf g w k ↔ Foot g vb vl k := by
  constructor
  · rintro (e | ⟨c, t, p, hc, hv⟩)
    · exact Or.inl e
    · rw [h.2.1] at hc
      injection hc with hc
      injection hc with hc _ _
      subst hc
      rcases hv with ⟨v, e, hv⟩ | ⟨v, e, hv⟩
      · cases e
        exact Or.inr (Or.inl hv)
      · cases e
        exact Or.inr (Or.inr hv)
  · rintro (e | hv | hv)
    · exact Or.inl e
    · exact Or.inr ⟨_, _, _, h.2.1, Or.inl ⟨vb, rfl, hv⟩⟩
    · exact Or.inr ⟨_, _, _, h.2.1, Or.inr ⟨vl, rfl, hv⟩⟩
theorem DiskIs.foot_cells {w : World} {base g : Nat} {vb vl : Value} {d : Dk} (h : DiskIs w base g vb vl d) {k : Nat} {o : Obj} (hk : Foot g vb vl k) (ho : w.heap[k]? = some o) : o.isCells = true := by
  rcases hk with e | hk | hk
  · subst e
    rw [h.2.1] at ho
    injection ho with ho
    rw [← ho]
    rfl
  · obtain ⟨c, hc⟩ := own_typed h.2.2.1 k hk
    rw [hc] at ho
    injection ho with ho
    rw [← ho]
    rfl
  · obtain ⟨c, hc⟩ := own_typed h.2.2.2 k hk
    rw [hc] at ho
    injection ho with ho
    rw [← ho]
    rfl
/-- The block is one of cells. -/
def IsC (g : Nat) (w : World) : Prop := ∃ (c : Array Value) (t : TypeId) (p : Nat × Nat), w.heap[g]? = some (.cells c t p)
/-- What a round keeps: the cells outside the disk's blocks; the disk's blocks are its old ones or new. -/
def Rd (g : Nat) (A B : World) : Prop := B.os = A.os ∧ B.tape = A.tape ∧ B.output = A.output ∧ A.heap.size ≤ B.heap.size ∧ (∀ k o, A.heap[k]? = some o → o.isCells = true → ¬ FootOf g A k → B.heap[k]? = some o) ∧ (∀ k, FootOf g B k → FootOf g A k ∨ (A.heap.size ≤ k ∧ k < B.heap.size)) ∧ (IsC g A → IsC g B)
theorem Rd.refl (g : Nat) (A : World) : Rd g A A := ⟨rfl, rfl, rfl, Nat.le_refl _, fun _ _ h _ _ => h, fun _ h => Or.inl h, fun h => h⟩
theorem Rd.trans {g : Nat} {A B C : World} (h : Rd g A B) (k : Rd g B C) : Rd g A C :=
  ⟨k.1.trans h.1, k.2.1.trans h.2.1, k.2.2.1.trans h.2.2.1, Nat.le_trans h.2.2.2.1 k.2.2.2.1,
   fun i o hi ho hn => k.2.2.2.2.1 i o (h.2.2.2.2.1 i o hi ho hn) ho (fun hf => (h.2.2.2.2.2.1 i hf).elim hn (fun hl => by have := blk_lt hi; omega)),
   fun i hf => (k.2.2.2.2.2.1 i hf).elim (fun hf => (h.2.2.2.2.2.1 i hf).imp_right (fun hl => ⟨hl.1, Nat.lt_of_lt_of_le hl.2 k.2.2.2.1⟩)) (fun hl => Or.inr ⟨Nat.le_trans h.2.2.2.1 hl.1, hl.2⟩), fun hc => k.2.2.2.2.2.2 (h.2.2.2.2.2.2 hc)⟩
theorem FootOf.same {g : Nat} {A B : World} {k : Nat} (h : B.heap[g]? = A.heap[g]?) (hf : FootOf g B k) : FootOf g A k := by
  rcases hf with e | ⟨c, t, p, hc, hv⟩
  · exact Or.inl e
  · exact Or.inr ⟨c, t, p, h.symm.trans hc, hv⟩
theorem Rd.turn {g : Nat} (W : World) (l : Nat) (r r' : Loop) (hl : W.heap[l]? = some (.loop r)) : Rd g W (W.putObj l (.loop r')) := by
  have hsz : (W.putObj l (.loop r')).heap.size = W.heap.size := by simp [World.putObj]
  refine ⟨rfl, rfl, rfl, Nat.le_of_eq hsz.symm, ?_, ?_, ?_⟩
  · intro k o hk ho _
    by_cases e : k = l
    · subst e
      rw [hl] at hk
      injection hk with hk
      rw [← hk] at ho
      cases ho
    · exact (World.putObj_heap_other e).trans hk
  · intro k hf
    by_cases e : g = l
    · subst e
      rcases hf with e | ⟨c, t, p, hc, hv⟩
      · exact Or.inl (Or.inl e)
      · rw [World.putObj_heap_same (blk_lt hl)] at hc
        injection hc with hc
        cases hc
    · exact Or.inl (hf.same (World.putObj_heap_other e))
  · rintro ⟨c, t, p, hc⟩
    by_cases e : g = l
    · subst e
      rw [hl] at hc
      injection hc with hc
      cases hc
    · exact ⟨c, t, p, (World.putObj_heap_other e).trans hc⟩
theorem Rd.of_below {g : Nat} {A B : World} (h : Below A.heap.size A B) (hg : g < A.heap.size) : Rd g A B :=
  ⟨h.os, h.tape, h.output, h.size, fun k o hk _ _ => (h.block k (blk_lt hk)).trans hk, fun k hf => Or.inl (hf.same (h.block g hg)), fun ⟨c, t, p, hc⟩ => ⟨c, t, p, (h.block g hg).trans hc⟩⟩
theorem Rd.of_moved {w w' : World} {base base' g : Nat} {vb vl vb' vl' : Value} {d d' : Dk} (h : DiskIs w base g vb vl d) (h' : DiskIs w' base' g vb' vl' d') (hm : Moved w w' (Foot g vb vl)) (hf : ∀ k, Foot g vb' vl' k → Foot g vb vl k ∨ w.heap.size ≤ k) : Rd g w w' :=
  ⟨hm.1, hm.2.1, hm.2.2.1, hm.2.2.2.1, fun k o hk _ hn => hm.block hk (fun hF => hn ((h.footOf k).2 hF)), fun k hk => (hf k ((h'.footOf k).1 hk)).imp (fun x => (h.footOf k).2 x) (fun x => ⟨x, (h'.foot_lt ((h'.footOf k).1 hk)).2⟩), fun _ => ⟨_, _, _, h'.2.1⟩⟩
theorem KeepsFrom.of_moved {B : Nat} {w w' : World} {base g : Nat} {vb vl : Value} {d : Dk} (h : DiskIs w base g vb vl d) (hm : Moved w w' (Foot g vb vl)) : KeepsFrom B w w' :=
  ⟨hm.2.2.2.1, fun k o _ hk ho => hm.block hk (fun hF => by have := h.foot_cells hF hk; rw [ho] at this; cases this)⟩
theorem grown_cells {A B : World} {row : Option Nat} {Bn : Nat} (hg : A.grownBy B row) (hr : ∀ r, row = some r → Bn ≤ r ∧ ∃ o : Obj, A.heap[r]? = some o ∧ o.isCells = false) {k : Nat} {o : Obj} (hk : A.heap[k]? = some o) (ho : o.isCells = true) : B.heap[k]? = some o :=
  (hg.block k (blk_lt hk) (fun e => by obtain ⟨_, o', ho', hc⟩ := hr k e.symm; rw [hk] at ho'; injection ho' with ho'; rw [← ho', ho] at hc; cases hc)).trans hk
theorem grown_below {W A B : World} {row : Option Nat} {Bn n : Nat} (h : Below n W A) (hn : n ≤ W.heap.size) (hg : A.grownBy B row) (hr : ∀ r, row = some r → Bn ≤ r ∧ ∃ o : Obj, A.heap[r]? = some o ∧ o.isCells = false) (hB : n ≤ Bn) : Below n W B :=
  ⟨hg.os.trans h.os, hg.tape.trans h.tape, hg.output.trans h.output, Nat.le_trans h.size hg.size, fun k hk => (hg.block k (by have := h.size; omega) (fun e => by have := (hr k e.symm).1; omega)).trans (h.block k hk)⟩
theorem own_grown {A B : World} {row : Option Nat} {Bn base e size n : Nat} {v : Value} {xs : List Value} (ho : A.ownsRow base e size v n xs) (hg : A.grownBy B row) (hr : ∀ r, row = some r → Bn ≤ r ∧ ∃ o : Obj, A.heap[r]? = some o ∧ o.isCells = false) : B.ownsRow base e size v n xs :=
  own_move ho (fun k hk => by obtain ⟨c, hc⟩ := own_typed ho k hk; exact (grown_cells hg hr hc rfl).trans hc.symm)
theorem DiskIs.grown {A B : World} {row : Option Nat} {Bn base g : Nat} {vb vl : Value} {d : Dk} (h : DiskIs A base g vb vl d) (hg : A.grownBy B row) (hr : ∀ r, row = some r → Bn ≤ r ∧ ∃ o : Obj, A.heap[r]? = some o ∧ o.isCells = false) : DiskIs B base g vb vl d :=
  ⟨h.1, grown_cells hg hr h.2.1 rfl, own_grown h.2.2.1 hg hr, own_grown h.2.2.2 hg hr⟩
theorem Rd.grown' {g : Nat} {W A B : World} {row : Option Nat} {Bn : Nat} (h : Rd g W A) (hd : IsC g A) (hg : A.grownBy B row) (hr : ∀ r, row = some r → Bn ≤ r ∧ ∃ o : Obj, A.heap[r]? = some o ∧ o.isCells = false) : Rd g W B :=
  ⟨hg.os.trans h.1, hg.tape.trans h.2.1, hg.output.trans h.2.2.1, Nat.le_trans h.2.2.2.1 hg.size, fun k o hk ho hn => grown_cells hg hr (h.2.2.2.2.1 k o hk ho hn) ho,
   fun k hf => (h.2.2.2.2.2.1 k (hf.same (by obtain ⟨c, t, p, hc⟩ := hd; exact (grown_cells hg hr hc rfl).trans hc.symm))).imp_right (fun hl => ⟨hl.1, Nat.lt_of_lt_of_le hl.2 hg.size⟩), fun _ => by obtain ⟨c, t, p, hc⟩ := hd; exact ⟨c, t, p, grown_cells hg hr hc rfl⟩⟩
theorem Rd.grown {g : Nat} {W A B : World} {row : Option Nat} {Bn base : Nat} {vb vl : Value} {d : Dk} (h : Rd g W A) (hd : DiskIs A base g vb vl d) (hg : A.grownBy B row) (hr : ∀ r, row = some r → Bn ≤ r ∧ ∃ o : Obj, A.heap[r]? = some o ∧ o.isCells = false) : Rd g W B := h.grown' ⟨_, _, _, hd.2.1⟩ hg hr
theorem Rd.foot_lt {g : Nat} {A B : World} (r : Rd g A B) (hft : ∀ k, FootOf g A k → k < A.heap.size) : ∀ k, FootOf g B k → k < B.heap.size := fun k hf => (r.2.2.2.2.2.1 k hf).elim (fun h => Nat.lt_of_lt_of_le (hft k h) r.2.2.2.1) (fun h => h.2)
theorem St.grown {W A B : World} {row : Option Nat} {Bn g : Nat} {vb vl : Value} {d : Dk} (h : St W A g vb vl d) (hB : W.heap.size ≤ Bn) (hg : A.grownBy B row) (hr : ∀ r, row = some r → Bn ≤ r ∧ ∃ o : Obj, A.heap[r]? = some o ∧ o.isCells = false) : St W B g vb vl d :=
  ⟨h.1.grown hg hr, grown_below h.2 (Nat.le_refl _) hg hr hB⟩
/-- What the loop of journal.write keeps: the disk, the boxes. -/
def WrI (W w : World) (g : Nat) (vb vl : Value) (r : Int) (dd : Dk) (V : World) : Prop := ∃ vl', St W V g vb vl' dd ∧ (∀ k, Foot g vb vl' k → Foot g vb vl k ∨ w.heap.size + 2 ≤ k) ∧ Rd g w V ∧ V.heap[w.heap.size]? = some (.cells #[.pointer (some ⟨g, 0, none⟩)] 24 (0, 0)) ∧ V.heap[w.heap.size + 1]? = some (.cells #[.int .i64 r] 29 (0, 0))
theorem WrI.grown {W w A B : World} {g : Nat} {vb vl : Value} {r : Int} {dd : Dk} {row : Option Nat} {Bn : Nat} (h : WrI W w g vb vl r dd A) (hB : W.heap.size ≤ Bn) (hg : A.grownBy B row) (hr : ∀ r, row = some r → Bn ≤ r ∧ ∃ o : Obj, A.heap[r]? = some o ∧ o.isCells = false) : WrI W w g vb vl r dd B := by
  obtain ⟨vl', h1, h2, h3, h4, h5⟩ := h
  exact ⟨vl', h1.grown hB hg hr, h2, h3.grown h1.1 hg hr, grown_cells hg hr h4 rfl, grown_cells hg hr h5 rfl⟩
theorem WrI.size {W w A : World} {g : Nat} {vb vl : Value} {r : Int} {dd : Dk} (h : WrI W w g vb vl r dd A) : w.heap.size + 2 ≤ A.heap.size := by
  obtain ⟨vl', h1, h2, h3, h4, h5⟩ := h
  exact blk_lt h5
theorem WrI.below {W w A B : World} {g : Nat} {vb vl : Value} {r : Int} {dd : Dk} (h : WrI W w g vb vl r dd A) (hb : Below A.heap.size A B) : WrI W w g vb vl r dd B := by
  obtain ⟨vl', h1, h2, h3, h4, h5⟩ := h
  exact ⟨vl', h1.below hb, h2, h3.trans (Rd.of_below hb (h1.foot (Or.inl rfl)).2), blk_below h4 hb, blk_below h5 hb⟩
theorem WrI.wrote {W w A B : World} {g : Nat} {vb vl : Value} {r : Int} {dd dd' : Dk} {vl' vl2 : Value} (h1 : St W A g vb vl' dd) (h2 : ∀ k, Foot g vb vl' k → Foot g vb vl k ∨ w.heap.size + 2 ≤ k) (h3 : Rd g w A) (h4 : A.heap[w.heap.size]? = some (.cells #[.pointer (some ⟨g, 0, none⟩)] 24 (0, 0))) (h5 : A.heap[w.heap.size + 1]? = some (.cells #[.int .i64 r] 29 (0, 0)))
    (hft : ∀ k, Foot g vb vl k → k < w.heap.size) (hs : St W B g vb vl2 dd') (hf : ∀ k, Foot g vb vl2 k → Foot g vb vl' k ∨ A.heap.size ≤ k) (hm : Moved A B (Foot g vb vl')) : WrI W w g vb vl r dd' B :=
  have hsz : w.heap.size + 2 ≤ A.heap.size := blk_lt h5
  ⟨vl2, hs, fun k hk => (hf k hk).elim (h2 k) (fun hl => Or.inr (Nat.le_trans hsz hl)), h3.trans (Rd.of_moved h1.1 hs.1 hm hf),
   hm.block h4 (fun hk => (h2 _ hk).elim (fun hk => by have := hft _ hk; omega) (fun hl => by omega)), hm.block h5 (fun hk => (h2 _ hk).elim (fun hk => by have := hft _ hk; omega) (fun hl => by omega))⟩
theorem WrI.stored {W w A : World} {g : Nat} {vb vl : Value} {r : Int} {dd : Dk} (h : WrI W w g vb vl r dd A) (hWw : W.heap.size ≤ w.heap.size) (hg0 : g < w.heap.size) (hft : ∀ k, Foot g vb vl k → k < w.heap.size) (r' : Int) : WrI W w g vb vl r' dd (A.setCell ⟨w.heap.size + 1, 0, none⟩ (.int .i64 r')) := by
  obtain ⟨vl', h1, h2, h3, h4, h5⟩ := h
  have hn : ∀ k, Foot g vb vl' k → k ≠ w.heap.size + 1 := fun k hk => (h2 _ hk).elim (fun hk => by have := hft _ hk; omega) (fun hl => by omega)
  have hm : Moved A (A.setCell ⟨w.heap.size + 1, 0, none⟩ (.int .i64 r')) (fun k => k = w.heap.size + 1) := Moved.set (S := fun k => k = w.heap.size + 1) rfl _
  refine ⟨vl', h1.moved hm hn (fun k _ hk => by omega), h2, ?_, hm.block h4 (by omega), ?_⟩
  · refine ⟨h3.1, h3.2.1, h3.2.2.1, Nat.le_trans h3.2.2.2.1 hm.2.2.2.1, fun k o hk ho hn => hm.block (h3.2.2.2.2.1 k o hk ho hn) (by have := blk_lt hk; omega), fun k hf => (h3.2.2.2.2.2.1 k (hf.same ((Below.heap_setCell _ _ _ _ (by show g ≠ w.heap.size + 1; omega))))).imp_right (fun hl => ⟨hl.1, Nat.lt_of_lt_of_le hl.2 hm.2.2.2.1⟩), fun _ => ⟨_, _, _, hm.block h1.1.2.1 (by omega)⟩⟩
  · simp [World.setCell, Array.getElem?_modify, h5]
def BoxAt (b : Nat) (c : Array Value) (t : TypeId) (V : World) : Prop := V.heap[b]? = some (.cells c t (0, 0))
theorem write_calls {W w : World} {g : Nat} {vb vl : Value} {d : Dk} {gf : Nat} {lb : Array Value} (h : St W w g vb vl d) (xs : List Pg) (ht : Tells gf lb encPg (Rd g) xs w) (eg : ∀ args w, (callFunc gf args).run Try.prog w = .ok (.enter gf args) w)
    (hlog : (d.log.length + xs.length) * 24 ≤ 140737488355328) : Calls Try.prog 46 #[.pointer (some ⟨g, 0, none⟩), .func (.func gf) #[] lb] w fun e w' => ∃ vl', e = .returned (.int .i64 (doW d xs).2) ∧ St W w' g vb vl' (doW d xs).1 ∧ (∀ k, Foot g vb vl' k → Foot g vb vl k ∨ w.heap.size ≤ k) ∧ Rd g w w' := by
  refine (callsIn_wide (n := 30)).1 ?_
  refine callsIn_of_wp_marks Try.func46 rfl trivial ?_ rfl
  simp only [Try.ntmps46, List.size_toArray, List.length_cons, List.length_nil, Nat.reduceAdd, Nat.reduceSub, Array.replicate_succ, Array.replicate_zero, List.push_toArray, List.append_toArray, List.nil_append, List.cons_append]
  gi_wp2
  obtain ⟨w1, hw1⟩ : ∃ w1, (w.alloc (.cells #[.pointer (some ⟨g, 0, none⟩)] 24)).alloc (.cells #[.int .i64 0] 29) = w1 := ⟨_, rfl⟩
  have hb1 : Below w.heap.size w w1 := by rw [← hw1]; exact ((Below.refl _ w).alloc (Nat.le_refl _) _).alloc (by rw [World.size_alloc]; omega) _
  have hs1 : w1.heap.size = w.heap.size + 1 + 1 := by rw [← hw1, World.size_alloc, World.size_alloc]
  have hc0 : w1.heap[w.heap.size]? = some (.cells #[.pointer (some ⟨g, 0, none⟩)] 24 (0, 0)) := by rw [← hw1]; exact (Below.heap_alloc _ _ _ (by rw [World.size_alloc]; omega)).trans (World.alloc_heap_new w _)
  have hc1 : w1.heap[w.heap.size + 1]? = some (.cells #[.int .i64 0] 29 (0, 0)) := by
    rw [← hw1]
    have := World.alloc_heap_new (w.alloc (.cells #[.pointer (some ⟨g, 0, none⟩)] 24)) (.cells #[.int .i64 0] 29)
    rwa [World.size_alloc] at this
  rw [hw1]
  have h1 : St W w1 g vb vl d := h.below hb1
  have hg0 : g < w.heap.size := (h.foot (Or.inl rfl)).2
  have hr1 : Rd g w w1 := Rd.of_below hb1 hg0
  have hft : ∀ k, Foot g vb vl k → k < w.heap.size := fun k hk => (h.foot hk).2
  have hWw : W.heap.size ≤ w.heap.size := h.2.size
  clear hw1
  refine wp_tells (gf := gf) (lb := lb) (enc := encPg) (Kp := Rd g) (xs := xs) (w0 := w) rfl eg ht (fun h k => h.trans k) (fun W l r r' _ hl => Rd.turn W l r r' hl) hb1
    (fun pre V => (doW d pre).2 = 0 ∧ WrI W w g vb vl 0 (doW d pre).1 V)
    (fun pre V => (doW d pre).2 ≠ 0 ∧ WrI W w g vb vl (doW d pre).2 (doW d pre).1 V)
    ?hI ?hIx ?h0
    (fun x a' V => ∃ Bx, w1.heap.size ≤ Bx ∧ V.heap[Bx]? = some (.cells #[.int .i64 x.at_, .string x.data] 62 (0, 0)) ∧ a' = { tmps := #[Value.pointer (some { block := g, off := 0 }), Value.func (Fn.func gf) #[] lb,
          Value.pointer (some { block := w.heap.size, off := 0 }), undef,
          Value.pointer (some { block := w.heap.size + 1, off := 0 }), Value.pointer (some { block := Bx, off := 0 }), undef, Value.func (Fn.func gf) #[] lb, .agg #[.int .i64 x.at_, .string x.data], undef, undef, undef, undef, undef, undef, undef, undef, undef], defers := [] })
    ?hAx ?assign ?body ?done ?stop
  case hI => exact fun s A B row hs hg hr => ⟨hs.1, hs.2.grown (by omega) hg hr⟩
  case hIx => exact fun s A B row hs hg hr => ⟨hs.1, hs.2.grown (by omega) hg hr⟩
  case h0 => exact ⟨rfl, vl, h1, fun k hk => Or.inl hk, hr1, hc0, hc1⟩
  case hAx => exact fun x a' s A B row hs hg hr => by obtain ⟨Bx, hx, hy, hz⟩ := hs; exact ⟨Bx, hx, grown_cells hg hr hy rfl, hz⟩
  case assign =>
    rintro m l pre x V K hi hK
    unfold encPg
    gi_wp2
    refine hK _ _ ?_ ?_ ?_ ⟨V.heap.size, ?_, ?_, rfl⟩
    · exact (KeepsOthers.alloc _ _).from _
    · exact Rd.of_below (below_alloc (Below.refl _ _) _) (by obtain ⟨_, v, hv, _⟩ := hi; exact (hv.foot (Or.inl rfl)).2)
    · exact ⟨hi.1, hi.2.below (below_alloc (Below.refl _ _) _)⟩
    · have := hi.2.size; omega
    · exact World.alloc_heap_new _ _
  case body =>
    rintro m l pre x a' V hI ⟨Bx, hBx, hx, rfl⟩ hpre
    obtain ⟨h0, vl', hst, hfo, hrd, hb0, hb1'⟩ : (doW d pre).2 = 0 ∧ WrI W w g vb vl 0 (doW d pre).1 V := hI
    have hsn := doW_snoc pre x d h0
    have hll := doW_log pre d
    have hpl : pre.length < xs.length := by obtain ⟨t, rfl⟩ := hpre; simp
    have hlg : ((doW d pre).1.log.length + 1) * 24 ≤ 140737488355328 := by omega
    obtain ⟨D, hD⟩ : ∃ D, D = (doW d pre).1 := ⟨_, rfl⟩
    rw [← hD] at hst hlg hsn
    have z0 : V.cell? ⟨w.heap.size, 0, none⟩ = some (.pointer (some ⟨g, 0, none⟩)) := (blk_cell hb0 0).trans rfl
    have f0 := blk_frozen hb0 0
    have z1 : V.cell? ⟨w.heap.size + 1, 0, none⟩ = some (.int .i64 0) := (blk_cell hb1' 0).trans rfl
    have f1 := blk_frozen hb1' 0
    have x0 : V.cell? ⟨Bx, 0, none⟩ = some (.int .i64 x.at_) := (blk_cell hx 0).trans rfl
    have x1 : V.cell? ⟨Bx, 1, none⟩ = some (.string x.data) := (blk_cell hx 1).trans rfl
    have HS := Aside0.mk hsn
    have HT := Aside0.mk hst
    have HF := Aside0.mk hfo
    have HR := Aside0.mk hrd
    have H0 := Aside0.mk hb0
    have H1 := Aside0.mk hb1'
    have HL := Aside0.mk hlg
    have HFT := Aside0.mk hft
    have HW := Aside0.mk hWw
    have HG := Aside0.mk hg0
    have HS1 := Aside0.mk hs1
    clear hsn hst hfo hrd hb0 hb1' hlg hft hWw hg0 hs1 hD h0 hll hpl hpre hx h ht eg hlog hb1 hc0 hc1 h1 hr1 hBx
    gi_wp2
    refine ⟨trivial, fun hh => by simp [Fence.wide] at hh, ?_⟩
    refine (CallsIn.inRound l (callsIn_wide.2 (Write_st x.at_ x.data HT.out HL.out))).mono ?_
    rintro e w' ⟨vl2, rfl, hs, hf, hm⟩
    have W2 := Aside0.mk (WrI.wrote HT.out HF.out HR.out H0.out H1.out HFT.out hs hf hm)
    have R2 := Aside0.mk (Rd.of_moved HT.out.1 hs.1 hm hf)
    have K2 : Aside0 (KeepsFrom w1.heap.size V w') := ⟨KeepsFrom.of_moved HT.out.1 hm⟩
    have z1' : w'.cell? ⟨w.heap.size + 1, 0, none⟩ = some (.int .i64 0) := by obtain ⟨_, _, _, _, _, h5⟩ := W2.out; exact (blk_cell h5 0).trans rfl
    have f1' : w'.frozen? ⟨w.heap.size + 1, 0, none⟩ = false := by obtain ⟨_, _, _, _, _, h5⟩ := W2.out; exact blk_frozen h5 0
    clear hs hf hm z0 f0 z1 f1 x0 x1
    gi_wp2
    · refine ⟨K2.out.trans ((KeepsOthers.setCell _ _ _).from _), ?_, ?_⟩
      · show (doW d (pre ++ [x])).2 ≠ 0
        rw [HS.out]
        intro e
        simp [e] at *
      · show WrI W w g vb vl (doW d (pre ++ [x])).2 (doW d (pre ++ [x])).1 _
        rw [HS.out]
        exact W2.out.stored HW.out HG.out HFT.out _
    · have e0 : (writeD D x.at_ x.data).2 = 0 := by
        rcases Int.decEq (writeD D x.at_ x.data).2 0 with e | e
        · simp [e] at *
        · exact e
      exact ⟨K2.out, R2.out, by show (doW d (pre ++ [x])).2 = 0; rw [HS.out]; exact e0, by show WrI W w g vb vl 0 (doW d (pre ++ [x])).1 _; rw [HS.out]; exact W2.out⟩
  case done =>
    rintro D V hD hI hK
    obtain ⟨h0, vl', hst, hfo, hrd, hb0, hb1'⟩ : (doW d xs).2 = 0 ∧ WrI W w g vb vl 0 (doW d xs).1 V := hI
    have z1 : V.cell? ⟨w.heap.size + 1, 0, none⟩ = some (.int .i64 0) := (blk_cell hb1' 0).trans rfl
    have f1 := blk_frozen hb1' 0
    gi_wp2
    have hW0 := (show WrI W w g vb vl 0 (doW d xs).1 V from ⟨vl', hst, hfo, hrd, hb0, hb1'⟩).stored hWw hg0 hft 0
    have hK' := (KeepsOthers.setCell V ⟨w.heap.size + 1, 0, none⟩ (.int .i64 0)).same D _ hK rfl
    refine ⟨by simp, .inl ⟨_, _, rfl, run_takeDeferred hK', ?_⟩⟩
    obtain ⟨vl2, t1, t2, t3, t4, t5⟩ := hW0.grown (Bn := w1.heap.size) (by omega) (grownBy_putObj' _ D (.deferred none)) (fun r e => by cases e; exact ⟨hD, _, hK', rfl⟩)
    refine ⟨_, ?_, vl2, by rw [h0], t1, fun k hk => (t2 k hk).imp_right (fun hl => by omega), t3⟩
    have c5 := (blk_cell t5 0).trans rfl
    have hr46 : Try.f46.results = #[.cell 4 29] := rfl
    have hs29 := Try.sizeOf29
    have hu29 := Try.underlying29
    unfold results
    simp [hr46, go_sem, c5, hs29, hu29]
  case stop =>
    rintro D pre V hD hpre hI hK
    obtain ⟨h0, vl', hst, hfo, hrd, hb0, hb1'⟩ : (doW d pre).2 ≠ 0 ∧ WrI W w g vb vl (doW d pre).2 (doW d pre).1 V := hI
    have z1 : V.cell? ⟨w.heap.size + 1, 0, none⟩ = some (.int .i64 (doW d pre).2) := (blk_cell hb1' 0).trans rfl
    have f1 := blk_frozen hb1' 0
    gi_wp2
    have hW0 : WrI W w g vb vl (doW d pre).2 (doW d pre).1 V := ⟨vl', hst, hfo, hrd, hb0, hb1'⟩
    refine ⟨by simp, .inl ⟨_, _, rfl, run_takeDeferred hK, ?_⟩⟩
    obtain ⟨vl2, t1, t2, t3, t4, t5⟩ := hW0.grown (Bn := w1.heap.size) (by omega) (grownBy_putObj' _ D (.deferred none)) (fun r e => by cases e; exact ⟨hD, _, hK, rfl⟩)
    obtain ⟨ys, rfl⟩ := hpre
    rw [doW_stop pre d ys h0]
    refine ⟨_, ?_, vl2, rfl, t1, fun k hk => (t2 k hk).imp_right (fun hl => by omega), t3⟩
    have c5 := (blk_cell t5 0).trans rfl
    have hr46 : Try.f46.results = #[.cell 4 29] := rfl
    have hs29 := Try.sizeOf29
    have hu29 := Try.underlying29
    unfold results
    simp [hr46, go_sem, c5, hs29, hu29]
end Go.Proofs.Ytgageigcjeaenaa.Disk
namespace Go.Proofs.Ytgageigcjeaenaa.Disk
open Go.RowKit Go.Proofs.YtgageigcjeaenaaW.PrintWords Go.Proofs.YtgageigcjeaenaaW.PrintLast Go.Proofs.YtgageigcjeaenaaW.PrintMore Go.Proofs.Ytgageigcjeaenaa.MixBase Go.Proofs.Ytgageigcjeaenaa.MixPlain Go.Proofs.Ytgageigcjeaenaa.NumBase Go.Proofs.Ytgageigcjeaenaa.PadPlain
attribute [local go_sem] max2_int min2_int max_two min_two max_three min_three max_four min_four
set_option linter.unusedVariables false
set_option linter.unusedSimpArgs false
attribute [local go_sem] Oper.semAt_some
def pgOf (s : QJour.S62) : Pg := ⟨s.f0, s.f1⟩
/-- A row of pages, as its cells are read. -/
def RowAt (w : World) (A : Option Addr) (l : List QJour.S62) : Prop := ∀ i (h : i < l.length), ∃ ad, A = some ad ∧ w.cell? (ad.add (i * 2)) = some (.int .i64 l[i].f0) ∧ w.cell? ⟨(ad.add (i * 2)).block, (ad.add (i * 2)).off + 1, none⟩ = some (.string l[i].f1)
theorem home_calls (A : Option Addr) (n c : Nat) (w : World) : Calls Try.prog 47 #[.slice A n c] w fun e w' => ∃ b, e = .returned (.func (.func 69) #[] #[.pointer (some ⟨b, 0, none⟩)]) ∧ w.heap.size ≤ b ∧ w'.heap[b]? = some (.cells #[.slice A n c] 35 (0, 0)) ∧ Below w.heap.size w w' := by
  go_enter Try.func47, Try.ntmps47
  go_wp2
  go_ret
  exact ⟨w.heap.size, rfl, Nat.le_refl _, World.alloc_heap_new w _, (Below.refl _ w).alloc (Nat.le_refl _) _⟩
theorem all_calls (N : Int) (A : Option Addr) (n c : Nat) (w : World) : Calls Try.prog 52 #[.int .i64 N, .slice A n c] w fun e w' => ∃ b1 b2, e = .returned (.func (.func 74) #[] #[.pointer (some ⟨b2, 0, none⟩), .pointer (some ⟨b1, 0, none⟩)]) ∧ w.heap.size ≤ b1 ∧ w.heap.size ≤ b2 ∧ w'.heap[b2]? = some (.cells #[.slice A n c] 35 (0, 0)) ∧ w'.heap[b1]? = some (.cells #[.int .i64 N] 3 (0, 0)) ∧ Below w.heap.size w w' := by
  go_enter Try.func52, Try.ntmps52
  go_wp2
  go_ret
  have h2 := World.alloc_heap_new (w.alloc (.cells #[.int .i64 N] 3)) (.cells #[.slice A n c] 35)
  rw [World.size_alloc] at h2
  exact ⟨w.heap.size, w.heap.size + 1, by first | rfl | simp, Nat.le_refl _, Nat.le_succ _, h2, (Below.heap_alloc _ _ _ (by rw [World.size_alloc]; omega)).trans (World.alloc_heap_new w _), ((Below.refl _ w).alloc (Nat.le_refl _) _).alloc (by rw [World.size_alloc]; omega) _⟩
/-- What must stay where it lies: it is no block of the disk. -/
def Off (g : Nat) (w : World) (k : Nat) : Prop := ¬ FootOf g w k ∧ k < w.heap.size
theorem Off.rd {g : Nat} {A B : World} {k : Nat} (h : Off g A k) (r : Rd g A B) : Off g B k := ⟨fun hf => (r.2.2.2.2.2.1 k hf).elim h.1 (fun hl => by have := h.2; omega), Nat.lt_of_lt_of_le h.2 r.2.2.2.1⟩
theorem Off.cells {g : Nat} {A B : World} {k : Nat} {c : Array Value} {t : TypeId} {p : Nat × Nat} (h : Off g A k) (r : Rd g A B) (hc : A.heap[k]? = some (.cells c t p)) : B.heap[k]? = some (.cells c t p) := r.2.2.2.2.1 k _ hc rfl h.1
theorem cell_obj {w : World} {a : Addr} {v : Value} (h : w.cell? a = some v) : ∃ c t p, w.heap[a.block]? = some (.cells c t p) := by
  unfold World.cell? at h
  split at h
  · rename_i c t p hc
    exact ⟨c, t, p, hc⟩
  · cases h
theorem Off.cell {g : Nat} {A B : World} {a : Addr} {v : Value} (h : Off g A a.block) (r : Rd g A B) (hc : A.cell? a = some v) : B.cell? a = some v := by
  obtain ⟨c, t, p, h1⟩ := cell_obj hc
  exact (World.cell?_of_block ((h.cells r h1).trans h1.symm)).trans hc
theorem add_block (ad : Addr) (i : Nat) : (ad.add i).block = ad.block := by unfold Addr.add; first | rfl | (split <;> rfl)
def OffRow (g : Nat) (w : World) (A : Option Addr) : Prop := ∀ ad, A = some ad → Off g w ad.block
theorem RowAt.rd {g : Nat} {A B : World} {a : Option Addr} {l : List QJour.S62} (h : RowAt A a l) (ho : OffRow g A a) (r : Rd g A B) : RowAt B a l := by
  intro i hi
  obtain ⟨ad, e, h1, h2⟩ := h i hi
  exact ⟨ad, e, (show Off g A (ad.add (i * 2)).block from (add_block ad _).symm ▸ ho ad e).cell r h1, Off.cell (a := ⟨(ad.add (i * 2)).block, (ad.add (i * 2)).off + 1, none⟩) (show Off g A (ad.add (i * 2)).block from (add_block ad _).symm ▸ ho ad e) r h2⟩
def homeW (l : List QJour.S62) : List Pg := l.map pgOf ++ [⟨1, zeros 256⟩]
theorem homeW_take (l : List QJour.S62) (i : Nat) (h : i < l.length) : (l.map pgOf).take (i + 1) = (l.map pgOf).take i ++ [pgOf l[i]] := by
  rw [List.take_add_one, List.getElem?_map, List.getElem?_eq_getElem h]
  rfl
theorem homeW_pre (l : List QJour.S62) (i : Nat) (h : i < l.length) : ((l.map pgOf).take i ++ [pgOf l[i]]) <+: homeW l := by
  rw [← homeW_take l i h]
  exact (List.take_prefix _ _).trans (List.prefix_append _ _)
theorem home_tells {w : World} {g b c : Nat} {A : Option Addr} {l : List QJour.S62} (hz : QJour.journal_filled.f 3 ⟨#[]⟩ = some (zeros 256)) (hg : g < w.heap.size) (hb : w.heap[b]? = some (.cells #[.slice A l.length c] 35 (0, 0))) (hbo : Off g w b) (hr : RowAt w A l) (hro : OffRow g w A) (hn : l.length ≤ 4096) :
    Tells 69 #[.pointer (some ⟨b, 0, none⟩)] encPg (Rd g) (homeW l) w := by
  intro ly J Jx W hW hJ hJx hY h0
  have hdW : ∀ V, J [] V → True := fun _ _ => trivial
  have rW : Rd g w W := Rd.of_below hW hg
  refine (callsIn_wide (n := 30)).1 ?_
  refine callsIn_of_wp Try.func69 rfl trivial ?_ rfl
  simp only [Try.ntmps69, List.size_toArray, List.length_cons, List.length_nil, Nat.reduceAdd, Nat.reduceSub, Array.replicate_succ, Array.replicate_zero, List.push_toArray, List.append_toArray, List.nil_append, List.cons_append]
  have hbW := hbo.cells rW hb
  have zb : W.cell? ⟨b, 0, none⟩ = some (.slice A l.length c) := (blk_cell hbW 0).trans rfl
  have fb := blk_frozen hbW 0
  gi_wp2
  gi_loopw [7] (fun p wr => ∃ i : Nat, p = .int .i64 (i : Int) ∧ i ≤ l.length ∧ J ((l.map pgOf).take i) wr ∧ Rd g W wr) (fun p wr => l.length - (intOf p).toNat)
  case atStart => exact ⟨0, rfl, Nat.zero_le _, h0, Rd.refl _ _⟩
  case round =>
    obtain ⟨i, rfl, hi, hj, hrd⟩ := hrel
    by_cases hlt : i < l.length
    · obtain ⟨ad, rfl, q0, q1⟩ := (hr.rd hro (rW.trans hrd)) i hlt
      have hj2 : J ((l.map pgOf).take i) (wr.alloc (.cells #[.int .i64 l[i].f0, .string l[i].f1] 62)) := hJ.alloc _ hj
      obtain ⟨fn, tmps, assign, body, hy, hR⟩ := hY _ (pgOf l[i]) _ hj2 (homeW_pre l i hlt) (30 - 1)
      simp only [encPg, pgOf] at hy hR
      have c1 : ((i : Int) < (l.length : Int)) = True := eq_true (by omega)
      have c2 : ((0 : Int) ≤ (i : Int)) = True := eq_true (by omega)
      have c3 : (i < l.length) = True := eq_true hlt
      have hu62 := Try.underlying62
      have HY := Aside0.mk hY
      have HJ := Aside0.mk hj2
      have HN := Aside0.mk hn
      have HD := Aside0.mk hrd
      have HG : Aside0 (g < wr.heap.size) := ⟨Nat.lt_of_lt_of_le hg (Nat.le_trans hW.size hrd.2.2.2.1)⟩
      clear hY hj hj2 hrd h0 hr hro hz hg hbo hn hW hi rW hdW hb hbW zb fb
      gi_wp2
      refine hR.mono ?_
      rintro e W3 (⟨rfl, hJ3, hk3, _⟩ | ⟨rfl, hJx3, _⟩)
      · have HJ3 := Aside0.mk hJ3
        have HK3 := Aside0.mk hk3
        clear hJ3 hk3
        have cn : (!true) = false := rfl
        have cw : wrap64 ((i : Int) + 1) = (i : Int) + 1 := MixBase.wrap64_small (by omega) (by have := HN.out; omega)
        gi_wp2
        rw [cw]
        refine ⟨⟨i + 1, rfl, hlt, ?_, HD.out.trans ((Rd.of_below (below_alloc (Below.refl _ _) _) HG.out).trans HK3.out)⟩, ?_⟩
        · rw [homeW_take l i hlt]
          exact HJ3.out
        · show l.length - ((i : Int) + 1).toNat < l.length - (i : Int).toNat
          omega
      · have HJ3 := Aside0.mk hJx3
        clear hJx3
        gi_wp2
        refine bodyPost_ret (results_none rfl _ _ _) rfl ?_
        exact ⟨⟨_, rfl⟩, .inr ⟨_, homeW_pre l i hlt, HJ3.out⟩⟩
    · have c1 : ((i : Int) < (l.length : Int)) = False := eq_false (by omega)
      have HJ := Aside0.mk hj
      have HD := Aside0.mk hrd
      have HY := Aside0.mk hY
      have HX := Aside0.mk hJ
      have HN := Aside0.mk hn
      clear hY hj hrd h0 hr hro hg hbo hn hW rW hdW hb hbW zb fb hJ
      gi_wp2
      refine ⟨trivial, callsIn_wide.2 ((QJour.journal_filled.calls 3 ⟨#[]⟩ _ _ hz).mono ?_)⟩
      rintro e w5 ⟨rfl, hb5⟩
      have ei : i = l.length := by omega
      have hx : (l.map pgOf).take i = l.map pgOf := by rw [ei]; exact List.take_of_length_le (by rw [List.length_map]; exact Nat.le_refl _)
      have hj5 : J (l.map pgOf) w5 := by
        have := HX.out _ wr w5 none HJ.out ⟨hb5.os, hb5.tape, hb5.output, hb5.size, fun k hk _ => hb5.block k hk⟩ (fun r e => by cases e)
        rwa [hx] at this
      obtain ⟨fn, tmps, assign, body, hy, hR⟩ := HY.out _ ⟨1, zeros 256⟩ _ hj5 (List.prefix_refl _) (30 - 1)
      simp only [encPg] at hy hR
      clear hb5 hj5 hx ei HJ HX HY
      gi_wp2
      refine hR.mono ?_
      rintro e W3 (⟨rfl, hJ3, hk3, _⟩ | ⟨rfl, hJx3, _⟩)
      · have HJ3 := Aside0.mk hJ3
        clear hJ3 hk3
        gi_wp2
        go_end0
        exact ⟨⟨_, rfl⟩, .inl HJ3.out⟩
      · have HJ3 := Aside0.mk hJx3
        clear hJx3
        gi_wp2
        go_end0
        exact ⟨⟨_, rfl⟩, .inr ⟨_, List.prefix_refl _, HJ3.out⟩⟩
end Go.Proofs.Ytgageigcjeaenaa.Disk
namespace Go.Proofs.Ytgageigcjeaenaa.Disk
open Go.RowKit Go.Proofs.YtgageigcjeaenaaW.PrintWords Go.Proofs.YtgageigcjeaenaaW.PrintLast Go.Proofs.YtgageigcjeaenaaW.PrintMore Go.Proofs.Ytgageigcjeaenaa.MixBase Go.Proofs.Ytgageigcjeaenaa.MixPlain Go.Proofs.Ytgageigcjeaenaa.NumBase Go.Proofs.Ytgageigcjeaenaa.PadPlain
attribute [local go_sem] max2_int min2_int max_two min_two max_three min_three max_four min_four
set_option linter.unusedVariables false
set_option linter.unusedSimpArgs false
attribute [local go_sem] Oper.semAt_some
def upto (f : Nat → Pg) (n : Nat) : List Pg := (List.range n).map f
theorem upto_succ (f : Nat → Pg) (n : Nat) : upto f (n + 1) = upto f n ++ [f n] := by unfold upto; rw [List.range_succ, List.map_append]; rfl
theorem upto_pre (f : Nat → Pg) {i n : Nat} (h : i ≤ n) (r : List Pg) : upto f i <+: upto f n ++ r := by
  induction n with
  | zero => obtain rfl : i = 0 := by omega
            exact List.prefix_append _ _
  | succ n ih =>
    rcases Nat.lt_or_ge i (n + 1) with h1 | h1
    · rw [upto_succ, List.append_assoc]
      have h2 : upto f i <+: upto f n := by have := ih (by omega); exact (List.prefix_append_right_inj []).1 (by
        clear this
        have h3 : ∀ m, upto f i <+: upto f (i + m) := by
          intro m
          induction m with
          | zero => exact List.prefix_refl _
          | succ m hm => rw [← Nat.add_assoc, upto_succ]; exact hm.trans (List.prefix_append _ _)
        have := h3 (n - i)
        rw [show i + (n - i) = n by omega] at this
        exact this)
      exact h2.trans (List.prefix_append _ _)
    · obtain rfl : i = n + 1 := by omega
      exact List.prefix_append _ _
def zS : QJour.S62 := ⟨0, ⟨#[]⟩⟩
def cpF (cp : Int) (l : List QJour.S62) (i : Nat) : Pg := ⟨cp + (i : Int), (l.getD i zS).f1⟩
def lsF (lst : List ByteArray) (i : Nat) : Pg := ⟨2 + (i : Int), lst.getD i ⟨#[]⟩⟩
def allW (cp : Int) (l : List QJour.S62) (lst : List ByteArray) (tp : ByteArray) : List Pg := upto (cpF cp l) l.length ++ (upto (lsF lst) lst.length ++ (⟨1, tp⟩ :: homeW l))
/-- What a round says: it goes on, or no more. -/
def Yd (J Jx : List Pg → World → Prop) (g Bn : Nat) (pre : List Pg) (W1 : World) (b : Bool) (W' : World) : Prop := (b = true ∧ J pre W' ∧ Rd g W1 W' ∧ KeepsFrom Bn W1 W') ∨ (b = false ∧ Jx pre W' ∧ KeepsFrom Bn W1 W')
theorem grown_of_below {A B : World} (h : Below A.heap.size A B) : A.grownBy B none := ⟨h.os, h.tape, h.output, h.size, fun k hk _ => h.block k hk⟩
theorem J_below {Bn : Nat} {J : List Pg → World → Prop} (hJ : OwnFrom Bn J) {pre : List Pg} {A B : World} (h : J pre A) (hb : Below A.heap.size A B) : J pre B := hJ _ A B none h (grown_of_below hb) (fun r e => by cases e)
theorem list_row {g B : Nat} {w : World} {v : Value} {lst : List ByteArray} (h : w.ownsRow B 9 1 v lst.length (strs lst)) (hft : ∀ k, FootOf g w k → k < B) :
    ∃ A c, v = .slice A lst.length c ∧ OffRow g w A ∧ ∀ i, i < lst.length → ∃ ad, A = some ad ∧ w.cell? (ad.add i) = some (.string (lst.getD i ⟨#[]⟩)) := by
  obtain ⟨A, c, rfl, hm⟩ := own_slice h
  refine ⟨A, c, rfl, ?_, ?_⟩
  · rintro ad rfl
    have h1 := own_base h ad.block rfl
    have h2 := own_lt h ad.block rfl
    exact ⟨fun hf => by have := hft _ hf; omega, h2⟩
  · intro i hi
    obtain ⟨bb, c', cur, e, hb, hc, _, ha⟩ := own_form h (by omega)
    injection e with e _ _
    subst e
    refine ⟨_, rfl, ?_⟩
    have h1 := (blk_cell hc i).trans ((ha i (by omega)).trans (strs_at lst i hi))
    have h2 : (⟨bb, 0, none⟩ : Addr).add i = ⟨bb, i, none⟩ := by unfold Addr.add; simp; try (intro e; exact e.symm)
    rw [h2]
    exact h1
/-- A post that says nothing of panics. -/
def NormalOnly (K : Act → World → Prop) : Exit → Act → World → Prop
  | .normal, a, w => K a w
  | _, _, _ => False
theorem NormalOnly.to {K : Act → World → Prop} {Q : Exit → Act → World → Prop} : ∀ e a w, NormalOnly K e a w → Exit.then K Q e a w := by
  intro e a w h
  cases e <;> first | exact h | exact False.elim h
set_option maxRecDepth 100000 in
set_option maxHeartbeats 4000000 in
theorem all_tells {w : World} {g b1 b2 c k : Nat} {A : Option Addr} {l : List QJour.S62} {N cp : Int} {lst : List ByteArray} {tp : ByteArray} (hz : QJour.journal_filled.f 3 ⟨#[]⟩ = some (zeros 256)) (hg : g < w.heap.size) (hgc : IsC g w) (hft : ∀ k, FootOf g w k → k < w.heap.size)
    (hb2 : w.heap[b2]? = some (.cells #[.slice A l.length c] 35 (0, 0))) (hb1 : w.heap[b1]? = some (.cells #[.int .i64 N] 3 (0, 0))) (hbo2 : Off g w b2) (hbo1 : Off g w b1) (hr : RowAt w A l) (hC : ∀ V, Rd g w V → Kd.C QJour.k62 V A l.length l) (hlc : l.length ≤ c) (hro : OffRow g w A) (hn : l.length ≤ 4096)
    (hcp : QJour.journal_copies.f k N = some cp) (hcp0 : 0 ≤ cp) (hcp1 : cp ≤ 100000) (hls : QJour.journal_list.f k l = some lst) (hln : lst.length ≤ 4096) (htp : QJour.journal_top.f k l = some tp) :
    Tells 74 #[.pointer (some ⟨b2, 0, none⟩), .pointer (some ⟨b1, 0, none⟩)] encPg (Rd g) (allW cp l lst tp) w := by
  intro ly J Jx W hW hJ hJx hY h0
  have hY' : ∀ pre x W1, J pre W1 → (pre ++ [x]) <+: allW cp l lst tp → ∀ m, YieldAt Fence.wide m Try.prog ly #[encPg x] W1 fun e W' => ∃ b, e = .returned (.bool b) ∧ Yd J Jx g W.heap.size (pre ++ [x]) W1 b W' := by
    intro pre x W1 hj hp m
    refine (hY pre x W1 hj hp m).mono ?_
    rintro e W' (⟨rfl, h1, h2, h3⟩ | ⟨rfl, h1, h2⟩)
    · exact ⟨true, rfl, Or.inl ⟨rfl, h1, h2, h3⟩⟩
    · exact ⟨false, rfl, Or.inr ⟨rfl, h1, h2⟩⟩
  have HGC := Aside0.mk hgc
  clear hY hgc
  have rW : Rd g w W := Rd.of_below hW hg
  refine (callsIn_wide (n := 30)).1 ?_
  refine callsIn_of_wp_marks Try.func74 rfl trivial ?_ rfl
  simp only [Try.ntmps74, List.size_toArray, List.length_cons, List.length_nil, Nat.reduceAdd, Nat.reduceSub, Array.replicate_succ, Array.replicate_zero, List.push_toArray, List.append_toArray, List.nil_append, List.cons_append]
  obtain ⟨W1, hW1⟩ : ∃ W1, W.alloc (.cells #[.func (.yield ly) #[] #[]] 104) = W1 := ⟨_, rfl⟩
  have hbW1 : Below W.heap.size W W1 := by rw [← hW1]; exact (Below.refl _ W).alloc (Nat.le_refl _) _
  have hs1 : W1.heap.size = W.heap.size + 1 := by rw [← hW1, World.size_alloc]
  have hyb : W1.heap[W.heap.size]? = some (.cells #[.func (.yield ly) #[] #[]] 104 (0, 0)) := by rw [← hW1]; exact World.alloc_heap_new W _
  have rW1 : Rd g w W1 := rW.trans (Rd.of_below hbW1 (Nat.lt_of_lt_of_le hg hW.size))
  have hyo : Off g W1 W.heap.size := ⟨fun hf => by have := (Rd.foot_lt rW hft) _ (hf.same (hbW1.block g (Nat.lt_of_lt_of_le hg hW.size))); omega, by omega⟩
  have h1 : J [] W1 := J_below hJ h0 hbW1
  have z2 : W.cell? ⟨b2, 0, none⟩ = some (.slice A l.length c) := (blk_cell (hbo2.cells rW hb2) 0).trans rfl
  have z2' : W1.cell? ⟨b2, 0, none⟩ = some (.slice A l.length c) := (blk_cell (hbo2.cells rW1 hb2) 0).trans rfl
  gi_wp2
  try rw [hW1]
  have hN62 := Try.underlying62
  clear hW1 h0 hbW1 z2 z2'
  gi_loopw [11] (fun p wr => ∃ i : Nat, p = .int .i64 (i : Int) ∧ i ≤ l.length ∧ J (upto (cpF cp l) i) wr ∧ Rd g W1 wr) (fun p wr => l.length - (intOf p).toNat)
  case atStart => exact ⟨0, rfl, Nat.zero_le _, h1, Rd.refl _ _⟩
  case round =>
    obtain ⟨i, rfl, hi, hj, hrd⟩ := hrel
    have zy : wr.cell? ⟨W.heap.size, 0, none⟩ = some (.func (.yield ly) #[] #[]) := (blk_cell (hyo.cells hrd hyb) 0).trans rfl
    have zN : wr.cell? ⟨b1, 0, none⟩ = some (.int .i64 N) := (blk_cell (hbo1.cells (rW1.trans hrd) hb1) 0).trans rfl
    by_cases hlt : i < l.length
    · obtain ⟨ad, rfl, q0, q1⟩ := (hr.rd hro (rW1.trans hrd)) i hlt
      obtain ⟨S, hS⟩ : ∃ S, S = l[i] := ⟨_, rfl⟩
      have HSD : Aside0 (l.getD i zS = S) := ⟨by rw [hS, List.getD_eq_getElem?_getD, List.getElem?_eq_getElem hlt]; rfl⟩
      rw [← hS] at q0 q1
      clear hS
      have hj2 : J (upto (cpF cp l) i) (wr.alloc (.cells #[.int .i64 S.f0, .string S.f1] 62)) := hJ.alloc _ hj
      have c1 : ((i : Int) < (l.length : Int)) = True := eq_true (by omega)
      have c2 : ((0 : Int) ≤ (i : Int)) = True := eq_true (by omega)
      have c3 : (i < l.length) = True := eq_true hlt
      have HCP := Aside0.mk hcp
      have HY := Aside0.mk hY'
      have HJ := Aside0.mk hJ
      have HX := Aside0.mk hJx
      have HI := Aside0.mk hj2
      have HD := Aside0.mk hrd
      have HZ := Aside0.mk hlt
      have H0 := Aside0.mk hcp0
      have H1 := Aside0.mk hcp1
      have HN := Aside0.mk hn
      have HS := Aside0.mk hs1
      have HG : Aside0 (g < wr.heap.size) := ⟨by have := hrd.2.2.2.1; have := hW.size; omega⟩
      clear hcp hY' hJ hJx hj2 hrd hlt hcp0 hcp1 hn hs1 hj hi hz hg hft hb2 hb1 hbo2 hbo1 hr hC hlc hro hls hln htp rW hyb rW1 hyo h1 hW
      gi_wp2
      have hmx : Try.prog.follows .mixedOrders = true := by kernel_rfl
      obtain ⟨V, hV⟩ : ∃ V, (wr.alloc (.cells #[.int .i64 S.f0, .string S.f1] 62)) = V := ⟨_, rfl⟩
      have zb1 : V.cell? ⟨wr.heap.size, 1, none⟩ = some (.string S.f1) := by rw [← hV]; exact (blk_cell (World.alloc_heap_new wr _) 1).trans rfl
      have hbV : Below wr.heap.size wr V := by rw [← hV]; exact (Below.refl _ wr).alloc (Nat.le_refl _) _
      have zy' : V.cell? ⟨W.heap.size, 0, none⟩ = some (.func (.yield ly) #[] #[]) := (hbV.cell (World.block_lt_of_cell? _ _ zy)).trans zy
      have zN' : V.cell? ⟨b1, 0, none⟩ = some (.int .i64 N) := (hbV.cell (World.block_lt_of_cell? _ _ zN)).trans zN
      rw [hV] at HI ⊢
      have HB := Aside0.mk hbV
      clear hV zy zN q0 q1 hbV
      have cw : IntKind.i64.wrap (cp + (i : Int)) = cp + (i : Int) := (i64_w _).trans (MixBase.wrap64_small (by have := H0.out; omega) (by have := H1.out; have := HN.out; have := HZ.out; omega))
      rename_i K hKn
      refine wpIn_mono (Q := NormalOnly (fun a w => ∃ (nd : Nat) (b : Bool), a = { tmps := #[.func (.yield ly) #[] #[], .pointer (some ⟨b2, 0, none⟩), .pointer (some ⟨b1, 0, none⟩), .pointer (some ⟨W.heap.size, 0, none⟩), .int .i64 (i : Int), .pointer (some ⟨wr.heap.size, 0, none⟩), undef, undef, undef, .slice (some ad) l.length c, .int .i64 (l.length : Int), .int .i64 (i : Int), .bool true, .int .i64 (i : Int), .pointer (some (ad.add (i * 2))), .agg #[.int .i64 S.f0, .string S.f1], .func (.yield ly) #[] #[], .int .i64 N, .int .i64 cp, .int .i64 (i : Int), .int .i64 (cp + (i : Int)), .pointer (some ⟨wr.heap.size, 1, none⟩), .string S.f1, .agg #[.int .i64 (cp + (i : Int)), .string S.f1], .bool b, .bool (!b), u26, undef, undef, undef, undef, undef, undef, undef, undef, undef, undef, undef, undef, undef, undef, undef, undef, undef, undef, undef, undef, undef, undef, undef, undef, undef, undef, undef, undef, undef], defers := [] } ∧ Yd J Jx g W.heap.size (upto (cpF cp l) i ++ [cpF cp l i]) (V.drewN (1 + nd)) b w)) ?reg ?rest
      case reg =>
        gi_region_with_o (first
          | (refine ⟨trivial, ?_⟩; gi_at_call 63; refine (callsIn_wide.2 (QJour.journal_copies.calls k N cp _ HCP.out)).mono ?_; rintro e wc ⟨rfl, ⟨nd, rfl⟩⟩; obtain ⟨fn, tmps, assign, body, hy, hR⟩ := HY.out _ (cpF cp l i) (V.drewN (1 + nd)) (J_below HJ.out HI.out (pw_below_drewN (Below.refl _ _) _)) (by rw [← upto_succ]; exact upto_pre _ (by have := HZ.out; omega) _) (30 - 1); simp only [encPg, cpF, HSD.out] at hy)
          | (refine hR.mono ?_; rintro e W3 ⟨b, rfl, hb⟩; have HE := Aside0.mk hb; clear hb hy hR))
        all_goals exact ⟨nd, b, rfl, HE.out⟩
      case rest =>
        rintro e a w3 h
        cases e with
        | normal =>
          obtain ⟨nd, b, rfl, hb⟩ := h
          show K _ _
          refine hKn _ _ ?_
          have HE := Aside0.mk hb
          clear hb zb1 zy' zN' cw
          cases b
          · gi_wp2
            rcases HE.out with ⟨h, _⟩ | ⟨_, h, hkp⟩
            · cases h
            · exact ⟨_, results_none rfl _ _ _, ⟨_, rfl⟩, .inr ⟨_, by rw [← upto_succ]; exact upto_pre _ (by have := HZ.out; omega) _, h⟩⟩
          · have cw : wrap64 ((i : Int) + 1) = (i : Int) + 1 := MixBase.wrap64_small (by omega) (by have := HN.out; have := HZ.out; omega)
            gi_wp2
            rw [cw]
            rcases HE.out with ⟨_, h, h2, _⟩ | ⟨h, _⟩
            · refine ⟨⟨i + 1, rfl, HZ.out, ?_, HD.out.trans ((Rd.of_below (g := g) HB.out HG.out).trans ((Rd.of_below (g := g) (pw_below_drewN (Below.refl _ _) _) (by have := HG.out; have := HB.out.size; omega)).trans h2))⟩, ?_⟩
              · rw [upto_succ]
                exact h
              · show l.length - ((i : Int) + 1).toNat < l.length - (i : Int).toNat
                have := HZ.out
                omega
            · cases h
        | _ => exact h.elim
    · have c1 : ((i : Int) < (l.length : Int)) = False := eq_false (by omega)
      obtain rfl : i = l.length := by omega
      have zb2 : wr.cell? ⟨b2, 0, none⟩ = some (.slice A l.length c) := (blk_cell (hbo2.cells (rW1.trans hrd) hb2) 0).trans rfl
      have RW := Aside0.mk (rW1.trans hrd)
      have HJ0 := Aside0.mk hj
      have HY := Aside0.mk hY'
      have HJ := Aside0.mk hJ
      have HX := Aside0.mk hJx
      have HR := Aside0.mk hr
      have HRO := Aside0.mk hro
      have HC := Aside0.mk hC
      have HLC := Aside0.mk hlc
      have HLS := Aside0.mk hls
      have HLN := Aside0.mk hln
      have HTP := Aside0.mk htp
      have HN := Aside0.mk hn
      have HZ := Aside0.mk hz
      have HS := Aside0.mk hs1
      have HYB := Aside0.mk (hyo.cells hrd hyb)
      have HYO := Aside0.mk (hyo.rd hrd)
      have HB2 := Aside0.mk (hbo2.cells (rW1.trans hrd) hb2)
      have HBO2 := Aside0.mk (hbo2.rd (rW1.trans hrd))
      have HWr : Aside0 (W.heap.size < wr.heap.size) := ⟨by have := hrd.2.2.2.1; omega⟩
      have HG : Aside0 (g < wr.heap.size) := ⟨by have := hrd.2.2.2.1; have := hW.size; omega⟩
      have HFt : Aside0 (∀ k, FootOf g w k → k < w.heap.size) := ⟨hft⟩
      clear hcp hY' hJ hJx hrd hlt hcp0 hcp1 hn hs1 hj hi hz hg hft hb2 hb1 hbo2 hbo1 hr hC hlc hro hls hln htp rW hyb rW1 hyo h1 hW zy zN
      gi_wp2
      refine ⟨trivial, callsIn_wide.2 ((QJour.journal_list.calls k A c l lst wr (HC.out _ RW.out) HLC.out HLS.out).mono ?_)⟩
      rintro e w5 ⟨v, rfl, hRl, hb5⟩
      have hft5 : ∀ k, FootOf g w5 k → k < wr.heap.size := fun k hf => (Rd.foot_lt RW.out HFt.out) k (hf.same (hb5.block g HG.out))
      have hown : w5.ownsRow wr.heap.size 9 1 v lst.length (strs lst) := Kd.own_of_R hRl
      obtain ⟨A3, c3, rfl, hro3, hat3⟩ := list_row hown hft5
      have rw5 : Rd g wr w5 := Rd.of_below hb5 HG.out
      have hj5 : J (upto (cpF cp l) l.length ++ upto (lsF lst) 0) w5 := by
        have := J_below HJ.out HJ0.out hb5
        rwa [show upto (lsF lst) 0 = [] from rfl, List.append_nil]
      have hyb5 := HYO.out.cells rw5 HYB.out
      have hyo5 := HYO.out.rd rw5
      have hb25 := HBO2.out.cells rw5 HB2.out
      have hbo25 := HBO2.out.rd rw5
      have hg5 : g < w5.heap.size := Nat.lt_of_lt_of_le HG.out hb5.size
      have hsz5 : W.heap.size < w5.heap.size := Nat.lt_of_lt_of_le HWr.out hb5.size
      have rW5 : Rd g w w5 := RW.out.trans rw5
      clear hRl hown hft5 HJ0 HYB HYO HB2 HBO2 HG RW hb5 rw5 zb2 c1 HWr
      gi_wp2
      gi_loopw [30] (fun p wr => ∃ i : Nat, p = .int .i64 (i : Int) ∧ i ≤ lst.length ∧ J (upto (cpF cp l) l.length ++ upto (lsF lst) i) wr ∧ Rd g w5 wr) (fun p wr => lst.length - (intOf p).toNat)
      case atStart => exact ⟨0, rfl, Nat.zero_le _, hj5, Rd.refl _ _⟩
      case round =>
        obtain ⟨i, rfl, hi, hj, hrd⟩ := hrel
        have zy : wr.cell? ⟨W.heap.size, 0, none⟩ = some (.func (.yield ly) #[] #[]) := (blk_cell (hyo5.cells hrd hyb5) 0).trans rfl
        by_cases hlt : i < lst.length
        · obtain ⟨ad, rfl, q0⟩ := hat3 i hlt
          replace q0 := Off.cell (a := ad.add i) ((add_block ad i).symm ▸ hro3 ad rfl) hrd q0
          have c1 : ((i : Int) < (lst.length : Int)) = True := eq_true (by omega)
          have c2 : ((0 : Int) ≤ (i : Int)) = True := eq_true (by omega)
          have c3 : (i < lst.length) = True := eq_true hlt
          obtain ⟨S, hS⟩ : ∃ S, S = lst.getD i ⟨#[]⟩ := ⟨_, rfl⟩
          rw [← hS] at q0
          have cw : wrap64 (2 + (i : Int)) = 2 + (i : Int) := MixBase.wrap64_small (by omega) (by have := HLN.out; omega)
          have cw' : wrap64 ((i : Int) + 1) = (i : Int) + 1 := MixBase.wrap64_small (by omega) (by have := HLN.out; omega)
          have hpre : ((upto (cpF cp l) l.length ++ upto (lsF lst) i) ++ [lsF lst i]) <+: allW cp l lst tp := by
            rw [List.append_assoc, ← upto_succ]
            exact (List.prefix_append_right_inj _).2 (upto_pre _ (by omega) _)
          obtain ⟨fn, tmps, assign, body, hy, hR⟩ := HY.out _ (lsF lst i) wr hj hpre (30 - 1)
          simp only [encPg, lsF, ← hS] at hy
          have HP := Aside0.mk hpre
          have HD := Aside0.mk hrd
          have HL := Aside0.mk hlt
          clear hpre hj hrd hro3 hat3 hj5 hyb5 hyo5 hb25 hbo25 hg5 hsz5 rW5 hi hS
          gi_wp2
          refine hR.mono ?_
          rintro e W3 ⟨b, rfl, hb⟩
          have HE := Aside0.mk hb
          clear hb hy hR cw zy q0 c1 c2 c3
          cases b
          · gi_wp2
            rcases HE.out with ⟨h, _⟩ | ⟨_, h, hkp⟩
            · cases h
            · exact ⟨_, results_none rfl _ _ _, ⟨_, rfl⟩, .inr ⟨_, HP.out, h⟩⟩
          · gi_wp2
            rw [cw']
            rcases HE.out with ⟨_, h, h2, _⟩ | ⟨h, _⟩
            · refine ⟨⟨i + 1, rfl, HL.out, ?_, HD.out.trans h2⟩, ?_⟩
              · rw [upto_succ, ← List.append_assoc]
                exact h
              · show lst.length - ((i : Int) + 1).toNat < lst.length - (i : Int).toNat
                have := HL.out
                omega
            · cases h
        · have c1 : ((i : Int) < (lst.length : Int)) = False := eq_false (by omega)
          obtain rfl : i = lst.length := by omega
          have zb2 : wr.cell? ⟨b2, 0, none⟩ = some (.slice A l.length c) := (blk_cell (hbo25.cells hrd hb25) 0).trans rfl
          have hg6 : g < wr.heap.size := Nat.lt_of_lt_of_le hg5 hrd.2.2.2.1
          have HYB := Aside0.mk (hyo5.cells hrd hyb5)
          have HYO := Aside0.mk (hyo5.rd hrd)
          have HB2 := Aside0.mk (hbo25.cells hrd hb25)
          have HBO2 := Aside0.mk (hbo25.rd hrd)
          have HG := Aside0.mk hg6
          have RW := Aside0.mk (rW5.trans hrd)
          have HJ0 := Aside0.mk hj
          clear hj hrd hro3 hat3 hj5 hyb5 hyo5 hb25 hbo25 hg5 hsz5 rW5 hi hlt hg6
          have hX2 : J (upto (cpF cp l) l.length ++ upto (lsF lst) lst.length) wr := HJ0.out
          have HP : Aside0 (((upto (cpF cp l) l.length ++ upto (lsF lst) lst.length) ++ [⟨1, tp⟩]) <+: allW cp l lst tp) := ⟨by
            show _ <+: upto (cpF cp l) l.length ++ (upto (lsF lst) lst.length ++ ([⟨1, tp⟩] ++ homeW l))
            rw [← List.append_assoc, ← List.append_assoc]
            exact List.prefix_append _ _⟩
          gi_wp2
          have hmx : Try.prog.follows .mixedOrders = true := by kernel_rfl
          obtain ⟨V, hV⟩ : ∃ V, wr = V := ⟨_, rfl⟩
          subst hV
          have zyd : wr.drew.cell? ⟨W.heap.size, 0, none⟩ = some (.func (.yield ly) #[] #[]) := zy
          have zbd : wr.drew.cell? ⟨b2, 0, none⟩ = some (.slice A l.length c) := zb2
          clear c1 hX2
          rename_i K hKn
          refine wpIn_mono (Q := NormalOnly (fun a w => ∃ (V9 : World) (b : Bool), a = { tmps := #[.func (.yield ly) #[] #[], .pointer (some ⟨b2, 0, none⟩), .pointer (some ⟨b1, 0, none⟩), .pointer (some ⟨W.heap.size, 0, none⟩), u4, u5, u6, u7, undef, .slice A l.length c, .int .i64 (l.length : Int), .int .i64 (l.length : Int), .bool false, u13, u14, u15, u16, u17, u18, u19, u20, u21, u22, u23, u24, u25, u26, .slice A l.length c, .slice A3 lst.length c3, .int .i64 (lst.length : Int), .int .i64 (lst.length : Int), .bool false, u32, u33, u34, u35, u36, u37, u38, u39, u40, u41, u42, .func (.yield ly) #[] #[], .slice A l.length c, .string tp, .agg #[.int .i64 1, .string tp], .bool b, .bool (!b), undef, undef, undef, undef, undef, undef, undef], defers := [] } ∧ Rd g wr V9 ∧ Yd J Jx g W.heap.size ((upto (cpF cp l) l.length ++ upto (lsF lst) lst.length) ++ [⟨1, tp⟩]) V9 b w)) ?reg2 ?rest2
          case reg2 =>
            gi_region_with_o (first
              | (refine ⟨trivial, ?_⟩; gi_at_call 68; refine (callsIn_wide.2 (QJour.journal_top.calls k A c l tp _ (HC.out _ (RW.out.trans (Rd.of_below (B := wr.drew) (below_drew1 (Below.refl _ _)) HG.out))) HLC.out HTP.out)).mono ?_; rintro e wc ⟨rfl, hbt⟩; have zyc : wc.cell? ⟨W.heap.size, 0, none⟩ = some (.func (.yield ly) #[] #[]) := (hbt.cell (World.block_lt_of_cell? _ _ zyd)).trans zyd; have HBT := Aside0.mk (Rd.of_below (g := g) (A := wr) (B := wc) (below_step (below_drew1 (Below.refl _ _)) hbt) HG.out); obtain ⟨fn, tmps, assign, body, hy, hR⟩ := HY.out _ ⟨1, tp⟩ wc (J_below HJ.out HJ0.out (below_step (below_drew1 (Below.refl _ _)) hbt)) HP.out (30 - 1); simp only [encPg] at hy; clear hbt)
              | (refine hR.mono ?_; rintro e W3 ⟨b, rfl, hb⟩; have HE := Aside0.mk hb; clear hb hy hR))
            all_goals exact ⟨wc, b, rfl, HBT.out, HE.out⟩
          case rest2 =>
            rintro e a w3 h
            cases e with
            | normal =>
              obtain ⟨V9, b, rfl, hrd, hb⟩ := h
              show K _ _
              refine hKn _ _ ?_
              have HE := Aside0.mk hb
              have HD := Aside0.mk hrd
              clear hb hrd zyd zbd
              cases b
              · gi_wp2
                rcases HE.out with ⟨h, _⟩ | ⟨_, h, hkp⟩
                · cases h
                · exact ⟨_, results_none rfl _ _ _, ⟨_, rfl⟩, .inr ⟨_, HP.out, h⟩⟩
              · rcases HE.out with ⟨_, h, h2, _⟩ | ⟨h, _⟩
                · have rd3 := HD.out.trans h2
                  have zb3 : w3.cell? ⟨b2, 0, none⟩ = some (.slice A l.length c) := (blk_cell (HBO2.out.cells rd3 HB2.out) 0).trans rfl
                  have HR3 := Aside0.mk rd3
                  have HJ3 := Aside0.mk h
                  have hg3 : g < w3.heap.size := Nat.lt_of_lt_of_le HG.out rd3.2.2.2.1
                  have zy3 := Aside0.mk (HYO.out.cells rd3 HYB.out)
                  have yo3 := Aside0.mk (HYO.out.rd rd3)
                  clear h h2 rd3 zy zb2
                  gi_wp2
                  refine ⟨trivial, callsIn_wide.2 ((home_calls A l.length c w3).mono ?_)⟩
                  rintro e w4 ⟨b, rfl, hbb, hbc, hb4⟩
                  have rd4 : Rd g w3 w4 := Rd.of_below hb4 hg3
                  have hg4 : g < w4.heap.size := Nat.lt_of_lt_of_le hg3 hb4.size
                  have rw4 : Rd g w w4 := RW.out.trans (HR3.out.trans rd4)
                  have hbo : Off g w4 b := ⟨fun hf => by
                    have := (Rd.foot_lt (RW.out.trans HR3.out) HFt.out) b (hf.same (hb4.block g hg3))
                    omega, blk_lt hbc⟩
                  have hT := home_tells HZ.out hg4 hbc hbo (HR.out.rd HRO.out rw4) (fun ad e => (HRO.out ad e).rd rw4) HN.out
                  have hy4 := yo3.out.cells rd4 zy3.out
                  have yo4 := yo3.out.rd rd4
                  have hj4 := J_below HJ.out HJ3.out hb4
                  have hgc4 : IsC g w4 := rw4.2.2.2.2.2.2 HGC.out
                  have hWw4 : W.heap.size ≤ w4.heap.size := by have := blk_lt hy4; omega
                  clear rd4 hbc hbb hbo hb4 zb3 hg3
                  gi_wp2
                  obtain ⟨P, hP⟩ : ∃ P, P = (upto (cpF cp l) l.length ++ upto (lsF lst) lst.length) ++ [⟨1, tp⟩] := ⟨_, rfl⟩
                  have hAll : allW cp l lst tp = P ++ homeW l := by
                    rw [hP]
                    show upto (cpF cp l) l.length ++ (upto (lsF lst) lst.length ++ ([⟨1, tp⟩] ++ homeW l)) = _
                    rw [← List.append_assoc, ← List.append_assoc]
                  rw [← hP] at hj4
                  refine wp_tells (gf := 69) (lb := #[.pointer (some ⟨b, 0, none⟩)]) (enc := encPg) (Kp := Rd g) (xs := homeW l) (w0 := w4) rfl (enters_of Try.func69 (by kernel_rfl) rfl) hT (fun h k => h.trans k) (fun W l r r' _ hl => Rd.turn W l r r' hl) (Below.refl _ _)
                    (fun pre V => J (P ++ pre) V ∧ IsC g V ∧ Rd g w4 V) (fun pre V => Jx (P ++ pre) V)
                    ?hI ?hIx ?h0
                    (fun x a' V => ∃ Bx, w4.heap.size ≤ Bx ∧ V.heap[Bx]? = some (.cells #[.int .i64 x.at_, .string x.data] 62 (0, 0)) ∧ ∃ v48 : Value, a' = { tmps := #[.func (.yield ly) #[] #[], .pointer (some ⟨b2, 0, none⟩), .pointer (some ⟨b1, 0, none⟩), .pointer (some ⟨W.heap.size, 0, none⟩), u4, u5, u6, u7, .pointer (some ⟨Bx, 0, none⟩), .slice A l.length c, .int .i64 (l.length : Int), .int .i64 (l.length : Int), .bool false, u13, u14, u15, u16, u17, u18, u19, u20, u21, u22, u23, u24, u25, u26, .slice A l.length c, .slice A3 lst.length c3, .int .i64 (lst.length : Int), .int .i64 (lst.length : Int), .bool false, u32, u33, u34, u35, u36, u37, u38, u39, u40, u41, u42, .func (.yield ly) #[] #[], .slice A l.length c, .string tp, .agg #[.int .i64 1, .string tp], .bool true, v48, .slice A l.length c, .func (.func 69) #[] #[.pointer (some ⟨b, 0, none⟩)], .agg #[.int .i64 x.at_, .string x.data], undef, undef, undef, undef], defers := [] })
                    ?hAx ?assign ?body ?done ?stop
                  case hI => exact fun s A B row hs hg hr => ⟨HJ.out _ _ _ _ hs.1 hg (fun r e => ⟨Nat.le_trans hWw4 (hr r e).1, (hr r e).2⟩), by obtain ⟨c, t, p, hc⟩ := hs.2.1; exact ⟨c, t, p, grown_cells hg hr hc rfl⟩, hs.2.2.grown' hs.2.1 hg hr⟩
                  case hIx => exact fun s A B row hs hg hr => HX.out _ _ _ _ hs hg (fun r e => ⟨Nat.le_trans hWw4 (hr r e).1, (hr r e).2⟩)
                  case h0 => exact ⟨by rw [List.append_nil]; exact hj4, hgc4, Rd.refl _ _⟩
                  case hAx => exact fun x a' s A B row hs hg hr => by obtain ⟨Bx, hx, hy, hz⟩ := hs; exact ⟨Bx, hx, grown_cells hg hr hy rfl, hz⟩
                  case assign =>
                    rintro m lr pre x V K hi hK
                    unfold encPg
                    gi_wp2
                    refine hK _ _ ?_ ?_ ?_ ⟨V.heap.size, ?_, ?_, _, rfl⟩
                    · exact (KeepsOthers.alloc _ _).from _
                    · exact Rd.of_below (below_alloc (Below.refl _ _) _) (Nat.lt_of_lt_of_le hg4 hi.2.2.2.2.2.1)
                    · exact ⟨J_below HJ.out hi.1 (below_alloc (Below.refl _ _) _), by obtain ⟨c, t, p, hc⟩ := hi.2.1; exact ⟨c, t, p, blk_below hc (below_alloc (Below.refl _ _) _)⟩, hi.2.2.trans (Rd.of_below (below_alloc (Below.refl _ _) _) (Nat.lt_of_lt_of_le hg4 hi.2.2.2.2.2.1))⟩
                    · exact hi.2.2.2.2.2.1
                    · exact World.alloc_heap_new _ _
                  case body =>
                    rintro m lr pre x a' V hI ⟨Bx, hBx, hx, v48, rfl⟩ hpre
                    obtain ⟨hj, hgcv, hrd⟩ : J (P ++ pre) V ∧ IsC g V ∧ Rd g w4 V := hI
                    have zy : V.cell? ⟨W.heap.size, 0, none⟩ = some (.func (.yield ly) #[] #[]) := (blk_cell (yo4.cells hrd hy4) 0).trans rfl
                    have x0 : V.cell? ⟨Bx, 0, none⟩ = some (.int .i64 x.at_) := (blk_cell hx 0).trans rfl
                    have x1 : V.cell? ⟨Bx, 1, none⟩ = some (.string x.data) := (blk_cell hx 1).trans rfl
                    obtain ⟨fn, tmps, assign, body, hy, hR⟩ := HY.out (P ++ pre) x V hj (by rw [hAll, List.append_assoc]; exact (List.prefix_append_right_inj _).2 hpre) (m - 1)
                    simp only [encPg] at hy
                    have HD := Aside0.mk hrd
                    have HI := Aside0.mk hgcv
                    have H4 := Aside0.mk hWw4
                    clear hj hrd hx hpre hBx hgcv hWw4 hT hy4 yo4 hj4 hgc4 rw4 hg4
                    gi_wp2
                    refine ⟨fun hh => by simp [Fence.wide] at hh, ?_⟩
                    have hR' := hR.mono (R' := fun e W' => ∃ bb, e = .returned (.bool bb) ∧ Yd J Jx g W.heap.size (P ++ pre ++ [x]) V bb W') (fun e W' h => h)
                    refine RoundIn.mono (F := Fence.wide.inRound lr) hR' ?_
                    rintro e W3 ⟨bb, rfl, hb⟩
                    have HE := Aside0.mk hb
                    clear hb hy hR hR' zy x0 x1
                    cases bb
                    · gi_wp2
                      rcases HE.out with ⟨h, _⟩ | ⟨_, h, hkp⟩
                      · cases h
                      · exact ⟨keepsFrom_le hkp H4.out, by show Jx (P ++ (pre ++ [x])) W3; rw [← List.append_assoc]; exact h⟩
                    · gi_wp2
                      rcases HE.out with ⟨_, h, h2, h3⟩ | ⟨h, _⟩
                      · exact ⟨keepsFrom_le h3 H4.out, h2, by rw [← List.append_assoc]; exact h, h2.2.2.2.2.2.2 HI.out, HD.out.trans h2⟩
                      · cases h
                  case done =>
                    rintro D V hD hI hK
                    gi_wp2
                    refine ⟨by simp, .inl ⟨_, _, rfl, run_takeDeferred hK, ?_⟩⟩
                    exact ⟨_, results_none rfl _ _ _, ⟨_, rfl⟩, .inl (by rw [hAll]; exact OwnFrom.putObj HJ.out _ hI.1 (Nat.le_trans hWw4 hD) hK rfl)⟩
                  case stop =>
                    rintro D pre V hD hpre hI hK
                    gi_wp2
                    refine ⟨by simp, .inl ⟨_, _, rfl, run_takeDeferred hK, ?_⟩⟩
                    exact ⟨_, results_none rfl _ _ _, ⟨_, rfl⟩, .inr ⟨_, by rw [hAll]; exact (List.prefix_append_right_inj _).2 hpre, OwnFrom.putObj HX.out _ hI (Nat.le_trans hWw4 hD) hK rfl⟩⟩
                · cases h
            | _ => exact h.elim
end Go.Proofs.Ytgageigcjeaenaa.Disk
namespace Go.Proofs.Ytgageigcjeaenaa.Disk
open Go.RowKit Go.Proofs.YtgageigcjeaenaaW.PrintWords Go.Proofs.YtgageigcjeaenaaW.PrintLast Go.Proofs.YtgageigcjeaenaaW.PrintMore Go.Proofs.Ytgageigcjeaenaa.MixBase Go.Proofs.Ytgageigcjeaenaa.MixPlain Go.Proofs.Ytgageigcjeaenaa.NumBase Go.Proofs.Ytgageigcjeaenaa.PadPlain
attribute [local go_sem] max2_int min2_int max_two min_two max_three min_three max_four min_four
set_option linter.unusedVariables false
set_option linter.unusedSimpArgs false
theorem C_rd {g : Nat} {A B : World} {a : Option Addr} {n : Nat} {l : List QJour.S62} (h : Kd.C QJour.k62 A a n l) (ho : OffRow g A a) (r : Rd g A B) : Kd.C QJour.k62 B a n l :=
  ⟨h.1, h.2.1, fun hn => by
    obtain ⟨ad, e, hc⟩ := h.2.2 hn
    exact ⟨ad, e, fun j p hp => by
      obtain ⟨c, h1, h2, h3⟩ := hc j p hp
      exact ⟨c, h1, h2, fun i u hu => Off.cell (a := ad.add (j * 2 + i)) ((add_block ad _).symm ▸ ho ad e) r (h3 i u hu)⟩⟩⟩
theorem rowAt_of_C {w : World} {a : Option Addr} {l : List QJour.S62} (h : Kd.C QJour.k62 w a l.length l) : RowAt w a l := by
  intro i hi
  obtain ⟨ad, e, h1, h2⟩ := QJour.at_T62 h (i : Int) (by omega) (by omega)
  have hr : QJour.rd_T62 l (i : Int) = l[i] := by
    show l.getD _ _ = _
    rw [List.getD_eq_getElem?_getD, show ((i : Int)).toNat = i by omega, List.getElem?_eq_getElem hi]
    rfl
  rw [hr, show ((i : Int)).toNat = i by omega] at h1 h2
  exact ⟨ad, e, h1, h2⟩
/-- May a group be written? -/
def mayL (pg : Int → Bool) : List Int → List QJour.S62 → Int
  | _, [] => 0
  | seen, p :: l => if pg p.f0 = true then (if p.f1.size = 256 then (if p.f0 ∈ seen then 9 else mayL pg (p.f0 :: seen) l) else 3) else 1
def mayS (m : Int) (pg : Int → Bool) (l : List QJour.S62) : Int := if (l.length : Int) > m then 10 else mayL pg [] l
def SeenIs (D : DataW Unit) (seen : List Int) : Prop := Maps.IsMap D ∧ ∀ a : Int, (Lit.int .i64 a).wf = true → D.atKey (.int .i64 a) (.lit (.int .i64 0)) = .lit (.int .i64 (if a ∈ seen then 1 else 0))
theorem seen_lookup {W : World} {b n : Nat} {D : DataW Unit} {seen : List Int} {a : Int} (h : W.ownsMap Try.prog 3 (plainElem (H := Unit) Try.prog 3) b n D) (hs : SeenIs D seen) (hw : (Lit.int .i64 a).wf = true) :
    (Instr.lookup 105 (.map (some b)) (.int .i64 a) false).run Try.prog W = .ok (.int .i64 (if a ∈ seen then 1 else 0)) W := by
  obtain ⟨c, hl, hat, _⟩ := h.lookup_int (Maps.int_keyed Try.underlying3) Try.underlying105 Try.underlying3 (Try.zeroValue3 _) (Maps.keyOf_int_mk Try.underlying3 hw)
  have h2 := (hs.2 a hw).symm.trans hat
  have h3 : (if a ∈ seen then (1 : Int) else 0) = c := by
    have e1 := DataW.lit.inj h2
    exact (Lit.int.inj e1).2
  rw [h3]
  exact hl
theorem seen_update {W : World} {b n : Nat} {D : DataW Unit} {seen : List Int} {a : Int} (h : W.ownsMap Try.prog 3 (plainElem (H := Unit) Try.prog 3) b n D) (hn : n < maxLen) (hs : SeenIs D seen) (hw : (Lit.int .i64 a).wf = true) :
    ∃ w', (Instr.mapUpdate 105 (.map (some b)) (.int .i64 a) (.int .i64 1)).run Try.prog W = .ok () w' ∧ (∃ D' : DataW Unit, w'.ownsMap Try.prog 3 (plainElem (H := Unit) Try.prog 3) b (n + 1) D' ∧ SeenIs D' (a :: seen)) ∧ W.grownBy w' (some b) := by
  obtain ⟨w', h1, h2, h3⟩ := h.update (Maps.int_keyed Try.underlying3) Try.underlying105 hn (Maps.keyOf_int_mk Try.underlying3 hw) (plainElem_int (H := Unit) (a := 1) Try.underlying3 (by decide))
  refine ⟨w', h1, ⟨_, h2, Maps.IsMap.put hs.1 _ _, ?_⟩, h3⟩
  intro x hx
  by_cases e : x = a
  · subst e
    rw [Maps.atKey_put_same hs.1 (show WideAt.IsKeyLit (.int .i64 x) from trivial)]
    simp
  · rw [Maps.atKey_put_other (by intro h; injection h with _ h; exact e h), hs.2 x hx]
    simp [e]
set_option maxRecDepth 100000 in
theorem jmay_calls {w : World} {A : Option Addr} {c k : Nat} {l : List QJour.S62} {N m : Int} {pg : Int → Bool} (hC : Kd.C QJour.k62 w A l.length l) (hn : l.length ≤ 5864062014805) (hP : QJour.journal_Pages.f k N = some m) (hpg : ∀ a, QJour.journal_page.f k N a = some (pg a)) (hwf : ∀ a, pg a = true → (Lit.int .i64 a).wf = true) :
    Calls Try.prog 51 #[.int .i64 N, .slice A l.length c] w fun e w' => e = .returned (.int .i64 (mayS m pg l)) ∧ Below w.heap.size w w' := by
  have hR := rowAt_of_C hC
  have HP := Aside0.mk hP
  have HPG := Aside0.mk hpg
  have HR := Aside0.mk hR
  have HW := Aside0.mk hwf
  have HN := Aside0.mk hn
  have hu62 := Try.underlying62
  clear hP hpg hR hwf hC hn
  unfold mayS
  by_cases hm : (l.length : Int) > m
  · rw [if_pos hm]
    have c1 : ((l.length : Int) > m) = True := eq_true hm
    have c1' : (m < (l.length : Int)) = True := eq_true hm
    go_enter Try.func51, Try.ntmps51
    go_wp2_with (go_at_call 39; refine (QJour.journal_Pages.calls k N m _ HP.out).mono ?_; rintro e wc ⟨rfl, ⟨nd, rfl⟩⟩)
    go_ret
    exact ⟨rfl, pw_below_drewN (Below.refl _ _) _⟩
  · rw [if_neg hm]
    have c1 : ((l.length : Int) > m) = False := eq_false hm
    have hmm := @run_makeMap Try.prog
    have c1' : (m < (l.length : Int)) = False := eq_false hm
    go_enter Try.func51, Try.ntmps51
    go_wp2_with (go_at_call 39; refine (QJour.journal_Pages.calls k N m _ HP.out).mono ?_; rintro e wc ⟨rfl, ⟨nd, rfl⟩⟩)
    have hcur := hu62
    obtain ⟨W2, hW2⟩ : ∃ W2, (w.drewN nd).alloc (.map #[] 0) = W2 := ⟨_, rfl⟩
    have hown0 : W2.ownsMap Try.prog 3 (plainElem (H := Unit) Try.prog 3) (w.drewN nd).heap.size 0 (.map []) := by rw [← hW2]; exact World.ownsMap_made _ _ _ _
    have hb2 : Below w.heap.size w W2 := by rw [← hW2]; exact (pw_below_drewN (Below.refl _ _) nd).alloc (Nat.le_refl _) _
    have HO := Aside0.mk hown0
    have HB := Aside0.mk hb2
    clear hown0 hb2 hcur
    go_wp2
    have HO : Aside0 (W2.ownsMap Try.prog 3 (plainElem (H := Unit) Try.prog 3) w.heap.size 0 (.map [])) := ⟨HO.out⟩
    (try rw [hW2])
    clear hW2 hmm c1 c1'
    go_loopg [16] l.length (fun kq v16 wr => ∃ (i : Nat) (seen : List Int) (D : DataW Unit), v16 = .int .i64 (i : Int) ∧ i ≤ l.length ∧ Aside0 (kq = l.length - i) ∧ Aside0 (wr.ownsMap Try.prog 3 (plainElem (H := Unit) Try.prog 3) w.heap.size i D) ∧ Aside0 (SeenIs D seen) ∧ Aside0 (mayL pg [] l = mayL pg seen (l.drop i)) ∧ Aside0 (Below w.heap.size w wr))
    case atStart => exact ⟨0, [], .map [], rfl, Nat.zero_le _, ⟨rfl⟩, HO, ⟨⟨⟨_, rfl⟩, fun a _ => rfl⟩⟩, ⟨rfl⟩, HB⟩
    case round =>
      clear HO HB
      obtain ⟨i, seen, D, rfl, hi, hkq, HO, HS, HM, HB⟩ := hrel
      by_cases hil : i < l.length
      · obtain ⟨ad, rfl, q0, q1⟩ := HR.out i hil
        replace q0 := (HB.out.cell (World.block_lt_of_cell? _ _ q0)).trans q0
        replace q1 := (HB.out.cell (World.block_lt_of_cell? _ _ q1)).trans q1
        have hM : mayL pg seen (l.drop i) = (if pg l[i].f0 = true then (if l[i].f1.size = 256 then (if l[i].f0 ∈ seen then 9 else mayL pg (l[i].f0 :: seen) (l.drop (i + 1))) else 3) else 1) := by rw [List.drop_eq_getElem_cons hil]; rfl
        generalize l[i] = S at q0 q1 hM
        have c1 : ((i : Int) < (l.length : Int)) = True := eq_true (by omega)
        have c2 : ((0 : Int) ≤ (i : Int)) = True := eq_true (by omega)
        have c3 : (i < l.length) = True := eq_true hil
        by_cases hp : pg S.f0 = true
        · rw [if_pos hp] at hM
          have hk := HW.out _ hp
          have HM2 := Aside0.mk hM
          clear hM
          by_cases hz : S.f1.size = 256
          · have hzb : ((S.f1.size : Int) != 256) = false := bne_eq_false_iff_eq.2 (by omega)
            have HM3 := Aside0.mk (HM2.out.trans (if_pos hz))
            clear HM2 hz
            by_cases hs : S.f0 ∈ seen
            · have HM4 := Aside0.mk (HM3.out.trans (if_pos hs))
              clear HM3
              have HHS := Aside0.mk hs
              clear hs
              go_wp2_with (go_at_call 73; refine (QJour.journal_page.calls k N S.f0 _ _ (HPG.out _)).mono ?_; rintro e wc ⟨rfl, ⟨nd2, rfl⟩⟩; rw [hp]; have hlk := seen_lookup ((HO.out.alloc (.cells #[.int .i64 S.f0, .string S.f1] 62)).kept (w' := (wr.alloc (.cells #[.int .i64 S.f0, .string S.f1] 62)).drewN nd2) (row := none) ⟨rfl, rfl, rfl, Nat.le_refl _, fun _ _ _ => rfl⟩ (by simp)) HS.out hk; rw [if_pos HHS.out] at hlk)
              go_ret
              exact ⟨by rw [HM.out, HM4.out]; rfl, pw_below_drewN (HB.out.alloc HB.out.size _) _⟩
            · have HM4 := Aside0.mk (HM3.out.trans (if_neg hs))
              clear HM3
              have HHS := Aside0.mk hs
              clear hs
              go_wp2_with (go_at_call 73; refine (QJour.journal_page.calls k N S.f0 _ _ (HPG.out _)).mono ?_; rintro e wc ⟨rfl, ⟨nd2, rfl⟩⟩; rw [hp]; have hown2 := ((HO.out.alloc (.cells #[.int .i64 S.f0, .string S.f1] 62)).kept (w' := (wr.alloc (.cells #[.int .i64 S.f0, .string S.f1] 62)).drewN nd2) (row := none) ⟨rfl, rfl, rfl, Nat.le_refl _, fun _ _ _ => rfl⟩ (by simp)); have hlk := seen_lookup hown2 HS.out hk; rw [if_neg HHS.out] at hlk; obtain ⟨wu, hup, ⟨D', hD', hS'⟩, hgr⟩ := seen_update hown2 (by have := HN.out; show i < maxLen; unfold maxLen; omega) HS.out hk; have HD2 := Aside0.mk hD'; have HS2 := Aside0.mk hS'; have HG2 := Aside0.mk hgr; clear hown2 hD' hS' hgr)
              go_roundg (l.length - (i + 1))
              case measure => have := hkq.out; omega
              case rel => exact ⟨i + 1, S.f0 :: seen, D', by have := HN.out; rw [MixBase.wrap64_small (by omega) (by omega)]; rfl, by omega, ⟨rfl⟩, HD2, HS2, ⟨by rw [HM.out, HM4.out]⟩, ⟨(pw_below_drewN (HB.out.alloc HB.out.size _) nd2).grown HG2.out (by have := HB.out.size; show w.heap.size ≤ (wr.alloc _).heap.size; rw [World.size_alloc]; omega) (fun k e => by cases e; exact Nat.le_refl _)⟩⟩
          · have hzb : ((S.f1.size : Int) != 256) = true := bne_iff_ne.2 (by omega)
            have HM3 := Aside0.mk (HM2.out.trans (if_neg hz))
            clear HM2 hz
            go_wp2_with (go_at_call 73; refine (QJour.journal_page.calls k N S.f0 _ _ (HPG.out _)).mono ?_; rintro e wc ⟨rfl, ⟨nd2, rfl⟩⟩; rw [hp])
            go_ret
            exact ⟨by rw [HM.out, HM3.out]; rfl, pw_below_drewN (HB.out.alloc HB.out.size _) _⟩
        · rw [if_neg hp] at hM
          have hp' : pg S.f0 = false := Bool.eq_false_iff.2 hp
          have HM2 := Aside0.mk hM
          clear hM
          go_wp2_with (go_at_call 73; refine (QJour.journal_page.calls k N S.f0 _ _ (HPG.out _)).mono ?_; rintro e wc ⟨rfl, ⟨nd2, rfl⟩⟩; rw [hp'])
          go_ret
          exact ⟨by rw [HM.out, HM2.out]; rfl, pw_below_drewN (HB.out.alloc HB.out.size _) _⟩
      · have c1 : ((i : Int) < (l.length : Int)) = False := eq_false (by omega)
        go_wp2
        go_ret
        exact ⟨by rw [HM.out, List.drop_eq_nil_of_le (by omega)]; rfl, HB.out⟩
end Go.Proofs.Ytgageigcjeaenaa.Disk
namespace Go.Proofs.Ytgageigcjeaenaa.Disk
open Go.RowKit Go.Proofs.YtgageigcjeaenaaW.PrintWords Go.Proofs.YtgageigcjeaenaaW.PrintLast Go.Proofs.YtgageigcjeaenaaW.PrintMore Go.Proofs.Ytgageigcjeaenaa.MixBase Go.Proofs.Ytgageigcjeaenaa.MixPlain Go.Proofs.Ytgageigcjeaenaa.NumBase Go.Proofs.Ytgageigcjeaenaa.PadPlain
attribute [local go_sem] max2_int min2_int max_two min_two max_three min_three max_four min_four
set_option linter.unusedVariables false
set_option linter.unusedSimpArgs false
def commitD (m : Int) (pg : Int → Bool) (cp : Int) (l : List QJour.S62) (lst : List ByteArray) (tp : ByteArray) (d : Dk) : Dk × Int :=
  if mayS m pg l ≠ 0 ∨ l.length = 0 then (d, mayS m pg l) else doW d (allW cp l lst tp)
theorem Commit_nil (v : Value) (A : Option Addr) (n c : Nat) (w : World) : Calls Try.prog 21 #[.pointer none, .slice A n c] w fun e w' => e = .returned (.int .i64 18) ∧ w' = w := by
  go_enter Try.func21, Try.ntmps21
  go_wp2
  go_ret
  exact ⟨rfl, rfl⟩
set_option maxRecDepth 100000 in
set_option maxHeartbeats 600000 in
theorem Commit_calls {W w : World} {g k : Nat} {vb vl : Value} {d : Dk} {A : Option Addr} {c : Nat} {l : List QJour.S62} {m cp : Int} {pg : Int → Bool} {lst : List ByteArray} {tp : ByteArray} (h : St W w g vb vl d)
    (hC : Kd.C QJour.k62 w A l.length l) (hlc : l.length ≤ c) (hro : OffRow g w A) (hn : l.length ≤ 5864062014805) (hP : QJour.journal_Pages.f k (d.blocks.length : Int) = some m) (hpg : ∀ a, QJour.journal_page.f k (d.blocks.length : Int) a = some (pg a)) (hwf : ∀ a, pg a = true → (Lit.int .i64 a).wf = true)
    (hz : QJour.journal_filled.f 3 ⟨#[]⟩ = some (zeros 256)) (hcp : QJour.journal_copies.f k (d.blocks.length : Int) = some cp) (hcp0 : 0 ≤ cp) (hcp1 : cp ≤ 100000)
    (hX : mayS m pg l = 0 → 0 < l.length → QJour.journal_list.f k l = some lst ∧ lst.length ≤ 4096 ∧ QJour.journal_top.f k l = some tp ∧ l.length ≤ 4096 ∧ (d.log.length + (allW cp l lst tp).length) * 24 ≤ 140737488355328) :
    Calls Try.prog 21 #[.pointer (some ⟨g, 0, none⟩), .slice A l.length c] w fun e w' => ∃ vl', e = .returned (.int .i64 (commitD m pg cp l lst tp d).2) ∧ St W w' g vb vl' (commitD m pg cp l lst tp d).1 ∧ (∀ k, Foot g vb vl' k → Foot g vb vl k ∨ w.heap.size ≤ k) ∧ Rd g w w' := by
  have H := Aside0.mk h
  have HC := Aside0.mk hC
  have HLC := Aside0.mk hlc
  have HRO := Aside0.mk hro
  have HN := Aside0.mk hn
  have HP := Aside0.mk hP
  have HPG := Aside0.mk hpg
  have HW := Aside0.mk hwf
  have HZ := Aside0.mk hz
  have HCP := Aside0.mk hcp
  have H0 := Aside0.mk hcp0
  have H1 := Aside0.mk hcp1
  have HX := Aside0.mk hX
  have hg : Aside0 (g < w.heap.size) := ⟨(h.foot (Or.inl rfl)).2⟩
  have HMay := Aside0.mk (jmay_calls (w := w) (A := A) (c := c) (k := k) (l := l) (N := (d.blocks.length : Int)) (m := m) (pg := pg) hC hn hP hpg hwf)
  clear h hC hlc hro hn hP hpg hwf hz hcp hcp0 hcp1 hX
  unfold commitD
  by_cases hm : mayS m pg l = 0
  · by_cases hl : l.length = 0
    · rw [if_pos (Or.inr hl)]
      have c1 : ((mayS m pg l) != 0) = false := bne_eq_false_iff_eq.2 hm
      have c2 : ((l.length : Int) == 0) = true := beq_iff_eq.2 (by omega)
      have HM := Aside0.mk hm
      clear hm hl
      go_enter Try.func21, Try.ntmps21
      go_wp2_with (first
        | (go_at_call 34; refine (Len_calls H.out.1).mono ?_; rintro e w' ⟨rfl, hw⟩; obtain rfl := hw.symm)
        | (go_at_call 51; refine HMay.out.mono ?_; rintro e w' ⟨rfl, hb⟩; have HB := Aside0.mk hb; clear hb))
      go_ret
      exact ⟨vl, rfl, H.out.below HB.out, fun k hk => Or.inl hk, Rd.of_below HB.out hg.out⟩
    · rw [if_neg (by omega)]
      have c1 : ((mayS m pg l) != 0) = false := bne_eq_false_iff_eq.2 hm
      have c2 : ((l.length : Int) == 0) = false := beq_eq_false_iff_ne.2 (by omega)
      have HX2 := Aside0.mk (HX.out hm (by omega))
      have HM := Aside0.mk hm
      clear hm hl HX
      go_enter Try.func21, Try.ntmps21
      go_wp2_with (first
        | (go_at_call 34; first | (have q0 := H; refine (Len_calls H.out.1).mono ?_; rintro e w' ⟨rfl, hw⟩; obtain rfl := hw.symm) | (refine (Len_calls S1.out.1).mono ?_; rintro e w' ⟨rfl, hw⟩; obtain rfl := hw.symm))
        | (go_at_call 51; refine HMay.out.mono ?_; rintro e w1 ⟨rfl, hb⟩; have HB := Aside0.mk hb; have S1 := Aside0.mk (H.out.below hb); have HF := Aside0.mk (fun k hk => (H.out.foot (k := k) hk).2); clear hb H)
        | (go_at_call 52; refine (all_calls _ A l.length c _).mono ?_; rintro e w2 ⟨b1, b2, rfl, g1, g2, d2, d1, hb⟩; have HB2 := Aside0.mk hb; have S2 := Aside0.mk (S1.out.below hb); have G1 := Aside0.mk g1; have G2 := Aside0.mk g2; have D1 := Aside0.mk d1; have D2 := Aside0.mk d2; clear hb g1 g2 d1 d2 S1))
      obtain ⟨hls, hln, htp, hn4, hlg⟩ := HX2.out
      have hb : Below w.heap.size w w2 := below_step HB.out HB2.out
      have hr2 : Rd g w w2 := Rd.of_below hb hg.out
      have hg2 : g < w2.heap.size := Nat.lt_of_lt_of_le hg.out hb.size
      have hft : ∀ k, FootOf g w2 k → k < w.heap.size := fun k hk => HF.out k ((S2.out.1.footOf k).1 hk)
      have ho1 : Off g w2 b1 := ⟨fun hf => by have := hft _ hf; have := G1.out; have := HB.out.size; omega, blk_lt D1.out⟩
      have ho2 : Off g w2 b2 := ⟨fun hf => by have := hft _ hf; have := G2.out; have := HB.out.size; omega, blk_lt D2.out⟩
      have hro2 : OffRow g w2 A := fun ad e => (HRO.out ad e).rd hr2
      have hC2 : Kd.C QJour.k62 w2 A l.length l := C_rd HC.out HRO.out hr2
      have hT := all_tells (k := k) (N := (d.blocks.length : Int)) (cp := cp) (lst := lst) (tp := tp) HZ.out hg2 ⟨_, _, _, S2.out.1.2.1⟩ (fun k hk => Nat.lt_of_lt_of_le (hft k hk) hb.size) D2.out D1.out ho2 ho1 (rowAt_of_C hC2) (fun V r => C_rd hC2 hro2 r) HLC.out hro2 hn4 HCP.out H0.out H1.out hls hln htp
      have hK := write_calls S2.out (allW cp l lst tp) hT (enters_of Try.func74 (by kernel_rfl) rfl) hlg
      refine hK.mono ?_
      rintro e w3 ⟨vl', rfl, s1, s2, s3⟩
      have HS := Aside0.mk s1
      have HS2 := Aside0.mk s2
      have HS3 := Aside0.mk (hr2.trans s3)
      clear hK hT hC2 hro2 ho1 ho2 hft hg2 hr2 hlg hn4 htp hln hls s1 s2 s3
      go_wp2
      go_ret
      exact ⟨vl', rfl, HS.out, fun k hk => (HS2.out k hk).imp_right (fun hl => Nat.le_trans hb.size hl), HS3.out⟩
  · rw [if_pos (Or.inl hm)]
    have c1 : ((mayS m pg l) != 0) = true := bne_iff_ne.2 hm
    go_enter Try.func21, Try.ntmps21
    go_wp2_with (first
      | (go_at_call 34; refine (Len_calls H.out.1).mono ?_; rintro e w' ⟨rfl, hw⟩; obtain rfl := hw.symm)
      | (go_at_call 51; refine HMay.out.mono ?_; rintro e w' ⟨rfl, hb⟩; have HB := Aside0.mk hb; clear hb))
    go_ret
    exact ⟨vl, rfl, H.out.below HB.out, fun k hk => Or.inl hk, Rd.of_below HB.out hg.out⟩
def mkTxt : ByteArray := ⟨#[106, 114, 110, 108]⟩
set_option maxRecDepth 100000 in
theorem told_none {w : World} {s : ByteArray} {k : Nat} {r : Int × Int} (pv : Value) (hG : QJour.num_Get.f k s 4 2 = some r) (hp : QJour.strings_HasPrefix.f s ⟨#[106, 114, 110, 108]⟩ = some false) :
    Calls Try.prog 45 #[pv, .string s] w fun e w' => e = .returned (.tuple #[.slice none 0 0, .int .i64 0]) ∧ Below w.heap.size w w' := by
  have HG := Aside0.mk hG
  have HP := Aside0.mk hp
  clear hG hp
  go_enter Try.func45, Try.ntmps45
  go_wp2_with (first
    | (go_at_call 65; refine (QJour.num_Get.calls k s 4 2 r.1 r.2 _ HG.out).mono ?_; rintro e w' ⟨rfl, ⟨nd, rfl⟩⟩)
    | (go_at_call 66; refine (QJour.strings_HasPrefix.calls s _ false _ HP.out).mono ?_; rintro e w' ⟨rfl, ⟨nd2, rfl⟩⟩))
  go_ret2
  exact ⟨rfl, pw_below_drewN (Below.refl _ _) _⟩
theorem Recover_nil (w : World) : Calls Try.prog 16 #[.pointer none] w fun e w' => e = .returned (.tuple #[.int .i64 0, .int .i64 18]) ∧ w' = w := by
  go_enter Try.func16, Try.ntmps16
  go_wp2_with (go_at_call 33; refine (Read_nil 1 w).mono ?_; rintro e w' ⟨rfl, hw⟩; obtain rfl := hw.symm)
  go_ret2
  exact ⟨rfl, rfl⟩
set_option maxRecDepth 100000 in
theorem Recover_none {W w : World} {g k : Nat} {vb vl : Value} {d : Dk} {s : ByteArray} {r : Int × Int} (h : St W w g vb vl d) (hr : readD d 1 = (s, 0)) (hG : QJour.num_Get.f k s 4 2 = some r) (hp : QJour.strings_HasPrefix.f s ⟨#[106, 114, 110, 108]⟩ = some false) :
    Calls Try.prog 16 #[.pointer (some ⟨g, 0, none⟩)] w fun e w' => e = .returned (.tuple #[.int .i64 0, .int .i64 0]) ∧ Below w.heap.size w w' := by
  have H := Aside0.mk h
  have HR := Aside0.mk hr
  have HT := Aside0.mk (told_none (w := w) (.pointer (some ⟨g, 0, none⟩)) hG hp)
  clear h hr hG hp
  go_enter Try.func16, Try.ntmps16
  go_wp2_with (first
    | (go_at_call 33; refine (Read_calls 1 H.out.1).mono ?_; rintro e w' ⟨rfl, hw⟩; obtain rfl := hw.symm; rw [HR.out])
    | (go_at_call 45; refine HT.out.mono ?_; rintro e w' ⟨rfl, hb⟩; have HB := Aside0.mk hb; clear hb))
  go_ret2
  exact ⟨rfl, HB.out⟩
end Go.Proofs.Ytgageigcjeaenaa.Disk
namespace Go.Proofs.Ytgageigcjeaenaa.Disk
open Go.RowKit Go.Proofs.YtgageigcjeaenaaW.PrintWords Go.Proofs.YtgageigcjeaenaaW.PrintLast Go.Proofs.YtgageigcjeaenaaW.PrintMore Go.Proofs.Ytgageigcjeaenaa.MixBase Go.Proofs.Ytgageigcjeaenaa.MixPlain Go.Proofs.Ytgageigcjeaenaa.NumBase Go.Proofs.Ytgageigcjeaenaa.PadPlain
attribute [local go_sem] max2_int min2_int max_two min_two max_three min_three max_four min_four
set_option linter.unusedVariables false
set_option linter.unusedSimpArgs false
def lW : List QJour.S62 := [⟨34, blockS ⟨#[120]⟩⟩, ⟨0, blockS ⟨#[121]⟩⟩]
theorem pW : QJour.journal_Pages.f 1000 64 = some 31 := by kernel_rfl
theorem fW : QJour.journal_First.f 1000 64 = some 34 := by kernel_rfl
theorem cW : QJour.journal_copies.f 1000 64 = some 3 := by kernel_rfl
theorem zW : QJour.journal_filled.f 3 ⟨#[]⟩ = some (zeros 256) := by kernel_rfl
theorem bxW : QJour.aumbrylaw10_block.f ⟨#[120]⟩ = some (blockS ⟨#[120]⟩) := by kernel_rfl
theorem byW : QJour.aumbrylaw10_block.f ⟨#[121]⟩ = some (blockS ⟨#[121]⟩) := by kernel_rfl
theorem lsW1 : ((QJour.journal_list.f 1000 lW).map fun l => l.map ByteArray.size) = some [256] := by kernel_rfl
theorem tpW1 : ((QJour.journal_top.f 1000 lW).map ByteArray.size) = some 256 := by kernel_rfl
theorem lsW : ∃ t, QJour.journal_list.f 1000 lW = some [t] ∧ t.size = 256 := by
  have h := lsW1
  cases e : QJour.journal_list.f 1000 lW with
  | none => rw [e] at h; cases h
  | some l =>
    rw [e] at h
    injection h with h
    match l, h with
    | [], h => cases h
    | [t], h => exact ⟨t, rfl, by injection h⟩
    | _ :: _ :: _, h => injection h with _ h; cases h
theorem tpW : ∃ t, QJour.journal_top.f 1000 lW = some t ∧ t.size = 256 := by
  have h := tpW1
  cases e : QJour.journal_top.f 1000 lW with
  | none => rw [e] at h; cases h
  | some t =>
    rw [e] at h
    injection h with h
    exact ⟨t, rfl, h⟩
/-- Is it a page's number? -/
def pgF (fi m a : Int) : Bool := if a = 0 then true else if a ≥ fi then decide (a < wrap64 (wrap64 (fi + m) - 1)) else false
theorem page_f {k : Nat} {N fi m : Int} (hF : QJour.journal_First.f k N = some fi) (hP : QJour.journal_Pages.f k N = some m) (a : Int) : QJour.journal_page.f k N a = some (pgF fi m a) := by
  unfold QJour.journal_page.f pgF
  rw [hF, hP]
  by_cases h0 : a = 0
  · rw [if_pos h0, if_pos h0]
  · rw [if_neg h0, if_neg h0]
    show (if a ≥ fi then _ else _) = _
    by_cases h1 : a ≥ fi
    · rw [if_pos h1, if_pos h1]
      rfl
    · rw [if_neg h1, if_neg h1]
theorem pgF_wf {fi m : Int} (h : 0 ≤ fi) (a : Int) (ha : pgF fi m a = true) : (Lit.int .i64 a).wf = true := by
  have hb : 0 ≤ a ∧ a ≤ 9223372036854775807 := by
    unfold pgF at ha
    by_cases h0 : a = 0
    · omega
    · rw [if_neg h0] at ha
      by_cases h1 : a ≥ fi
      · rw [if_pos h1] at ha
        have h2 := of_decide_eq_true ha
        unfold wrap64 at h2
        omega
      · rw [if_neg h1] at ha
        cases ha
  have e1 : IntKind.i64.min = -9223372036854775808 := by decide
  have e2 : IntKind.i64.max = 9223372036854775807 := by decide
  show (decide (IntKind.i64.min ≤ a) && decide (a ≤ IntKind.i64.max)) = true
  rw [e1, e2, decide_eq_true (by omega : -9223372036854775808 ≤ a), decide_eq_true hb.2]
  rfl
/-- All writes are done. -/
def putAll (d : Dk) (xs : List Pg) : Dk := xs.foldl (fun d p => putD d p.at_ p.data) d
theorem doW_ok : ∀ (xs : List Pg) (d : Dk), d.down = false → d.told = false → (∀ p, p ∈ xs → 0 ≤ p.at_ ∧ p.at_ < (d.blocks.length : Int) ∧ p.data.size = 256) → doW d xs = (putAll d xs, 0)
  | [], d, _, _, _ => rfl
  | p :: l, d, h1, h2, h => by
    have hp := h p (List.mem_cons_self ..)
    have hm : mayD d p.at_ = 0 := by
      unfold mayD
      rw [h1, if_neg (by simp), if_neg (by omega)]
    have hw := writeD_ok hm hp.2.2 (by rw [h2]; simp)
    have e1 : doW d (p :: l) = doW (writeD d p.at_ p.data).1 l := if_pos (by rw [hw])
    rw [e1, hw]
    refine doW_ok l _ h1 h2 (fun q hq => ?_)
    have := h q (List.mem_cons_of_mem _ hq)
    refine ⟨this.1, ?_, this.2.2⟩
    show q.at_ < ((d.blocks.set _ _).length : Int)
    rw [List.length_set]
    exact this.2.1
theorem row2_C {w : World} {b : Nat} {p q : QJour.S62} (h : w.heap[b]? = some (.cells #[.int .i64 p.f0, .string p.f1, .int .i64 q.f0, .string q.f1] 62 (0, 0))) : Kd.C QJour.k62 w (some ⟨b, 0, none⟩) 2 [p, q] := by
  refine ⟨rfl, by decide, fun _ => ⟨_, rfl, ?_⟩⟩
  intro j x hx
  have hb : ∀ i, w.cell? ((⟨b, 0, none⟩ : Addr).add i) = (#[Value.int .i64 p.f0, .string p.f1, .int .i64 q.f0, .string q.f1] : Array Value)[i]? := by
    intro i
    have h2 : (⟨b, 0, none⟩ : Addr).add i = ⟨b, i, none⟩ := by unfold Addr.add; simp; try (intro e; exact e.symm)
    rw [h2]
    exact blk_cell h i
  match j, hx with
  | 0, hx =>
    cases hx
    refine ⟨[.int .i64 p.f0, .string p.f1], rfl, ⟨[.int .i64 p.f0], [.string p.f1], rfl, rfl, rfl⟩, ?_⟩
    intro i u hu
    rw [hb]
    match i, hu with
    | 0, hu => exact hu
    | 1, hu => exact hu
  | 1, hx =>
    cases hx
    refine ⟨[.int .i64 q.f0, .string q.f1], rfl, ⟨[.int .i64 q.f0], [.string q.f1], rfl, rfl, rfl⟩, ?_⟩
    intro i u hu
    rw [hb]
    match i, hu with
    | 0, hu => exact hu
    | 1, hu => exact hu
end Go.Proofs.Ytgageigcjeaenaa.Disk
namespace Go.Proofs.Ytgageigcjeaenaa.Disk
open Go.RowKit Go.Proofs.YtgageigcjeaenaaW.PrintWords Go.Proofs.YtgageigcjeaenaaW.PrintLast Go.Proofs.YtgageigcjeaenaaW.PrintMore Go.Proofs.Ytgageigcjeaenaa.MixBase Go.Proofs.Ytgageigcjeaenaa.MixPlain Go.Proofs.Ytgageigcjeaenaa.NumBase Go.Proofs.Ytgageigcjeaenaa.PadPlain
attribute [local go_sem] max2_int min2_int max_two min_two max_three min_three max_four min_four
set_option linter.unusedVariables false
set_option linter.unusedSimpArgs false
theorem getsW : QJour.num_Get.f 1000 (zeros 256) 4 2 = some (0, 0) := by kernel_rfl
theorem prefW : QJour.strings_HasPrefix.f (zeros 256) ⟨#[106, 114, 110, 108]⟩ = some false := by kernel_rfl
/-- The disk once its first group is written. -/
def dW (t tp : ByteArray) : Dk := putAll (newD 64) (allW 3 lW [t] tp)
theorem allW_l (t tp : ByteArray) : allW 3 lW [t] tp = [⟨3, blockS ⟨#[120]⟩⟩, ⟨4, blockS ⟨#[121]⟩⟩, ⟨2, t⟩, ⟨1, tp⟩, ⟨34, blockS ⟨#[120]⟩⟩, ⟨0, blockS ⟨#[121]⟩⟩, ⟨1, zeros 256⟩] := rfl
theorem mayW : mayS 31 (pgF 34 31) lW = 0 := by
  have h1 : (blockS ⟨#[120]⟩).size = 256 := blockS_size _
  have h2 : (blockS ⟨#[121]⟩).size = 256 := blockS_size _
  have p1 : pgF 34 31 34 = true := by kernel_rfl
  have p2 : pgF 34 31 0 = true := by kernel_rfl
  unfold mayS lW
  generalize blockS ⟨#[120]⟩ = x at h1 ⊢
  generalize blockS ⟨#[121]⟩ = y at h2 ⊢
  unfold mayL mayL mayL
  rw [if_neg (show ¬ ((([(⟨34, x⟩ : QJour.S62), ⟨0, y⟩].length : Nat) : Int) > 31) from by show ¬ ((2 : Int) > 31); decide), if_pos p1, if_pos h1, if_neg (by simp), if_pos p2, if_pos h2, if_neg (by simp)]
theorem commitW (t tp : ByteArray) (ht : t.size = 256) (htp : tp.size = 256) : commitD 31 (pgF 34 31) 3 lW [t] tp (newD 64) = (dW t tp, 0) := by
  unfold commitD
  rw [mayW, if_neg (by decide)]
  refine doW_ok _ _ rfl rfl ?_
  intro p hp
  rw [allW_l] at hp
  have hb := blockS_size ⟨#[120]⟩
  have hc := blockS_size ⟨#[121]⟩
  have hz := zeros_size 256
  have hl : ((newD 64).blocks.length : Int) = 64 := by rw [wk_len]; rfl
  rw [hl]
  generalize blockS ⟨#[120]⟩ = x at hb hp
  generalize blockS ⟨#[121]⟩ = y at hc hp
  generalize zeros 256 = z at hz hp
  simp only [List.mem_cons, List.mem_nil_iff, or_false] at hp
  rcases hp with rfl | rfl | rfl | rfl | rfl | rfl | rfl
  · exact ⟨show (0 : Int) ≤ 3 by decide, show (3 : Int) < 64 by decide, hb⟩
  · exact ⟨show (0 : Int) ≤ 4 by decide, show (4 : Int) < 64 by decide, hc⟩
  · exact ⟨show (0 : Int) ≤ 2 by decide, show (2 : Int) < 64 by decide, ht⟩
  · exact ⟨show (0 : Int) ≤ 1 by decide, show (1 : Int) < 64 by decide, htp⟩
  · exact ⟨show (0 : Int) ≤ 34 by decide, show (34 : Int) < 64 by decide, hb⟩
  · exact ⟨show (0 : Int) ≤ 0 by decide, show (0 : Int) < 64 by decide, hc⟩
  · exact ⟨show (0 : Int) ≤ 1 by decide, show (1 : Int) < 64 by decide, hz⟩
theorem dW_len (t tp : ByteArray) : (dW t tp).blocks.length = 64 := by
  unfold dW putAll
  rw [allW_l]
  simp only [List.foldl_cons, List.foldl_nil, putD, List.length_set]
  exact wk_len 64
theorem dW_log (t tp : ByteArray) : (dW t tp).log.length = 7 := rfl
theorem dW_may (t tp : ByteArray) (a : Int) (h0 : 0 ≤ a) (h1 : a < 64) : mayD (dW t tp) a = 0 := by
  unfold mayD
  rw [dW_len, if_neg (by simp [dW, putAll, putD, allW_l, newD]), if_neg (by omega)]
theorem dW_34 (t tp : ByteArray) : readD (dW t tp) 34 = (blockS ⟨#[120]⟩, 0) := by
  unfold readD
  rw [if_pos (dW_may t tp 34 (by decide) (by decide))]
  refine Prod.ext ?_ rfl
  show (dW t tp).blocks.getD 34 ⟨#[]⟩ = _
  unfold dW putAll
  rw [allW_l]
  simp only [List.foldl_cons, List.foldl_nil, putD]
  simp [List.getElem?_set, newD, List.getD_eq_getElem?_getD]
theorem dW_1 (t tp : ByteArray) : readD (dW t tp) 1 = (zeros 256, 0) := by
  unfold readD
  rw [if_pos (dW_may t tp 1 (by decide) (by decide))]
  refine Prod.ext ?_ rfl
  show (dW t tp).blocks.getD 1 ⟨#[]⟩ = _
  unfold dW putAll
  rw [allW_l]
  simp only [List.foldl_cons, List.foldl_nil, putD]
  simp [List.getElem?_set, newD, List.getD_eq_getElem?_getD]
set_option maxRecDepth 100000 in
set_option maxHeartbeats 2000000 in
theorem jwakes_calls (W : World) : Calls Try.prog 12 #[] W fun e w' => e = .returned (.bool true) ∧ Below W.heap.size W w' := by
  obtain ⟨t, hls, ht⟩ := lsW
  obtain ⟨tp, htp, htp2⟩ := tpW
  have HLS := Aside0.mk hls
  have HTP := Aside0.mk htp
  have HCW := Aside0.mk (commitW t tp ht htp2)
  have hu62 := Try.underlying62
  clear hls ht htp htp2
  go_enter Try.func12, Try.ntmps12
  go_wp2_with (first
    | (go_at_call 27; refine (New_st 64 (by decide) (by decide) (Below.refl W.heap.size W)).mono ?_; rintro e w1 ⟨g, vb, rfl, hs, _, hb⟩; have S1 := Aside0.mk hs; have HB1 := Aside0.mk hb; clear hs hb)
    | (go_at_call 39; refine (QJour.journal_Pages.calls 1000 64 31 _ pW).mono ?_; rintro e w' ⟨rfl, ⟨nd, rfl⟩⟩)
    | (go_at_call 40; refine (QJour.journal_First.calls 1000 64 34 _ fW).mono ?_; rintro e w' ⟨rfl, ⟨nd2, rfl⟩⟩)
    | (go_at_call 43; have q0 := S1; refine (QJour.aumbrylaw10_block.calls _ _ _ bxW).mono ?_; rintro e w2 ⟨rfl, hb⟩; have S2 := Aside0.mk (S1.out.below (below_step (pw_below_drewN (Below.refl _ _) _) hb)); clear q0 S1 hb)
    | (go_at_call 43; have q0 := S2; refine (QJour.aumbrylaw10_block.calls _ _ _ byW).mono ?_; rintro e w3 ⟨rfl, hb⟩; have S3 := Aside0.mk (S2.out.below hb); clear q0 S2 hb))
  obtain ⟨w4, hw4⟩ : ∃ w4, w3.alloc (.cells #[.int .i64 34, .string (blockS ⟨#[120]⟩), .int .i64 0, .string (blockS ⟨#[121]⟩)] 62) = w4 := ⟨_, rfl⟩
  have hb4 : Below w3.heap.size w3 w4 := by rw [← hw4]; exact (Below.refl _ w3).alloc (Nat.le_refl _) _
  have hc4 : w4.heap[w3.heap.size]? = some (.cells #[.int .i64 34, .string (blockS ⟨#[120]⟩), .int .i64 0, .string (blockS ⟨#[121]⟩)] 62 (0, 0)) := by rw [← hw4]; exact World.alloc_heap_new w3 _
  rw [hw4]
  have S4 : St W w4 g vb (.slice none 0 0) (newD 64) := S3.out.below hb4
  have hN : ((newD 64).blocks.length : Int) = 64 := by rw [wk_len]; rfl
  have hro : OffRow g w4 (some ⟨w3.heap.size, 0, none⟩) := by
    rintro ad e
    injection e with e
    subst e
    exact ⟨fun hf => by have := (S3.out.foot ((S4.1.footOf _).1 hf)).2; exact absurd this (Nat.lt_irrefl _), blk_lt hc4⟩
  have hK := Commit_calls (k := 1000) (m := 31) (cp := 3) (pg := pgF 34 31) (lst := [t]) (tp := tp) (l := lW) (A := some ⟨w3.heap.size, 0, none⟩) (c := 2) S4 (row2_C hc4) (by decide) hro (by decide) (by rw [hN]; exact pW) (fun a => by rw [hN]; exact page_f fW pW a) (fun a => pgF_wf (by decide) a) zW (by rw [hN]; exact cW) (by decide) (by decide)
    (fun _ _ => ⟨HLS.out, by simp, HTP.out, by decide, by rw [allW_l]; show (0 + 7) * 24 ≤ _; decide⟩)
  refine hK.mono ?_
  rintro e w5 ⟨vl', rfl, s1, s2, s3⟩
  rw [HCW.out] at s1 ⊢
  have S5 := Aside0.mk s1
  clear hK hro hN S4 hc4 hb4 hw4 s1 s2 s3 S3 HB1 HLS HTP HCW
  go_wp2_with (first
    | (go_at_call 33; refine (Read_calls 34 S5.out.1).mono ?_; rintro e w' ⟨rfl, hw⟩; obtain rfl := hw.symm; rw [dW_34])
    | (go_at_call 16; have q0 := S5; refine (Recover_none (k := 1000) S5.out (dW_1 t tp) getsW prefW).mono ?_; rintro e w6 ⟨rfl, hb⟩; have S6 := Aside0.mk (S5.out.below hb); clear q0 S5 hb)
    | (go_at_call 43; have q0 := S6; refine (QJour.aumbrylaw10_block.calls _ _ _ bxW).mono ?_; rintro e w7 ⟨rfl, hb⟩; have S7 := Aside0.mk (S6.out.below hb); clear q0 S6 hb)
    | (go_at_call 19; have q0 := S7; refine (Log_calls S7.out.1 (by rw [dW_log]; decide)).mono ?_; rintro e w8 ⟨v3, rfl, ho, hb⟩; rw [dW_log] at ho; obtain ⟨A3, c3, rfl, _⟩ := own_slice ho; have S8 := Aside0.mk (S7.out.below hb); clear q0 S7 hb ho))
  go_ret
  exact ⟨rfl, S8.out.2⟩
end Go.Proofs.Ytgageigcjeaenaa.Disk
namespace Go.Proofs.Ytgageigcjeaenaa.Disk
open Go.RowKit Go.Proofs.YtgageigcjeaenaaW.PrintWords Go.Proofs.YtgageigcjeaenaaW.PrintLast Go.Proofs.YtgageigcjeaenaaW.PrintMore Go.Proofs.Ytgageigcjeaenaa.MixBase Go.Proofs.Ytgageigcjeaenaa.MixPlain Go.Proofs.Ytgageigcjeaenaa.NumBase Go.Proofs.Ytgageigcjeaenaa.PadPlain
attribute [local go_sem] max2_int min2_int max_two min_two max_three min_three max_four min_four
set_option linter.unusedVariables false
set_option linter.unusedSimpArgs false
section
open Go.ChangeShapes Go.WideShapes Go.Deep
variable {H : Type} {enc : TypeId × Value → H} {P : Program} {w : World} {base : Nat} {spare : Nat → Bool} {held : Bool}
theorem open_slice_fieldsJ {t e : TypeId} {fs : Array Field} {fuel : Nat} {cs : List Value} {x : DataW H × List MemPlace} (ht : P.underlying t = some (.slice e)) (he : P.underlying e = some (.struct fs))
    (hone : oneCellFields P fs = true) (hC : P.cellsOf e = fs.size) (h : DataW.trod enc P w base spare held fuel t cs = some x) :
    (cs = [.slice none 0 0] ∧ x = (.nil, [])) ∨
    ∃ (a : Addr) (len cap m : Nat) (D : Nat → DataW H) (Pl : Nat → List MemPlace), cs = [.slice (some a) len cap] ∧ base ≤ a.block ∧ len ≤ cap ∧ cap ≤ maxLen ∧ m = (if spare a.block then cap else len) ∧
      x = (.slice ((List.range len).map D) ((List.range (m - len)).map fun j => D (len + j)), MemPlace.row a (m * fs.size) ++ (List.range m).flatMap Pl) ∧
      ∀ i, i < m → ∃ (ys : List (DataW H × List MemPlace)) (n : Nat), D i = .agg (ys.map (·.1)) ∧ Pl i = ys.flatMap (·.2) ∧ ys.length = fs.size ∧
        ∀ (j : Nat) (f : Field), fs[j]? = some f → ∃ (v : Value) (y : DataW H × List MemPlace), w.cell? (a.add (i * fs.size + j)) = some v ∧ ys[j]? = some y ∧ DataW.trod enc P w base spare held n f.type [v] = some y := by
  rcases open_slice ht h with h0 | ⟨a, len, cap, m, n, D, Pl, hcs, hb, hl, hm, hmm, hx, hi⟩
  · exact .inl h0
  · refine .inr ⟨a, len, cap, m, D, Pl, hcs, hb, hl, hm, hmm, by rw [hC] at hx; exact hx, fun i him => ?_⟩
    obtain ⟨cs', hc, ht'⟩ := hi i him
    rw [hC] at hc
    obtain ⟨ys, n', hn', hy, hlen, hyl, hf⟩ := DataW.trod_struct he ht'
    obtain ⟨_, hcl, hat⟩ := World.cells?_some hc
    simp only [Prod.mk.injEq] at hy
    refine ⟨ys, n', hy.1, hy.2, hyl, fun j f hj => ?_⟩
    obtain ⟨ho, hk⟩ := hone_of hone j f hj
    have hjl : j < fs.size := (Array.getElem?_eq_some_iff.1 hj).1
    have hcell := hat j hjl
    have hv : cs'[j]? = some (cs'[j]'(by omega)) := List.getElem?_eq_getElem (by omega)
    have h1 := hf j f hj
    rw [ho, hk] at h1
    have hone' : (cs'.drop j).take 1 = [cs'[j]'(by omega)] := by
      rw [List.drop_eq_getElem_cons (by omega)]
      rfl
    rw [hone'] at h1
    have hys : ys[j]? = some (ys[j]'(by omega)) := List.getElem?_eq_getElem (by omega)
    refine ⟨_, _, ?_, hys, h1.trans hys⟩
    rw [← Go.Deep.add_add, hcell, hv]
/-- A slice of pages that came in. -/
theorem open_pages {ts : List TypeId} {ds : List (DataW H)} {j : Nat} {a : Option Addr} {len cap : Nat} {d : DataW H} {ps : List MemPlace}
    (hsz : (DataW.weightsEach Try.prog ts ds).all (· ≤ reachBytes) = true) (htj : ts[j]? = some 35) (hdj : ds[j]? = some d)
    (h : DataW.Trod enc Try.prog w 0 (fun _ => true) true 35 (.slice a len cap) d ps) :
    ∃ l : List QJour.S62, l.length = len ∧ len ≤ cap ∧ Kd.C QJour.k62 w a len l ∧ len * 24 ≤ 140737488351232 := by
  obtain ⟨fuel, hf⟩ := h
  rcases open_slice_fieldsJ Try.underlying35 Try.underlying62 (by kernel_rfl) (by kernel_rfl) hf with ⟨hcs, _⟩ | ⟨x, l, c, m, D, Pl, hcs, _, hl, hm, hmm, hx, hel⟩
  · simp [Value.cells] at hcs
    obtain ⟨rfl, rfl, rfl⟩ := hcs
    exact ⟨[], rfl, Nat.le_refl _, ⟨rfl, by decide, fun h => absurd h (by decide)⟩, by omega⟩
  · simp [Value.cells] at hcs
    obtain ⟨rfl, rfl, rfl⟩ := hcs
    simp only [if_true] at hmm
    obtain ⟨hx, _⟩ := Prod.mk.inj hx
    subst hx
    have z := sized_slice hsz htj hdj Try.underlying35
    rw [show Try.prog.bytesOf 62 = 24 from by kernel_rfl] at z
    simp only [List.length_map, List.length_range] at z
    have hz : (len + (m - len)) * 24 ≤ 140737488351232 := z
    have hent : ∀ i, i < len → ∃ e : QJour.S62, w.cell? (x.add (i * 2)) = some (.int .i64 e.f0) ∧ w.cell? ⟨(x.add (i * 2)).block, (x.add (i * 2)).off + 1, none⟩ = some (.string e.f1) := by
      intro i hi
      obtain ⟨ys, n, _, _, _, hfs⟩ := hel i (by omega)
      obtain ⟨v0, y0, hc0, _, ht0⟩ := hfs 0 _ rfl
      obtain ⟨v1, y1, hc1, _, ht1⟩ := hfs 1 _ rfl
      obtain ⟨a0, e0, _, _⟩ := DataW.trod_int Try.underlying3 ht0
      obtain ⟨a1, e1, _, _⟩ := DataW.trod_string Try.underlying9 ht1
      simp only [List.cons.injEq, and_true] at e0 e1
      subst e0 e1
      exact ⟨⟨a0, a1⟩, by simpa using hc0, by rw [← add_field _ _ 1 (by omega)]; exact hc1⟩
    have key : ∀ n, n ≤ len → ∃ l : List QJour.S62, l.length = n ∧ ∀ i e, l[i]? = some e → w.cell? (x.add (i * 2)) = some (.int .i64 e.f0) ∧ w.cell? ⟨(x.add (i * 2)).block, (x.add (i * 2)).off + 1, none⟩ = some (.string e.f1) := by
      intro n
      induction n with
      | zero => intro _; exact ⟨[], rfl, fun i e h => by simp at h⟩
      | succ n ih =>
        intro hn
        obtain ⟨l, h1, h2⟩ := ih (by omega)
        obtain ⟨e, he⟩ := hent n (by omega)
        refine ⟨l ++ [e], by rw [List.length_append, h1]; rfl, fun i e' hi => ?_⟩
        rcases Nat.lt_or_ge i l.length with h3 | h3
        · rw [List.getElem?_append_left h3] at hi
          exact h2 i e' hi
        · have h4 := (List.getElem?_eq_some_iff.1 hi).1
          rw [List.length_append, List.length_singleton] at h4
          obtain rfl : i = l.length := by omega
          simp at hi
          subst hi
          rw [h1]
          exact he
    obtain ⟨l, hll, hle⟩ := key len (Nat.le_refl _)
    refine ⟨l, hll, hl, ⟨hll, by omega, fun _ => ⟨x, rfl, fun i p hp => ⟨[.int .i64 p.f0, .string p.f1], rfl, ⟨[.int .i64 p.f0], [.string p.f1], rfl, rfl, rfl⟩, ?_⟩⟩⟩, by omega⟩
    intro q u hu
    have h1 := hle i p hp
    match q, hu with
    | 0, hu => cases hu; exact h1.1
    | 1, hu =>
      cases hu
      rw [← add_field _ _ 1 (by omega)] at h1
      exact h1.2
end
set_option maxRecDepth 100000 in
theorem JournalNil_walk (A : Option Addr) (c : Nat) (l : List QJour.S62) (W : World) (hC : Kd.C QJour.k62 W A l.length l) (hc : l.length ≤ c) (hl : l.length * 24 ≤ 140737488351232) : Calls Try.prog 11 #[.slice A l.length c] W fun e w' => e = .returned (.bool true) ∧ Below W.heap.size W w' := by
  have hcp : QJour.aumbryref09_CopyPages.f l = some l := by
    unfold QJour.aumbryref09_CopyPages.f
    rw [if_pos (by show 0 + l.length < _; omega)]
    rfl
  have HC := Aside0.mk hC
  have HCP := Aside0.mk hcp
  clear hC hcp hl
  go_enter Try.func11, Try.ntmps11
  go_wp2_with (first
    | (go_at_call 16; refine (Recover_nil _).mono ?_; rintro e w' ⟨rfl, hw⟩; obtain rfl := hw.symm)
    | (go_at_call 12; refine (jwakes_calls _).mono ?_; rintro e w1 ⟨rfl, hb⟩; have B1 := Aside0.mk hb; clear hb)
    | (go_at_call 20; refine (QJour.aumbryref09_CopyPages.calls A c l l _ (Kd.C_below HC.out B1.out) hc HCP.out).mono ?_; rintro e w2 ⟨v, rfl, hR, hb⟩; obtain ⟨A3, c3, rfl⟩ := Kd.R_slice hR; have B2 := Aside0.mk hb; clear hb hR)
    | (go_at_call 21; refine (Commit_nil (.bool true) A3 l.length c3 _).mono ?_; rintro e w' ⟨rfl, hw⟩; obtain rfl := hw.symm))
  go_ret
  exact ⟨rfl, below_step B1.out B2.out⟩
set_option maxRecDepth 100000 in
theorem JournalRooms_calls (n m fi : Int) (k : Nat) (W : World) (hP : QJour.journal_Pages.f k n = some m) (hF : QJour.journal_First.f k n = some fi) (hP2 : QJour.aumbryref10_Pages.f k n = some m) (hF2 : QJour.aumbryref10_First.f k n = some fi) (h : (m = 0 ∧ fi = 0) ∨ (31 ≤ m ∧ wrap64 (wrap64 (fi + m) - 1) ≤ n)) :
    Calls Try.prog 10 #[.int .i64 n] W fun e w' => e = .returned (.bool true) ∧ Below W.heap.size W w' := by
  have HP := Aside0.mk hP
  have HF := Aside0.mk hF
  have HP2 := Aside0.mk hP2
  have HF2 := Aside0.mk hF2
  clear hP hF hP2 hF2
  rcases h with ⟨rfl, rfl⟩ | ⟨h1, h2⟩
  · go_enter Try.func10, Try.ntmps10
    go_wp2_with (first
      | (go_at_call 12; refine (jwakes_calls _).mono ?_; rintro e w1 ⟨rfl, hb⟩; have B1 := Aside0.mk hb; clear hb)
      | (go_at_call 39; refine (QJour.journal_Pages.calls k n 0 _ HP.out).mono ?_; rintro e w' ⟨rfl, ⟨n1, rfl⟩⟩)
      | (go_at_call 40; refine (QJour.journal_First.calls k n 0 _ HF.out).mono ?_; rintro e w' ⟨rfl, ⟨n2, rfl⟩⟩)
      | (go_at_call 41; refine (QJour.aumbryref10_Pages.calls k n 0 _ HP2.out).mono ?_; rintro e w' ⟨rfl, ⟨n3, rfl⟩⟩)
      | (go_at_call 42; refine (QJour.aumbryref10_First.calls k n 0 _ HF2.out).mono ?_; rintro e w' ⟨rfl, ⟨n4, rfl⟩⟩))
    go_ret
    exact ⟨rfl, pw_below_drewN B1.out _⟩
  · have c1 : (m == 0) = false := beq_eq_false_iff_ne.2 (by omega)
    have c2 : decide (m ≥ 31) = true := decide_eq_true h1
    have c2' : decide (31 ≤ m) = true := decide_eq_true h1
    have c3 : decide (wrap64 (wrap64 (fi + m) - 1) ≤ n) = true := decide_eq_true h2
    clear h1 h2
    go_enter Try.func10, Try.ntmps10
    go_wp2_with (first
      | (go_at_call 12; refine (jwakes_calls _).mono ?_; rintro e w1 ⟨rfl, hb⟩; have B1 := Aside0.mk hb; clear hb)
      | (go_at_call 39; refine (QJour.journal_Pages.calls k n m _ HP.out).mono ?_; rintro e w' ⟨rfl, ⟨n1, rfl⟩⟩)
      | (go_at_call 40; refine (QJour.journal_First.calls k n fi _ HF.out).mono ?_; rintro e w' ⟨rfl, ⟨n2, rfl⟩⟩)
      | (go_at_call 41; refine (QJour.aumbryref10_Pages.calls k n m _ HP2.out).mono ?_; rintro e w' ⟨rfl, ⟨n3, rfl⟩⟩)
      | (go_at_call 42; refine (QJour.aumbryref10_First.calls k n fi _ HF2.out).mono ?_; rintro e w' ⟨rfl, ⟨n4, rfl⟩⟩))
    go_ret
    exact ⟨rfl, pw_below_drewN B1.out _⟩
end Go.Proofs.Ytgageigcjeaenaa.Disk
namespace Go.Proofs.Ytgageigcjeaenaa.Disk
open Go.RowKit Go.Proofs.YtgageigcjeaenaaW.PrintWords Go.Proofs.YtgageigcjeaenaaW.PrintLast Go.Proofs.YtgageigcjeaenaaW.PrintMore Go.Proofs.Ytgageigcjeaenaa.MixBase Go.Proofs.Ytgageigcjeaenaa.MixPlain Go.Proofs.Ytgageigcjeaenaa.NumBase Go.Proofs.Ytgageigcjeaenaa.PadPlain
attribute [local go_sem] max2_int min2_int max_two min_two max_three min_three max_four min_four
set_option linter.unusedVariables false
set_option linter.unusedSimpArgs false
theorem pl_succ (k : Nat) (x y : Int) : QJour.journal_Pages.l0 (k + 1) x y = (QJour.journal_blocks.f y).bind fun t101 => (if (wrap64 ((wrap64 ((wrap64 (2 * y)) + 1)) + t101)) > x then (QJour.journal_Pages.l0 k x (wrap64 (y - 1))) else (some y)) := by rw [QJour.journal_Pages.l0]
theorem pu_succ (k : Nat) (x y : Int) : QJour.aumbryref10_Pages.l0 (k + 1) x y = (QJour.aumbryref10_Rows.f (wrap64 (y + 1))).bind fun t149 => (if (wrap64 ((wrap64 ((wrap64 (2 * (wrap64 (y + 1)))) + 1)) + t149)) ≤ x then (QJour.aumbryref10_Pages.l0 k x (wrap64 (y + 1))) else (some y)) := by rw [QJour.aumbryref10_Pages.l0]
theorem pj_false (k : Nat) (x : Int) : QJour.journal_Pages.j0 (k + 1) x false = QJour.journal_Pages.l0 k x (wrap64 (Int.tdiv (wrap64 (x - 1)) 2)) := by rw [QJour.journal_Pages.j0]; rfl
theorem pj_true (k : Nat) (x : Int) : QJour.journal_Pages.j0 (k + 1) x true = some 0 := by rw [QJour.journal_Pages.j0]; rfl
theorem pk_false (k : Nat) (x : Int) : QJour.aumbryref10_Pages.j0 (k + 1) x false = QJour.aumbryref10_Pages.l0 k x 0 := by rw [QJour.aumbryref10_Pages.j0]; rfl
theorem pk_true (k : Nat) (x : Int) : QJour.aumbryref10_Pages.j0 (k + 1) x true = some 0 := by rw [QJour.aumbryref10_Pages.j0]; rfl
def need (m : Nat) : Nat := 2 * m + 1 + (m + 127) / 128
theorem blocks_f (m : Nat) (h : m ≤ 4096) : QJour.journal_blocks.f (m : Int) = some (((m + 127) / 128 : Nat) : Int) := by
  unfold QJour.journal_blocks.f
  rw [MixBase.wrap64_small (i := (m : Int) + 128) (by omega) (by omega), MixBase.wrap64_small (i := (m : Int) + 128 - 1) (by omega) (by omega), Int.tdiv_eq_ediv_of_nonneg (by omega), MixBase.wrap64_small (by omega) (by omega)]
  refine congrArg some ?_
  omega
theorem rows_f (m : Nat) (h : m ≤ 4096) : QJour.aumbryref10_Rows.f (m : Int) = some (((m + 127) / 128 : Nat) : Int) := by
  unfold QJour.aumbryref10_Rows.f
  rw [Int.tdiv_eq_ediv_of_nonneg (by omega), Int.tmod_eq_emod_of_nonneg (by omega)]
  by_cases h0 : (m : Int) % 128 > 0
  · rw [if_pos h0, MixBase.wrap64_small (i := (m : Int) / 128) (by omega) (by omega), MixBase.wrap64_small (by omega) (by omega)]
    refine congrArg some ?_
    omega
  · rw [if_neg h0, MixBase.wrap64_small (by omega) (by omega)]
    refine congrArg some ?_
    omega
theorem pages_down (n m k : Nat) (h1 : need m ≤ n) (h2 : n < need (m + 1)) (hn : n ≤ 4096) : ∀ d, m + d ≤ 2048 → QJour.journal_Pages.l0 (k + d + 1) (n : Int) ((m + d : Nat) : Int) = some (m : Int) := by
  unfold need at h1 h2
  intro d
  induction d with
  | zero =>
    intro hd
    simp only [Nat.add_zero]
    rw [pl_succ, blocks_f m (by omega), Option.bind_some, MixBase.wrap64_small (i := 2 * (m : Int)) (by omega) (by omega), MixBase.wrap64_small (i := 2 * (m : Int) + 1) (by omega) (by omega), MixBase.wrap64_small (i := 2 * (m : Int) + 1 + _) (by omega) (by omega), if_neg (by omega)]
  | succ d ih =>
    intro hd
    have ih := ih (by omega)
    rw [show k + (d + 1) + 1 = k + d + 1 + 1 by omega, pl_succ, blocks_f (m + (d + 1)) (by omega), Option.bind_some, MixBase.wrap64_small (i := 2 * ((m + (d + 1) : Nat) : Int)) (by omega) (by omega), MixBase.wrap64_small (i := 2 * ((m + (d + 1) : Nat) : Int) + 1) (by omega) (by omega), MixBase.wrap64_small (i := 2 * ((m + (d + 1) : Nat) : Int) + 1 + _) (by omega) (by omega), if_pos (by omega), MixBase.wrap64_small (i := ((m + (d + 1) : Nat) : Int) - 1) (by omega) (by omega)]
    rw [show ((m + (d + 1) : Nat) : Int) - 1 = ((m + d : Nat) : Int) by omega]
    exact ih
theorem pages_up (n k : Nat) (hn : n ≤ 4096) : ∀ d m, m + d ≤ 2048 → need (m + d) ≤ n → n < need (m + d + 1) → QJour.aumbryref10_Pages.l0 (k + d + 1) (n : Int) (m : Int) = some ((m + d : Nat) : Int) := by
  intro d
  induction d with
  | zero =>
    intro m hd h1 h2
    unfold need at h1 h2
    simp only [Nat.add_zero] at *
    rw [pu_succ, MixBase.wrap64_small (i := (m : Int) + 1) (by omega) (by omega), show (m : Int) + 1 = ((m + 1 : Nat) : Int) by omega, rows_f (m + 1) (by omega), Option.bind_some, MixBase.wrap64_small (i := 2 * ((m + 1 : Nat) : Int)) (by omega) (by omega), MixBase.wrap64_small (i := 2 * ((m + 1 : Nat) : Int) + 1) (by omega) (by omega), MixBase.wrap64_small (i := 2 * ((m + 1 : Nat) : Int) + 1 + _) (by omega) (by omega), if_neg (by omega)]
  | succ d ih =>
    intro m hd h1 h2
    have ih := ih (m + 1) (by omega) (by rw [show m + 1 + d = m + (d + 1) by omega]; exact h1) (by rw [show m + 1 + d + 1 = m + (d + 1) + 1 by omega]; exact h2)
    unfold need at h1 h2
    rw [show k + (d + 1) + 1 = k + d + 1 + 1 by omega, pu_succ, MixBase.wrap64_small (i := (m : Int) + 1) (by omega) (by omega), show (m : Int) + 1 = ((m + 1 : Nat) : Int) by omega, rows_f (m + 1) (by omega), Option.bind_some, MixBase.wrap64_small (i := 2 * ((m + 1 : Nat) : Int)) (by omega) (by omega), MixBase.wrap64_small (i := 2 * ((m + 1 : Nat) : Int) + 1) (by omega) (by omega), MixBase.wrap64_small (i := 2 * ((m + 1 : Nat) : Int) + 1 + _) (by omega) (by omega), if_pos (by omega), ih, show m + 1 + d = m + (d + 1) by omega]
theorem pages_ex (n : Nat) (h0 : 64 ≤ n) : ∀ t, n < need (31 + t) → ∃ m, 31 ≤ m ∧ m < 31 + t ∧ need m ≤ n ∧ n < need (m + 1)
  | 0, h => by unfold need at h; omega
  | t + 1, h => by
    rcases Nat.lt_or_ge n (need (31 + t)) with h1 | h1
    · obtain ⟨m, a, b, c⟩ := pages_ex n h0 t h1
      exact ⟨m, a, by omega, c⟩
    · exact ⟨31 + t, by omega, by omega, h1, h⟩
/-- How many pages, and where the first one stands: both sides. -/
theorem rooms (n : Int) (K : Nat) (hK : 3000 ≤ K) : ∃ m fi : Int, QJour.journal_Pages.f K n = some m ∧ QJour.journal_First.f K n = some fi ∧ QJour.aumbryref10_Pages.f K n = some m ∧ QJour.aumbryref10_First.f K n = some fi ∧
    ((m = 0 ∧ fi = 0) ∨ (31 ≤ m ∧ m ≤ 1023 ∧ ∃ q : Nat, m = q ∧ fi = ((2 + (q + 127) / 128 + q : Nat) : Int) ∧ 64 ≤ n ∧ n ≤ 2048 ∧ (need q : Int) ≤ n ∧ QJour.journal_copies.f K n = some ((2 + (q + 127) / 128 : Nat) : Int))) := by
  obtain ⟨k, rfl⟩ : ∃ k, K = k + 2000 + 1 + 1 := ⟨K - 2002, by omega⟩
  by_cases hb : 64 ≤ n ∧ n ≤ 2048
  · obtain ⟨N, rfl⟩ : ∃ N : Nat, n = (N : Int) := ⟨n.toNat, by omega⟩
    obtain ⟨q, h1, h2, h3, h4⟩ := pages_ex N (by omega) 993 (by unfold need; omega)
    have hP : QJour.journal_Pages.f (k + 2000 + 1 + 1) (N : Int) = some (q : Int) := by
      unfold QJour.journal_Pages.f
      rw [if_neg (by omega)]
      rw [decide_eq_false (by omega), pj_false, MixBase.wrap64_small (i := (N : Int) - 1) (by omega) (by omega), Int.tdiv_eq_ediv_of_nonneg (by omega), MixBase.wrap64_small (by omega) (by omega)]
      have hq : q ≤ (N - 1) / 2 := by unfold need at h3; omega
      have := pages_down N q (k + 2000 - ((N - 1) / 2 - q)) h3 h4 (by omega) ((N - 1) / 2 - q) (by omega)
      rw [show k + 2000 - ((N - 1) / 2 - q) + ((N - 1) / 2 - q) + 1 = k + 2000 + 1 by omega, show ((q + ((N - 1) / 2 - q) : Nat) : Int) = ((N : Int) - 1) / 2 by omega] at this
      exact this
    have hP2 : QJour.aumbryref10_Pages.f (k + 2000 + 1 + 1) (N : Int) = some (q : Int) := by
      unfold QJour.aumbryref10_Pages.f
      rw [if_neg (by omega)]
      rw [decide_eq_false (by omega), pk_false]
      have := pages_up N (k + 2000 - q) (by omega) q 0 (by omega) (by rw [Nat.zero_add]; exact h3) (by rw [Nat.zero_add]; exact h4)
      rw [show k + 2000 - q + q + 1 = k + 2000 + 1 by omega, Nat.zero_add] at this
      exact this
    have hcp : QJour.journal_copies.f (k + 2000 + 1 + 1) (N : Int) = some ((2 + (q + 127) / 128 : Nat) : Int) := by
      unfold QJour.journal_copies.f
      rw [hP, Option.bind_some, blocks_f q (by omega), Option.bind_some, MixBase.wrap64_small (by omega) (by omega)]
      refine congrArg some ?_
      omega
    refine ⟨q, ((2 + (q + 127) / 128 + q : Nat) : Int), hP, ?_, hP2, ?_, Or.inr ⟨by omega, by omega, q, rfl, rfl, hb.1, hb.2, by omega, hcp⟩⟩
    · unfold QJour.journal_First.f
      rw [hP, Option.bind_some, if_neg (by omega), hcp, Option.bind_some, Option.bind_some, MixBase.wrap64_small (by omega) (by omega)]
      refine congrArg some ?_
      omega
    · unfold QJour.aumbryref10_First.f
      rw [hP2, Option.bind_some, if_neg (by omega), rows_f q (by omega), Option.bind_some, MixBase.wrap64_small (i := 2 + _) (by omega) (by omega), MixBase.wrap64_small (by omega) (by omega)]
      refine congrArg some ?_
      omega
  · have hP : QJour.journal_Pages.f (k + 2000 + 1 + 1) n = some 0 := by
      unfold QJour.journal_Pages.f
      by_cases h : n < 64
      · rw [if_pos h, pj_true]
      · rw [if_neg h, decide_eq_true (by omega), pj_true]
    have hP2 : QJour.aumbryref10_Pages.f (k + 2000 + 1 + 1) n = some 0 := by
      unfold QJour.aumbryref10_Pages.f
      by_cases h : n < 64
      · rw [if_pos h, pk_true]
      · rw [if_neg h, decide_eq_true (by omega), pk_true]
    refine ⟨0, 0, hP, ?_, hP2, ?_, Or.inl ⟨rfl, rfl⟩⟩
    · unfold QJour.journal_First.f
      rw [hP]
      rfl
    · unfold QJour.aumbryref10_First.f
      rw [hP2]
      rfl
theorem JournalRooms_walk (n : Int) (W : World) (_ : (Lit.int .i64 n).wf = true) : Calls Try.prog 10 #[.int .i64 n] W fun e w' => e = .returned (.bool true) ∧ Below W.heap.size W w' := by
  obtain ⟨m, fi, h1, h2, h3, h4, h5⟩ := rooms n 3000 (Nat.le_refl _)
  refine JournalRooms_calls n m fi 3000 W h1 h2 h3 h4 ?_
  rcases h5 with h | ⟨a, b, q, rfl, rfl, c, d, e, _⟩
  · exact Or.inl h
  · refine Or.inr ⟨a, ?_⟩
    unfold need at e
    rw [MixBase.wrap64_small (i := _ + (q : Int)) (by omega) (by omega), MixBase.wrap64_small (by omega) (by omega)]
    omega
end Go.Proofs.Ytgageigcjeaenaa.Disk
