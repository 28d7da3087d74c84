/- Disks: contracts and laws, walked by hand. No condition beside those that each theorem names. -/
import Derived.Test.YtgageigcjeaenaaDisk9
import Derived.RangeFuncNested
import Derived.RangeFuncBound
import Derived.RangeFuncCalls
import Derived.RangeFuncLeaves
import Derived.Shelf.Abstract
import Derived.Shelf.RegionOpen
import Derived.OwnWalkIn
import Derived.TacticsInMore
import Derived.LoopNIn
import Derived.LoopIn
namespace Go.Proofs.Ytgageigcjeaenaa.Disk
open Go.RowKit Go.Proofs.YtgageigcjeaenaaW.PrintWords Go.Proofs.YtgageigcjeaenaaW.PrintLast Go.Proofs.YtgageigcjeaenaaW.PrintMore Go.Proofs.Ytgageigcjeaenaa.MixBase Go.Proofs.Ytgageigcjeaenaa.MixPlain Go.Proofs.Ytgageigcjeaenaa.NumBase Go.Proofs.Ytgageigcjeaenaa.PadPlain
attribute [local go_sem] max2_int min2_int max_two min_two max_three min_three max_four min_four
set_option linter.unusedVariables false
set_option linter.unusedSimpArgs false
section law
variable {α : Type}
/-- What an iterator's value tells: all of xs, one by one, or as much as is asked for. -/
def Tells (gf : FuncId) (lb : Array Value) (enc : α → Value) (Kp : World → World → Prop) (xs : List α) (w : World) : Prop :=
  ∀ (l : Nat) (J Jx : List α → World → Prop) (W : World), Below w.heap.size w W → OwnFrom W.heap.size J → OwnFrom W.heap.size Jx →
    (∀ pre x W1, J pre W1 → (pre ++ [x]) <+: xs → ∀ m, YieldAt Fence.wide m Try.prog l #[enc x] W1 fun e W' =>
      (e = .returned (.bool true) ∧ J (pre ++ [x]) W' ∧ Kp W1 W' ∧ KeepsFrom W.heap.size W1 W') ∨ (e = .returned (.bool false) ∧ Jx (pre ++ [x]) W' ∧ KeepsFrom W.heap.size W1 W')) →
    J [] W →
    Calls Try.prog gf (#[.func (.yield l) #[] #[]] ++ lb) W fun e W' => (∃ v, e = .returned v) ∧ (J xs W' ∨ ∃ pre, pre <+: xs ∧ Jx pre W')
theorem keepsFrom_le {B B' : Nat} {A C : World} (h : KeepsFrom B A C) (hB : B ≤ B') : KeepsFrom B' A C := ⟨h.size, fun k o hk => h.same k o (Nat.le_trans hB hk)⟩
theorem keepsFrom_put {B l : Nat} {A : World} (o : Obj) (hl : l < B) : KeepsFrom B A (A.putObj l o) := KeepsFrom.of_grownBy (grownBy_putObj' A l o) (fun j e => by cases e; exact hl)
/-- How a round's body may be left: it goes on, or it returns. -/
def roundEnd (B : Nat) (Kp : World → World → Prop) (I Ix : List α → World → Prop) (xs : List α) (W : World) : Exit → Act → World → Prop
  | .normal, _, W' => KeepsFrom B W W' ∧ Kp W W' ∧ I xs W'
  | .ret, _, W' => KeepsFrom B W W' ∧ Ix xs W'
  | _, _, _ => False
/-- The loop 'for p := range g', over a value that tells. -/
theorem wp_tells {n : Nat} {g : Operand} {p : Tmp} {assign body : Code} {Q : Exit → Act → World → Prop} {a : Act} {w w0 : World} {gf : Nat} {lb : Array Value} {enc : α → Value} {Kp : World → World → Prop} {xs : List α}
    (hg : a.eval g = .func (.func gf) #[] lb) (eg : ∀ args w, (callFunc gf args).run Try.prog w = .ok (.enter gf args) w) (hseq : Tells gf lb enc Kp xs w0)
    (hKt : ∀ {A B C : World}, Kp A B → Kp B C → Kp A C) (hKb : ∀ (W : World) (l : Nat) (r r' : Loop), w.heap.size ≤ l → W.heap[l]? = some (.loop r) → Kp W (W.putObj l (.loop r'))) (hb0 : Below w0.heap.size w0 w)
    (I Ix : List α → World → Prop) (hI : OwnFrom w.heap.size I) (hIx : OwnFrom w.heap.size Ix) (h0 : I [] w) (Ax : α → Act → World → Prop) (hAx : ∀ x a', OwnFrom w.heap.size (fun (_ : Unit) W => Ax x a' W))
    (hassign : ∀ (m l : Nat) (pre : List α) (x : α) (W : World) (K : Act → World → Prop), I pre W → (∀ a' W', KeepsFrom w.heap.size W W' → Kp W W' → I pre W' → Ax x a' W' → K a' W') →
      assign.wpIn (Fence.wide.inRound l) m Try.prog (Exit.then K (fun _ _ _ => False)) { tmps := ((#[p] : Array Tmp).zip #[enc x]).foldl (fun t (p, v) => t.setIfInBounds p v) a.tmps, defers := [] } W)
    (hbody : ∀ (m l : Nat) (pre : List α) (x : α) (a' : Act) (W : World), I pre W → Ax x a' W → (pre ++ [x]) <+: xs → body.wpIn (Fence.wide.inRound l) m Try.prog (roundEnd w.heap.size Kp I Ix (pre ++ [x]) W) a' W)
    (hdone : ∀ (D : Nat) (W : World), w.heap.size ≤ D → I xs W → W.heap[D]? = some (.deferred (some [])) → Q .normal { a with defers := { target := .collected D, args := #[] } :: a.defers } W)
    (hstop : ∀ (D : Nat) (pre : List α) (W : World), w.heap.size ≤ D → pre <+: xs → Ix pre W → W.heap[D]? = some (.deferred (some [])) → Code.ret.wpIn Fence.wide n Try.prog Q { a with defers := { target := .collected D, args := #[] } :: a.defers } W) :
    (Code.rangeFunc g #[p] assign body).wpIn Fence.wide n Try.prog Q a w := by
  refine wpIn_rangeFunc fun fn hfn => ?_
  let rec_ : LoopState → Option Code → Loop := fun st pe => { state := st, pending := pe, fn := fn, tmps := a.tmps, params := #[p], assign := assign, body := body, defers := w.heap.size }
  let W1 := (w.alloc (.deferred (some []))).alloc (.loop (rec_ .ready none))
  have hs1 : W1.heap.size = w.heap.size + 1 + 1 := by show ((w.alloc _).alloc _).heap.size = _; rw [World.size_alloc, World.size_alloc]
  have hL1 : W1.heap[w.heap.size + 1]? = some (.loop (rec_ .ready none)) := by
    have := World.alloc_heap_new (w.alloc (.deferred (some []))) (.loop (rec_ .ready none))
    rwa [World.size_alloc] at this
  have hK1 : W1.heap[w.heap.size]? = some (.deferred (some [])) := (Below.heap_alloc _ _ _ (by rw [World.size_alloc]; omega)).trans (World.alloc_heap_new w _)
  have turn : ∀ {A : World} {row : Option Nat}, (∀ r, row = some r → W1.heap.size ≤ r ∧ ∃ o : Obj, A.heap[r]? = some o ∧ o.isCells = false) → (∀ r, row = some r → w.heap.size ≤ r ∧ ∃ o : Obj, A.heap[r]? = some o ∧ o.isCells = false) := fun h r e => ⟨by have := (h r e).1; omega, (h r e).2⟩
  have book : ∀ {A B : World} {row : Option Nat} {k : Nat} {o : Obj}, A.grownBy B row → (∀ r, row = some r → W1.heap.size ≤ r ∧ ∃ o : Obj, A.heap[r]? = some o ∧ o.isCells = false) → k < W1.heap.size → A.heap[k]? = some o → B.heap[k]? = some o := fun hgr h hk ho =>
    (hgr.block _ (Array.getElem?_eq_some_iff.1 ho).1 (fun e => by have := (h _ e.symm).1; omega)).trans ho
  refine ⟨w.heap.size + 1, [{ target := .collected w.heap.size, args := #[] }], W1, { target := .fn (.func gf) lb, args := #[.func (.yield (w.heap.size + 1)) #[] #[]] }, W1, gf,
    #[.func (.yield (w.heap.size + 1)) #[] #[]] ++ lb, W1, run_enterLoop_outer _ _ _ _ _, ?_, fun _ _ => trivial, ?_, fun h => by simp [Fence.wide] at h, ?_⟩
  · simp only [resolve, hg]
    simp [go_sem]
  · simp [invoke, go_sem, eg]
  refine (callsIn_wide.2 (hseq (w.heap.size + 1)
    (fun pre W => I pre W ∧ W.heap[w.heap.size + 1]? = some (.loop (rec_ .ready none)) ∧ W.heap[w.heap.size]? = some (.deferred (some [])))
    (fun pre W => Ix pre W ∧ W.heap[w.heap.size + 1]? = some (.loop (rec_ .done (some .ret))) ∧ W.heap[w.heap.size]? = some (.deferred (some [])))
    W1 (hb0.trans ((((Below.refl _ w).alloc (Nat.le_refl _) _).alloc (by rw [World.size_alloc]; omega) _).mono hb0.size))
    (fun s A B row hs hgr hr => ⟨hI s A B row hs.1 hgr (turn hr), book hgr hr (by omega) hs.2.1, book hgr hr (by omega) hs.2.2⟩)
    (fun s A B row hs hgr hr => ⟨hIx s A B row hs.1 hgr (turn hr), book hgr hr (by omega) hs.2.1, book hgr hr (by omega) hs.2.2⟩)
    ?_ ⟨hI.alloc _ (hI.alloc _ h0), hL1, hK1⟩)).mono ?_
  · rintro pre x W ⟨hi, hl, hk⟩ hpre m
    refine ⟨fn, _, assign, body, run_yield (args := #[enc x]) hl rfl, roundIn_of_wpIn hfn (hassign m _ pre x W _ hi ?_)⟩
    intro a' Wa hkf hkp hia hax
    have hla := hkf.same _ _ (by omega) hl rfl
    have hka := hkf.same _ _ (Nat.le_refl _) hk rfl
    have hlt := (Array.getElem?_eq_some_iff.1 hla).1
    refine ⟨_, run_beginRound hla rfl, wpIn_mono (hbody m _ pre x a' _ (hI.putObj _ hia (by omega) hla rfl) ((hAx x a').putObj (s := ()) _ hax (by omega) hla rfl) hpre) ?_⟩
    have hlb := World.putObj_heap_same (w := Wa) (o := .loop { rec_ .ready none with state := .busy }) hlt
    have hkb : (Wa.putObj (w.heap.size + 1) (.loop { rec_ .ready none with state := .busy })).heap[w.heap.size]? = some (.deferred (some [])) := (World.putObj_heap_other (by omega)).trans hka
    have hkp2 : Kp W (Wa.putObj (w.heap.size + 1) (.loop { rec_ .ready none with state := .busy })) := hKt hkp (hKb _ _ _ _ (by omega) hla)
    rintro e a3 W3 hp
    cases e with
    | normal =>
      obtain ⟨h3, h4, h5⟩ := hp
      have hl3 := h3.same _ _ (by omega) hlb rfl
      have hk3 := h3.same _ _ (Nat.le_refl _) hkb rfl
      exact ⟨_, _, run_endRound none hl3, .inl ⟨rfl, ⟨hI.putObj _ h5 (by omega) hl3 rfl, World.putObj_heap_same (Array.getElem?_eq_some_iff.1 hl3).1, (World.putObj_heap_other (by omega)).trans hk3⟩, hKt hkp2 (hKt h4 (hKb _ _ _ _ (by omega) hl3)), ((keepsFrom_le hkf (by omega)).trans (keepsFrom_put _ (by omega))).trans ((keepsFrom_le h3 (by omega)).trans (keepsFrom_put _ (by omega)))⟩⟩
    | ret =>
      obtain ⟨h3, h5⟩ := hp
      have hl3 := h3.same _ _ (by omega) hlb rfl
      have hk3 := h3.same _ _ (Nat.le_refl _) hkb rfl
      exact ⟨_, _, run_endRound (some .ret) hl3, .inr ⟨rfl, ⟨hIx.putObj _ h5 (by omega) hl3 rfl, World.putObj_heap_same (Array.getElem?_eq_some_iff.1 hl3).1, (World.putObj_heap_other (by omega)).trans hk3⟩, ((keepsFrom_le hkf (by omega)).trans (keepsFrom_put _ (by omega))).trans ((keepsFrom_le h3 (by omega)).trans (keepsFrom_put _ (by omega)))⟩⟩
    | exit id => exact hp.elim
    | goto t => exact hp.elim
    | panic ch => exact hp.elim
    | outgrown => exact hp.elim
  · rintro e W2 ⟨⟨v, rfl⟩, (⟨hi, hl, hk⟩ | ⟨pre, hpre, hi, hl, hk⟩)⟩
    · exact ⟨none, _, run_endLoop hl (by simp [rec_]), hdone _ _ (Nat.le_refl _) (hI.putObj _ hi (by omega) hl rfl) ((World.putObj_heap_other (by omega)).trans hk)⟩
    · exact ⟨some .ret, _, run_endLoop hl (by simp [rec_]), hstop _ pre _ (Nat.le_refl _) hpre (hIx.putObj _ hi (by omega) hl rfl) ((World.putObj_heap_other (by omega)).trans hk)⟩
end law
attribute [local go_sem] Oper.semAt_some
/-- What is written, up to the first error. -/
def doW (d : Dk) : List Pg → Dk × Int
  | [] => (d, 0)
  | p :: l => if (writeD d p.at_ p.data).2 = 0 then doW (writeD d p.at_ p.data).1 l else writeD d p.at_ p.data
theorem doW_append : ∀ (xs : List Pg) (d : Dk) (ys : List Pg), (doW d xs).2 = 0 → doW d (xs ++ ys) = doW (doW d xs).1 ys
  | [], d, ys, h => rfl
  | p :: l, d, ys, h => by
    by_cases hc : (writeD d p.at_ p.data).2 = 0
    · have e1 : ∀ zs, doW d (p :: zs) = doW (writeD d p.at_ p.data).1 zs := fun zs => if_pos hc
      rw [List.cons_append, e1, e1]
      rw [e1] at h
      exact doW_append l _ ys h
    · have e1 : ∀ zs, doW d (p :: zs) = writeD d p.at_ p.data := fun zs => if_neg hc
      rw [e1] at h
      exact absurd h hc
theorem doW_stop : ∀ (xs : List Pg) (d : Dk) (ys : List Pg), (doW d xs).2 ≠ 0 → doW d (xs ++ ys) = doW d xs
  | [], d, ys, h => absurd rfl h
  | p :: l, d, ys, h => by
    by_cases hc : (writeD d p.at_ p.data).2 = 0
    · have e1 : ∀ zs, doW d (p :: zs) = doW (writeD d p.at_ p.data).1 zs := fun zs => if_pos hc
      rw [List.cons_append, e1, e1]
      rw [e1] at h
      exact doW_stop l _ ys h
    · have e1 : ∀ zs, doW d (p :: zs) = writeD d p.at_ p.data := fun zs => if_neg hc
      rw [List.cons_append, e1, e1]
theorem doW_one (d : Dk) (x : Pg) : doW d [x] = writeD d x.at_ x.data := by
  by_cases hc : (writeD d x.at_ x.data).2 = 0
  · refine (if_pos hc).trans ?_
    show ((writeD d x.at_ x.data).1, (0 : Int)) = _
    rw [← hc]
  · exact if_neg hc
theorem doW_snoc (pre : List Pg) (x : Pg) (d : Dk) (h : (doW d pre).2 = 0) : doW d (pre ++ [x]) = writeD (doW d pre).1 x.at_ x.data := (doW_append pre d [x] h).trans (doW_one _ x)
theorem writeD_log (d : Dk) (a : Int) (s : ByteArray) : (writeD d a s).1.log.length ≤ d.log.length + 1 := by
  have hp : (putD d a s).log.length = d.log.length + 1 := by
    show (d.log ++ [_]).length = _
    rw [List.length_append]
    rfl
  unfold writeD
  split
  · split
    · split
      · exact Nat.le_succ _
      · exact Nat.le_of_eq hp
    · exact Nat.le_succ _
  · exact Nat.le_succ _
theorem doW_log : ∀ (xs : List Pg) (d : Dk), (doW d xs).1.log.length ≤ d.log.length + xs.length
  | [], d => Nat.le_refl _
  | p :: l, d => by
    have h1 := writeD_log d p.at_ p.data
    by_cases hc : (writeD d p.at_ p.data).2 = 0
    · have e1 : doW d (p :: l) = doW (writeD d p.at_ p.data).1 l := if_pos hc
      rw [e1, List.length_cons]
      have := doW_log l (writeD d p.at_ p.data).1
      omega
    · have e1 : doW d (p :: l) = writeD d p.at_ p.data := if_neg hc
      rw [e1, List.length_cons]
      omega
def encPg (p : Pg) : Value := .agg #[.int .i64 p.at_, .string p.data]
/-- The blocks that the disk at block g lies in, read off the memory. -/
def FootOf (g : Nat) (w : World) (k : Nat) : Prop := k = g ∨ ∃ (c : Array Value) (t : TypeId) (p : Nat × Nat), w.heap[g]? = some (.cells c t p) ∧ ((∃ v, c[0]? = some v ∧ v.ownBlock = some k) ∨ ∃ v, c[1]? = some v ∧ v.ownBlock = some k)
theorem DiskIs.footOf {w : World} {base g : Nat} {vb vl : Value} {d : Dk} (h : DiskIs w base g vb vl d) (k : Nat) : FootOf g w k ↔ Foot g vb vl k := by
  constructor
  · rintro (e | ⟨c, t, p, hc, hv⟩)
    · exact Or.inl e
    · rw [h.2.1] at hc
      injection hc with hc
      injection hc with hc _ _
      subst hc
      rcases hv with ⟨v, e, hv⟩ | ⟨v, e, hv⟩
      · cases e
        exact Or.inr (Or.inl hv)
      · cases e
        exact Or.inr (Or.inr hv)
  · rintro (e | hv | hv)
    · exact Or.inl e
    · exact Or.inr ⟨_, _, _, h.2.1, Or.inl ⟨vb, rfl, hv⟩⟩
    · exact Or.inr ⟨_, _, _, h.2.1, Or.inr ⟨vl, rfl, hv⟩⟩
theorem DiskIs.foot_cells {w : World} {base g : Nat} {vb vl : Value} {d : Dk} (h : DiskIs w base g vb vl d) {k : Nat} {o : Obj} (hk : Foot g vb vl k) (ho : w.heap[k]? = some o) : o.isCells = true := by
  rcases hk with e | hk | hk
  · subst e
    rw [h.2.1] at ho
    injection ho with ho
    rw [← ho]
    rfl
  · obtain ⟨c, hc⟩ := own_typed h.2.2.1 k hk
    rw [hc] at ho
    injection ho with ho
    rw [← ho]
    rfl
  · obtain ⟨c, hc⟩ := own_typed h.2.2.2 k hk
    rw [hc] at ho
    injection ho with ho
    rw [← ho]
    rfl
/-- The block is one of cells. -/
def IsC (g : Nat) (w : World) : Prop := ∃ (c : Array Value) (t : TypeId) (p : Nat × Nat), w.heap[g]? = some (.cells c t p)
/-- What a round keeps: the cells outside the disk's blocks; the disk's blocks are its old ones or new. -/
def Rd (g : Nat) (A B : World) : Prop := B.os = A.os ∧ B.tape = A.tape ∧ B.output = A.output ∧ A.heap.size ≤ B.heap.size ∧ (∀ k o, A.heap[k]? = some o → o.isCells = true → ¬ FootOf g A k → B.heap[k]? = some o) ∧ (∀ k, FootOf g B k → FootOf g A k ∨ (A.heap.size ≤ k ∧ k < B.heap.size)) ∧ (IsC g A → IsC g B)
theorem Rd.refl (g : Nat) (A : World) : Rd g A A := ⟨rfl, rfl, rfl, Nat.le_refl _, fun _ _ h _ _ => h, fun _ h => Or.inl h, fun h => h⟩
theorem Rd.trans {g : Nat} {A B C : World} (h : Rd g A B) (k : Rd g B C) : Rd g A C :=
  ⟨k.1.trans h.1, k.2.1.trans h.2.1, k.2.2.1.trans h.2.2.1, Nat.le_trans h.2.2.2.1 k.2.2.2.1,
   fun i o hi ho hn => k.2.2.2.2.1 i o (h.2.2.2.2.1 i o hi ho hn) ho (fun hf => (h.2.2.2.2.2.1 i hf).elim hn (fun hl => by have := blk_lt hi; omega)),
   fun i hf => (k.2.2.2.2.2.1 i hf).elim (fun hf => (h.2.2.2.2.2.1 i hf).imp_right (fun hl => ⟨hl.1, Nat.lt_of_lt_of_le hl.2 k.2.2.2.1⟩)) (fun hl => Or.inr ⟨Nat.le_trans h.2.2.2.1 hl.1, hl.2⟩), fun hc => k.2.2.2.2.2.2 (h.2.2.2.2.2.2 hc)⟩
theorem FootOf.same {g : Nat} {A B : World} {k : Nat} (h : B.heap[g]? = A.heap[g]?) (hf : FootOf g B k) : FootOf g A k := by
  rcases hf with e | ⟨c, t, p, hc, hv⟩
  · exact Or.inl e
  · exact Or.inr ⟨c, t, p, h.symm.trans hc, hv⟩
theorem Rd.turn {g : Nat} (W : World) (l : Nat) (r r' : Loop) (hl : W.heap[l]? = some (.loop r)) : Rd g W (W.putObj l (.loop r')) := by
  have hsz : (W.putObj l (.loop r')).heap.size = W.heap.size := by simp [World.putObj]
  refine ⟨rfl, rfl, rfl, Nat.le_of_eq hsz.symm, ?_, ?_, ?_⟩
  · intro k o hk ho _
    by_cases e : k = l
    · subst e
      rw [hl] at hk
      injection hk with hk
      rw [← hk] at ho
      cases ho
    · exact (World.putObj_heap_other e).trans hk
  · intro k hf
    by_cases e : g = l
    · subst e
      rcases hf with e | ⟨c, t, p, hc, hv⟩
      · exact Or.inl (Or.inl e)
      · rw [World.putObj_heap_same (blk_lt hl)] at hc
        injection hc with hc
        cases hc
    · exact Or.inl (hf.same (World.putObj_heap_other e))
  · rintro ⟨c, t, p, hc⟩
    by_cases e : g = l
    · subst e
      rw [hl] at hc
      injection hc with hc
      cases hc
    · exact ⟨c, t, p, (World.putObj_heap_other e).trans hc⟩
theorem Rd.of_below {g : Nat} {A B : World} (h : Below A.heap.size A B) (hg : g < A.heap.size) : Rd g A B :=
  ⟨h.os, h.tape, h.output, h.size, fun k o hk _ _ => (h.block k (blk_lt hk)).trans hk, fun k hf => Or.inl (hf.same (h.block g hg)), fun ⟨c, t, p, hc⟩ => ⟨c, t, p, (h.block g hg).trans hc⟩⟩
theorem Rd.of_moved {w w' : World} {base base' g : Nat} {vb vl vb' vl' : Value} {d d' : Dk} (h : DiskIs w base g vb vl d) (h' : DiskIs w' base' g vb' vl' d') (hm : Moved w w' (Foot g vb vl)) (hf : ∀ k, Foot g vb' vl' k → Foot g vb vl k ∨ w.heap.size ≤ k) : Rd g w w' :=
  ⟨hm.1, hm.2.1, hm.2.2.1, hm.2.2.2.1, fun k o hk _ hn => hm.block hk (fun hF => hn ((h.footOf k).2 hF)), fun k hk => (hf k ((h'.footOf k).1 hk)).imp (fun x => (h.footOf k).2 x) (fun x => ⟨x, (h'.foot_lt ((h'.footOf k).1 hk)).2⟩), fun _ => ⟨_, _, _, h'.2.1⟩⟩
theorem KeepsFrom.of_moved {B : Nat} {w w' : World} {base g : Nat} {vb vl : Value} {d : Dk} (h : DiskIs w base g vb vl d) (hm : Moved w w' (Foot g vb vl)) : KeepsFrom B w w' :=
  ⟨hm.2.2.2.1, fun k o _ hk ho => hm.block hk (fun hF => by have := h.foot_cells hF hk; rw [ho] at this; cases this)⟩
theorem grown_cells {A B : World} {row : Option Nat} {Bn : Nat} (hg : A.grownBy B row) (hr : ∀ r, row = some r → Bn ≤ r ∧ ∃ o : Obj, A.heap[r]? = some o ∧ o.isCells = false) {k : Nat} {o : Obj} (hk : A.heap[k]? = some o) (ho : o.isCells = true) : B.heap[k]? = some o :=
  (hg.block k (blk_lt hk) (fun e => by obtain ⟨_, o', ho', hc⟩ := hr k e.symm; rw [hk] at ho'; injection ho' with ho'; rw [← ho', ho] at hc; cases hc)).trans hk
theorem grown_below {W A B : World} {row : Option Nat} {Bn n : Nat} (h : Below n W A) (hn : n ≤ W.heap.size) (hg : A.grownBy B row) (hr : ∀ r, row = some r → Bn ≤ r ∧ ∃ o : Obj, A.heap[r]? = some o ∧ o.isCells = false) (hB : n ≤ Bn) : Below n W B :=
  ⟨hg.os.trans h.os, hg.tape.trans h.tape, hg.output.trans h.output, Nat.le_trans h.size hg.size, fun k hk => (hg.block k (by have := h.size; omega) (fun e => by have := (hr k e.symm).1; omega)).trans (h.block k hk)⟩
theorem own_grown {A B : World} {row : Option Nat} {Bn base e size n : Nat} {v : Value} {xs : List Value} (ho : A.ownsRow base e size v n xs) (hg : A.grownBy B row) (hr : ∀ r, row = some r → Bn ≤ r ∧ ∃ o : Obj, A.heap[r]? = some o ∧ o.isCells = false) : B.ownsRow base e size v n xs :=
  own_move ho (fun k hk => by obtain ⟨c, hc⟩ := own_typed ho k hk; exact (grown_cells hg hr hc rfl).trans hc.symm)
theorem DiskIs.grown {A B : World} {row : Option Nat} {Bn base g : Nat} {vb vl : Value} {d : Dk} (h : DiskIs A base g vb vl d) (hg : A.grownBy B row) (hr : ∀ r, row = some r → Bn ≤ r ∧ ∃ o : Obj, A.heap[r]? = some o ∧ o.isCells = false) : DiskIs B base g vb vl d :=
  ⟨h.1, grown_cells hg hr h.2.1 rfl, own_grown h.2.2.1 hg hr, own_grown h.2.2.2 hg hr⟩
theorem Rd.grown' {g : Nat} {W A B : World} {row : Option Nat} {Bn : Nat} (h : Rd g W A) (hd : IsC g A) (hg : A.grownBy B row) (hr : ∀ r, row = some r → Bn ≤ r ∧ ∃ o : Obj, A.heap[r]? = some o ∧ o.isCells = false) : Rd g W B :=
  ⟨hg.os.trans h.1, hg.tape.trans h.2.1, hg.output.trans h.2.2.1, Nat.le_trans h.2.2.2.1 hg.size, fun k o hk ho hn => grown_cells hg hr (h.2.2.2.2.1 k o hk ho hn) ho,
   fun k hf => (h.2.2.2.2.2.1 k (hf.same (by obtain ⟨c, t, p, hc⟩ := hd; exact (grown_cells hg hr hc rfl).trans hc.symm))).imp_right (fun hl => ⟨hl.1, Nat.lt_of_lt_of_le hl.2 hg.size⟩), fun _ => by obtain ⟨c, t, p, hc⟩ := hd; exact ⟨c, t, p, grown_cells hg hr hc rfl⟩⟩
theorem Rd.grown {g : Nat} {W A B : World} {row : Option Nat} {Bn base : Nat} {vb vl : Value} {d : Dk} (h : Rd g W A) (hd : DiskIs A base g vb vl d) (hg : A.grownBy B row) (hr : ∀ r, row = some r → Bn ≤ r ∧ ∃ o : Obj, A.heap[r]? = some o ∧ o.isCells = false) : Rd g W B := h.grown' ⟨_, _, _, hd.2.1⟩ hg hr
theorem Rd.foot_lt {g : Nat} {A B : World} (r : Rd g A B) (hft : ∀ k, FootOf g A k → k < A.heap.size) : ∀ k, FootOf g B k → k < B.heap.size := fun k hf => (r.2.2.2.2.2.1 k hf).elim (fun h => Nat.lt_of_lt_of_le (hft k h) r.2.2.2.1) (fun h => h.2)
theorem St.grown {W A B : World} {row : Option Nat} {Bn g : Nat} {vb vl : Value} {d : Dk} (h : St W A g vb vl d) (hB : W.heap.size ≤ Bn) (hg : A.grownBy B row) (hr : ∀ r, row = some r → Bn ≤ r ∧ ∃ o : Obj, A.heap[r]? = some o ∧ o.isCells = false) : St W B g vb vl d :=
  ⟨h.1.grown hg hr, grown_below h.2 (Nat.le_refl _) hg hr hB⟩
/-- What the loop of journal.write keeps: the disk, the boxes. -/
def WrI (W w : World) (g : Nat) (vb vl : Value) (r : Int) (dd : Dk) (V : World) : Prop := ∃ vl', St W V g vb vl' dd ∧ (∀ k, Foot g vb vl' k → Foot g vb vl k ∨ w.heap.size + 2 ≤ k) ∧ Rd g w V ∧ V.heap[w.heap.size]? = some (.cells #[.pointer (some ⟨g, 0, none⟩)] 24 (0, 0)) ∧ V.heap[w.heap.size + 1]? = some (.cells #[.int .i64 r] 29 (0, 0))
theorem WrI.grown {W w A B : World} {g : Nat} {vb vl : Value} {r : Int} {dd : Dk} {row : Option Nat} {Bn : Nat} (h : WrI W w g vb vl r dd A) (hB : W.heap.size ≤ Bn) (hg : A.grownBy B row) (hr : ∀ r, row = some r → Bn ≤ r ∧ ∃ o : Obj, A.heap[r]? = some o ∧ o.isCells = false) : WrI W w g vb vl r dd B := by
  obtain ⟨vl', h1, h2, h3, h4, h5⟩ := h
  exact ⟨vl', h1.grown hB hg hr, h2, h3.grown h1.1 hg hr, grown_cells hg hr h4 rfl, grown_cells hg hr h5 rfl⟩
theorem WrI.size {W w A : World} {g : Nat} {vb vl : Value} {r : Int} {dd : Dk} (h : WrI W w g vb vl r dd A) : w.heap.size + 2 ≤ A.heap.size := by
  obtain ⟨vl', h1, h2, h3, h4, h5⟩ := h
  exact blk_lt h5
theorem WrI.below {W w A B : World} {g : Nat} {vb vl : Value} {r : Int} {dd : Dk} (h : WrI W w g vb vl r dd A) (hb : Below A.heap.size A B) : WrI W w g vb vl r dd B := by
  obtain ⟨vl', h1, h2, h3, h4, h5⟩ := h
  exact ⟨vl', h1.below hb, h2, h3.trans (Rd.of_below hb (h1.foot (Or.inl rfl)).2), blk_below h4 hb, blk_below h5 hb⟩
theorem WrI.wrote {W w A B : World} {g : Nat} {vb vl : Value} {r : Int} {dd dd' : Dk} {vl' vl2 : Value} (h1 : St W A g vb vl' dd) (h2 : ∀ k, Foot g vb vl' k → Foot g vb vl k ∨ w.heap.size + 2 ≤ k) (h3 : Rd g w A) (h4 : A.heap[w.heap.size]? = some (.cells #[.pointer (some ⟨g, 0, none⟩)] 24 (0, 0))) (h5 : A.heap[w.heap.size + 1]? = some (.cells #[.int .i64 r] 29 (0, 0)))
    (hft : ∀ k, Foot g vb vl k → k < w.heap.size) (hs : St W B g vb vl2 dd') (hf : ∀ k, Foot g vb vl2 k → Foot g vb vl' k ∨ A.heap.size ≤ k) (hm : Moved A B (Foot g vb vl')) : WrI W w g vb vl r dd' B :=
  have hsz : w.heap.size + 2 ≤ A.heap.size := blk_lt h5
  ⟨vl2, hs, fun k hk => (hf k hk).elim (h2 k) (fun hl => Or.inr (Nat.le_trans hsz hl)), h3.trans (Rd.of_moved h1.1 hs.1 hm hf),
   hm.block h4 (fun hk => (h2 _ hk).elim (fun hk => by have := hft _ hk; omega) (fun hl => by omega)), hm.block h5 (fun hk => (h2 _ hk).elim (fun hk => by have := hft _ hk; omega) (fun hl => by omega))⟩
theorem WrI.stored {W w A : World} {g : Nat} {vb vl : Value} {r : Int} {dd : Dk} (h : WrI W w g vb vl r dd A) (hWw : W.heap.size ≤ w.heap.size) (hg0 : g < w.heap.size) (hft : ∀ k, Foot g vb vl k → k < w.heap.size) (r' : Int) : WrI W w g vb vl r' dd (A.setCell ⟨w.heap.size + 1, 0, none⟩ (.int .i64 r')) := by
  obtain ⟨vl', h1, h2, h3, h4, h5⟩ := h
  have hn : ∀ k, Foot g vb vl' k → k ≠ w.heap.size + 1 := fun k hk => (h2 _ hk).elim (fun hk => by have := hft _ hk; omega) (fun hl => by omega)
  have hm : Moved A (A.setCell ⟨w.heap.size + 1, 0, none⟩ (.int .i64 r')) (fun k => k = w.heap.size + 1) := Moved.set (S := fun k => k = w.heap.size + 1) rfl _
  refine ⟨vl', h1.moved hm hn (fun k _ hk => by omega), h2, ?_, hm.block h4 (by omega), ?_⟩
  · refine ⟨h3.1, h3.2.1, h3.2.2.1, Nat.le_trans h3.2.2.2.1 hm.2.2.2.1, fun k o hk ho hn => hm.block (h3.2.2.2.2.1 k o hk ho hn) (by have := blk_lt hk; omega), fun k hf => (h3.2.2.2.2.2.1 k (hf.same ((Below.heap_setCell _ _ _ _ (by show g ≠ w.heap.size + 1; omega))))).imp_right (fun hl => ⟨hl.1, Nat.lt_of_lt_of_le hl.2 hm.2.2.2.1⟩), fun _ => ⟨_, _, _, hm.block h1.1.2.1 (by omega)⟩⟩
  · simp [World.setCell, Array.getElem?_modify, h5]
def BoxAt (b : Nat) (c : Array Value) (t : TypeId) (V : World) : Prop := V.heap[b]? = some (.cells c t (0, 0))
theorem write_calls {W w : World} {g : Nat} {vb vl : Value} {d : Dk} {gf : Nat} {lb : Array Value} (h : St W w g vb vl d) (xs : List Pg) (ht : Tells gf lb encPg (Rd g) xs w) (eg : ∀ args w, (callFunc gf args).run Try.prog w = .ok (.enter gf args) w)
    (hlog : (d.log.length + xs.length) * 24 ≤ 140737488355328) : Calls Try.prog 46 #[.pointer (some ⟨g, 0, none⟩), .func (.func gf) #[] lb] w fun e w' => ∃ vl', e = .returned (.int .i64 (doW d xs).2) ∧ St W w' g vb vl' (doW d xs).1 ∧ (∀ k, Foot g vb vl' k → Foot g vb vl k ∨ w.heap.size ≤ k) ∧ Rd g w w' := by
  refine (callsIn_wide (n := 30)).1 ?_
  refine callsIn_of_wp_marks Try.func46 rfl trivial ?_ rfl
  simp only [Try.ntmps46, List.size_toArray, List.length_cons, List.length_nil, Nat.reduceAdd, Nat.reduceSub, Array.replicate_succ, Array.replicate_zero, List.push_toArray, List.append_toArray, List.nil_append, List.cons_append]
  gi_wp2
  obtain ⟨w1, hw1⟩ : ∃ w1, (w.alloc (.cells #[.pointer (some ⟨g, 0, none⟩)] 24)).alloc (.cells #[.int .i64 0] 29) = w1 := ⟨_, rfl⟩
  have hb1 : Below w.heap.size w w1 := by rw [← hw1]; exact ((Below.refl _ w).alloc (Nat.le_refl _) _).alloc (by rw [World.size_alloc]; omega) _
  have hs1 : w1.heap.size = w.heap.size + 1 + 1 := by rw [← hw1, World.size_alloc, World.size_alloc]
  have hc0 : w1.heap[w.heap.size]? = some (.cells #[.pointer (some ⟨g, 0, none⟩)] 24 (0, 0)) := by rw [← hw1]; exact (Below.heap_alloc _ _ _ (by rw [World.size_alloc]; omega)).trans (World.alloc_heap_new w _)
  have hc1 : w1.heap[w.heap.size + 1]? = some (.cells #[.int .i64 0] 29 (0, 0)) := by
    rw [← hw1]
    have := World.alloc_heap_new (w.alloc (.cells #[.pointer (some ⟨g, 0, none⟩)] 24)) (.cells #[.int .i64 0] 29)
    rwa [World.size_alloc] at this
  rw [hw1]
  have h1 : St W w1 g vb vl d := h.below hb1
  have hg0 : g < w.heap.size := (h.foot (Or.inl rfl)).2
  have hr1 : Rd g w w1 := Rd.of_below hb1 hg0
  have hft : ∀ k, Foot g vb vl k → k < w.heap.size := fun k hk => (h.foot hk).2
  have hWw : W.heap.size ≤ w.heap.size := h.2.size
  clear hw1
  refine wp_tells (gf := gf) (lb := lb) (enc := encPg) (Kp := Rd g) (xs := xs) (w0 := w) rfl eg ht (fun h k => h.trans k) (fun W l r r' _ hl => Rd.turn W l r r' hl) hb1
    (fun pre V => (doW d pre).2 = 0 ∧ WrI W w g vb vl 0 (doW d pre).1 V)
    (fun pre V => (doW d pre).2 ≠ 0 ∧ WrI W w g vb vl (doW d pre).2 (doW d pre).1 V)
    ?hI ?hIx ?h0
    (fun x a' V => ∃ Bx, w1.heap.size ≤ Bx ∧ V.heap[Bx]? = some (.cells #[.int .i64 x.at_, .string x.data] 62 (0, 0)) ∧ a' = { tmps := #[Value.pointer (some { block := g, off := 0 }), Value.func (Fn.func gf) #[] lb,
          Value.pointer (some { block := w.heap.size, off := 0 }), undef,
          Value.pointer (some { block := w.heap.size + 1, off := 0 }), Value.pointer (some { block := Bx, off := 0 }), undef, Value.func (Fn.func gf) #[] lb, .agg #[.int .i64 x.at_, .string x.data], undef, undef, undef, undef, undef, undef, undef, undef, undef], defers := [] })
    ?hAx ?assign ?body ?done ?stop
  case hI => exact fun s A B row hs hg hr => ⟨hs.1, hs.2.grown (by omega) hg hr⟩
  case hIx => exact fun s A B row hs hg hr => ⟨hs.1, hs.2.grown (by omega) hg hr⟩
  case h0 => exact ⟨rfl, vl, h1, fun k hk => Or.inl hk, hr1, hc0, hc1⟩
  case hAx => exact fun x a' s A B row hs hg hr => by obtain ⟨Bx, hx, hy, hz⟩ := hs; exact ⟨Bx, hx, grown_cells hg hr hy rfl, hz⟩
  case assign =>
    rintro m l pre x V K hi hK
    unfold encPg
    gi_wp2
    refine hK _ _ ?_ ?_ ?_ ⟨V.heap.size, ?_, ?_, rfl⟩
    · exact (KeepsOthers.alloc _ _).from _
    · exact Rd.of_below (below_alloc (Below.refl _ _) _) (by obtain ⟨_, v, hv, _⟩ := hi; exact (hv.foot (Or.inl rfl)).2)
    · exact ⟨hi.1, hi.2.below (below_alloc (Below.refl _ _) _)⟩
    · have := hi.2.size; omega
    · exact World.alloc_heap_new _ _
  case body =>
    rintro m l pre x a' V hI ⟨Bx, hBx, hx, rfl⟩ hpre
    obtain ⟨h0, vl', hst, hfo, hrd, hb0, hb1'⟩ : (doW d pre).2 = 0 ∧ WrI W w g vb vl 0 (doW d pre).1 V := hI
    have hsn := doW_snoc pre x d h0
    have hll := doW_log pre d
    have hpl : pre.length < xs.length := by obtain ⟨t, rfl⟩ := hpre; simp
    have hlg : ((doW d pre).1.log.length + 1) * 24 ≤ 140737488355328 := by omega
    obtain ⟨D, hD⟩ : ∃ D, D = (doW d pre).1 := ⟨_, rfl⟩
    rw [← hD] at hst hlg hsn
    have z0 : V.cell? ⟨w.heap.size, 0, none⟩ = some (.pointer (some ⟨g, 0, none⟩)) := (blk_cell hb0 0).trans rfl
    have f0 := blk_frozen hb0 0
    have z1 : V.cell? ⟨w.heap.size + 1, 0, none⟩ = some (.int .i64 0) := (blk_cell hb1' 0).trans rfl
    have f1 := blk_frozen hb1' 0
    have x0 : V.cell? ⟨Bx, 0, none⟩ = some (.int .i64 x.at_) := (blk_cell hx 0).trans rfl
    have x1 : V.cell? ⟨Bx, 1, none⟩ = some (.string x.data) := (blk_cell hx 1).trans rfl
    have HS := Aside0.mk hsn
    have HT := Aside0.mk hst
    have HF := Aside0.mk hfo
    have HR := Aside0.mk hrd
    have H0 := Aside0.mk hb0
    have H1 := Aside0.mk hb1'
    have HL := Aside0.mk hlg
    have HFT := Aside0.mk hft
    have HW := Aside0.mk hWw
    have HG := Aside0.mk hg0
    have HS1 := Aside0.mk hs1
    clear hsn hst hfo hrd hb0 hb1' hlg hft hWw hg0 hs1 hD h0 hll hpl hpre hx h ht eg hlog hb1 hc0 hc1 h1 hr1 hBx
    gi_wp2
    refine ⟨trivial, fun hh => by simp [Fence.wide] at hh, ?_⟩
    refine (CallsIn.inRound l (callsIn_wide.2 (Write_st x.at_ x.data HT.out HL.out))).mono ?_
    rintro e w' ⟨vl2, rfl, hs, hf, hm⟩
    have W2 := Aside0.mk (WrI.wrote HT.out HF.out HR.out H0.out H1.out HFT.out hs hf hm)
    have R2 := Aside0.mk (Rd.of_moved HT.out.1 hs.1 hm hf)
    have K2 : Aside0 (KeepsFrom w1.heap.size V w') := ⟨KeepsFrom.of_moved HT.out.1 hm⟩
    have z1' : w'.cell? ⟨w.heap.size + 1, 0, none⟩ = some (.int .i64 0) := by obtain ⟨_, _, _, _, _, h5⟩ := W2.out; exact (blk_cell h5 0).trans rfl
    have f1' : w'.frozen? ⟨w.heap.size + 1, 0, none⟩ = false := by obtain ⟨_, _, _, _, _, h5⟩ := W2.out; exact blk_frozen h5 0
    clear hs hf hm z0 f0 z1 f1 x0 x1
    gi_wp2
    · refine ⟨K2.out.trans ((KeepsOthers.setCell _ _ _).from _), ?_, ?_⟩
      · show (doW d (pre ++ [x])).2 ≠ 0
        rw [HS.out]
        intro e
        simp [e] at *
      · show WrI W w g vb vl (doW d (pre ++ [x])).2 (doW d (pre ++ [x])).1 _
        rw [HS.out]
        exact W2.out.stored HW.out HG.out HFT.out _
    · have e0 : (writeD D x.at_ x.data).2 = 0 := by
        rcases Int.decEq (writeD D x.at_ x.data).2 0 with e | e
        · simp [e] at *
        · exact e
      exact ⟨K2.out, R2.out, by show (doW d (pre ++ [x])).2 = 0; rw [HS.out]; exact e0, by show WrI W w g vb vl 0 (doW d (pre ++ [x])).1 _; rw [HS.out]; exact W2.out⟩
  case done =>
    rintro D V hD hI hK
    obtain ⟨h0, vl', hst, hfo, hrd, hb0, hb1'⟩ : (doW d xs).2 = 0 ∧ WrI W w g vb vl 0 (doW d xs).1 V := hI
    have z1 : V.cell? ⟨w.heap.size + 1, 0, none⟩ = some (.int .i64 0) := (blk_cell hb1' 0).trans rfl
    have f1 := blk_frozen hb1' 0
    gi_wp2
    have hW0 := (show WrI W w g vb vl 0 (doW d xs).1 V from ⟨vl', hst, hfo, hrd, hb0, hb1'⟩).stored hWw hg0 hft 0
    have hK' := (KeepsOthers.setCell V ⟨w.heap.size + 1, 0, none⟩ (.int .i64 0)).same D _ hK rfl
    refine ⟨by simp, .inl ⟨_, _, rfl, run_takeDeferred hK', ?_⟩⟩
    obtain ⟨vl2, t1, t2, t3, t4, t5⟩ := hW0.grown (Bn := w1.heap.size) (by omega) (grownBy_putObj' _ D (.deferred none)) (fun r e => by cases e; exact ⟨hD, _, hK', rfl⟩)
    refine ⟨_, ?_, vl2, by rw [h0], t1, fun k hk => (t2 k hk).imp_right (fun hl => by omega), t3⟩
    have c5 := (blk_cell t5 0).trans rfl
    have hr46 : Try.f46.results = #[.cell 4 29] := rfl
    have hs29 := Try.sizeOf29
    have hu29 := Try.underlying29
    unfold results
    simp [hr46, go_sem, c5, hs29, hu29]
  case stop =>
    rintro D pre V hD hpre hI hK
    obtain ⟨h0, vl', hst, hfo, hrd, hb0, hb1'⟩ : (doW d pre).2 ≠ 0 ∧ WrI W w g vb vl (doW d pre).2 (doW d pre).1 V := hI
    have z1 : V.cell? ⟨w.heap.size + 1, 0, none⟩ = some (.int .i64 (doW d pre).2) := (blk_cell hb1' 0).trans rfl
    have f1 := blk_frozen hb1' 0
    gi_wp2
    have hW0 : WrI W w g vb vl (doW d pre).2 (doW d pre).1 V := ⟨vl', hst, hfo, hrd, hb0, hb1'⟩
    refine ⟨by simp, .inl ⟨_, _, rfl, run_takeDeferred hK, ?_⟩⟩
    obtain ⟨vl2, t1, t2, t3, t4, t5⟩ := hW0.grown (Bn := w1.heap.size) (by omega) (grownBy_putObj' _ D (.deferred none)) (fun r e => by cases e; exact ⟨hD, _, hK, rfl⟩)
    obtain ⟨ys, rfl⟩ := hpre
    rw [doW_stop pre d ys h0]
    refine ⟨_, ?_, vl2, rfl, t1, fun k hk => (t2 k hk).imp_right (fun hl => by omega), t3⟩
    have c5 := (blk_cell t5 0).trans rfl
    have hr46 : Try.f46.results = #[.cell 4 29] := rfl
    have hs29 := Try.sizeOf29
    have hu29 := Try.underlying29
    unfold results
    simp [hr46, go_sem, c5, hs29, hu29]
end Go.Proofs.Ytgageigcjeaenaa.Disk
