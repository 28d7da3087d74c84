/- What is handed in stays, what is answered is new memory: the walk over the printed contracts. No condition beside the sizes that an argument can have. -/
import Derived.Test.YtdieanikopjbjaaQSlotBkEv
import Derived.WalkLawsBesides
import Derived.WalkSpells
import Derived.LoopN
namespace Go.Proofs.Ytdieanikopjbjaa.QSlotBk
open Go.RowKit Go.Proofs.YtdieanikopjbjaaW.PrintWords Go.Proofs.YtdieanikopjbjaaW.PrintLast Go.Proofs.YtdieanikopjbjaaW.PrintMore Go.Proofs.Ytdieanikopjbjaa.MixBase Go.Proofs.Ytdieanikopjbjaa.MixPlain Go.Proofs.Ytdieanikopjbjaa.NumBase Go.Proofs.Ytdieanikopjbjaa.PadPlain
attribute [local go_sem] max2_int min2_int max_two min_two max_three min_three max_four min_four
attribute [local go_sem high] StepStr.leq_str StepStr.gtr_str
set_option linter.unusedVariables false
set_option linter.unusedSimpArgs false
theorem samenodes_all (l : List S76) (d x : Int) (hl : l.length ≤ 1000000000000000000) (m : Nat) (hm : ∀ n ∈ l, n.f2.length ≤ m) (hm1 : m ≤ 1000000000000000000) (k : Nat) (hk : l.length + m + 1 < k) : aumbryref15_Same.f k d x l d x l = some true := by
  have e := samenodes_l0 l hl m hm hm1 l.length k 0 (by omega) hk
  rw [show ((0 : Nat) : Int) = 0 from rfl] at e
  unfold aumbryref15_Same.f aumbryref15_SameNodes.f
  rw [if_pos rfl, if_pos rfl, if_pos rfl, e]
  rfl
theorem pack_none {d x : Int} {l : List S76} (h : (packSpec d x l).2 ≠ 0) : (packSpec d x l).1 = ⟨#[]⟩ := by
  unfold packSpec at *
  split
  · rfl
  · split
    · rfl
    · split
      · rename_i h1 h2 h3
        rw [if_neg h1, if_neg h2, if_pos h3] at h
        exact absurd rfl h
      · rfl
/-- A node's kids, as they lie: none, or a row in a block between lo and hi. -/
def KidAt (w : World) (lo hi : Nat) (v : Value) : Prop := v = .slice none 0 0 ∨ ∃ (g n cap : Nat) (cs : Array Value), v = .slice (some ⟨g, 0, none⟩) n cap ∧ lo ≤ g ∧ g < hi ∧ n ≤ maxLen ∧ w.heap[g]? = some (.cells cs 55 (0, 0)) ∧ ∀ j, j < n → ∃ u, cs[j]? = some u
/-- A row of nodes, as it lies: each node's kids told. -/
def Shape (w : World) (gx lo hi : Nat) (vs : List Value) : Prop := (lo ≤ gx ∧ gx < hi) ∧ ∃ cs : Array Value, w.heap[gx]? = some (.cells cs 76 (0, 0)) ∧ ∀ i v, vs[i]? = some v → (∃ u, cs[i * 6 + 1]? = some u) ∧ cs[i * 6 + 2]? = some v ∧ KidAt w lo hi v
theorem kidAt_far {w : World} {lo hi : Nat} {v : Value} (h : KidAt w lo hi v) {g t : Nat} {cs : Array Value} (hg : w.heap[g]? = some (.cells cs t (0, 0))) (j : Nat) (u : Value) : KidAt (w.setCell ⟨g, j, none⟩ u) lo hi v := by
  rcases h with h | ⟨g', n, cap, cs', e, h1, h2, h3, h4, h5⟩
  · exact Or.inl h
  · by_cases hgg : g' = g
    · subst hgg
      rw [h4] at hg
      injection hg with hg
      injection hg with hg ht
      subst hg
      refine Or.inr ⟨g', n, cap, cs'.setIfInBounds j u, e, h1, h2, h3, blk_put h4 j u rfl, fun q hq => ?_⟩
      obtain ⟨y, hy⟩ := h5 q hq
      have hlt := (Array.getElem?_eq_some_iff.1 hy).1
      exact ⟨_, Array.getElem?_eq_getElem (by simpa using hlt)⟩
    · exact Or.inr ⟨g', n, cap, cs', e, h1, h2, h3, nblk_far hgg h4 u, h5⟩
theorem shape_kid {w : World} {gx lo hi : Nat} {vs : List Value} (h : Shape w gx lo hi vs) {g : Nat} {cs : Array Value} (hg : w.heap[g]? = some (.cells cs 55 (0, 0))) (j : Nat) (u : Value) : Shape (w.setCell ⟨g, j, none⟩ u) gx lo hi vs := by
  obtain ⟨hb, ds, h1, h2⟩ := h
  have hne : gx ≠ g := blk_ne h1 hg (by decide)
  exact ⟨hb, ds, nblk_far hne h1 u, fun i v hv => ⟨(h2 i v hv).1, (h2 i v hv).2.1, kidAt_far (h2 i v hv).2.2 hg j u⟩⟩
theorem shape_name {w : World} {gx lo hi : Nat} {vs : List Value} (h : Shape w gx lo hi vs) (i : Nat) (u : Value) : Shape (w.setCell ⟨gx, i * 6 + 1, none⟩ u) gx lo hi vs := by
  obtain ⟨hb, ds, h1, h2⟩ := h
  refine ⟨hb, ds.setIfInBounds (i * 6 + 1) u, blk_put h1 _ u rfl, fun q v hv => ?_⟩
  obtain ⟨⟨y, hy⟩, h3, h4⟩ := h2 q v hv
  have hlt := (Array.getElem?_eq_some_iff.1 hy).1
  refine ⟨⟨_, Array.getElem?_eq_getElem (by simpa using hlt)⟩, ?_, kidAt_far h4 h1 _ u⟩
  rw [Array.getElem?_setIfInBounds_ne (by omega)]
  exact h3
theorem shape_below {w w' : World} {gx lo hi : Nat} {vs : List Value} (h : Shape w gx lo hi vs) (hb : Below w.heap.size w w') : Shape w' gx lo hi vs := by
  obtain ⟨hx, ds, h1, h2⟩ := h
  refine ⟨hx, ds, blk_below h1 hb, fun i v hv => ⟨(h2 i v hv).1, (h2 i v hv).2.1, ?_⟩⟩
  rcases (h2 i v hv).2.2 with h | ⟨g', n, cap, cs', e, k1, k2, k3, k4, k5⟩
  · exact Or.inl h
  · exact Or.inr ⟨g', n, cap, cs', e, k1, k2, k3, blk_below k4 hb, k5⟩
theorem shape_far {w : World} {gx lo hi : Nat} {vs : List Value} (h : Shape w gx lo hi vs) {g t : Nat} {cs : Array Value} (hg : w.heap[g]? = some (.cells cs t (0, 0))) (ht : t ≠ 76) (j : Nat) (u : Value) : Shape (w.setCell ⟨g, j, none⟩ u) gx lo hi vs := by
  obtain ⟨hb, ds, h1, h2⟩ := h
  have hne : gx ≠ g := blk_ne h1 hg (fun e => ht e.symm)
  exact ⟨hb, ds, nblk_far hne h1 u, fun i v hv => ⟨(h2 i v hv).1, (h2 i v hv).2.1, kidAt_far (h2 i v hv).2.2 hg j u⟩⟩
/-- A list of nodes of the call's own, as it lies. -/
theorem shape_of {w : World} {base : Nat} {ok : Nat → Prop} {v : Value} {l : List S76} (h : Kd.S k76 76 w base ok v l) (hl : 0 < l.length) :
    ∃ (gx cap : Nat) (vs : List Value), v = .slice (some ⟨gx, 0, none⟩) l.length cap ∧ vs.length = l.length ∧ l.length ≤ maxLen ∧ Shape w gx base w.heap.size vs := by
  obtain ⟨gx, cap, e, hb, hlt, cells, hc⟩ := Kd.S_form h hl
  subst e
  have hm : l.length ≤ maxLen := by
    obtain ⟨inner, ho⟩ := Kd.S_own h
    rcases ho.2 with ⟨h1, h2⟩ | ⟨g, cp, cur, h1, _, _, h2, h3, _⟩
    · omega
    · omega
  have key : ∀ i, i < l.length → ∃ v, (∃ u, cells[i * 6 + 1]? = some u) ∧ cells[i * 6 + 2]? = some v ∧ KidAt w base w.heap.size v := by
    intro i hi
    obtain ⟨cs, _, hM, hcell⟩ := Kd.S_get h z76 (i : Int) (by omega) (by omega)
    obtain ⟨v2, rfl, hR⟩ := k76_openM hM
    have h1 := hcell 1 _ rfl
    have h2 := hcell 2 _ rfl
    have e1 : (⟨gx, 0, none⟩ : Addr).add (((i : Int)).toNat * k76.sz + 1) = ⟨gx, i * 6 + 1, none⟩ := by
      rw [show k76.sz = 6 from rfl, show ((i : Int)).toNat = i by omega]
      simp [Addr.add]
    have e2 : (⟨gx, 0, none⟩ : Addr).add (((i : Int)).toNat * k76.sz + 2) = ⟨gx, i * 6 + 2, none⟩ := by
      rw [show k76.sz = 6 from rfl, show ((i : Int)).toNat = i by omega]
      simp [Addr.add]
    rw [e1, blk_cell hc] at h1
    rw [e2, blk_cell hc] at h2
    refine ⟨v2, ⟨_, h1⟩, h2, ?_⟩
    obtain ⟨inner, ho⟩ := Kd.R_own hR
    rcases ho.2 with ⟨h1, h2⟩ | ⟨g, cp, cur, h3, h4, h5, h6, h7, h8, _⟩
    · exact Or.inl h1
    · refine Or.inr ⟨g, _, cp, cur, h3, h4, blk_lt h5, by omega, h5, fun j hj => ⟨_, Array.getElem?_eq_getElem (by rw [h8, show (Kd.int .u64).sz = 1 from rfl]; omega)⟩⟩
  have all : ∀ n, n ≤ l.length → ∃ vs : List Value, vs.length = n ∧ ∀ i v, vs[i]? = some v → (∃ u, cells[i * 6 + 1]? = some u) ∧ cells[i * 6 + 2]? = some v ∧ KidAt w base w.heap.size v := by
    intro n
    induction n with
    | zero => intro _; exact ⟨[], rfl, fun i v h => by simp at h⟩
    | succ n ih =>
      intro hn
      obtain ⟨vs, h1, h2⟩ := ih (by omega)
      obtain ⟨v, hv⟩ := key n (by omega)
      refine ⟨vs ++ [v], by rw [List.length_append, h1]; rfl, fun i u hi => ?_⟩
      rcases Nat.lt_or_ge i vs.length with h3 | h3
      · rw [List.getElem?_append_left h3] at hi
        exact h2 i u hi
      · have h4 := (List.getElem?_eq_some_iff.1 hi).1
        rw [List.length_append, List.length_singleton] at h4
        obtain rfl : i = vs.length := by omega
        simp at hi
        subst hi
        rw [h1]
        exact hv
  obtain ⟨vs, h1, h2⟩ := all l.length (Nat.le_refl _)
  exact ⟨gx, cap, vs, rfl, h1, hm, ⟨hb, hlt⟩, cells, hc, h2⟩
section
variable {w w0 : World} {g : Nat} {cs : Array Value} {B : Nat}
def put3 (w : World) (g : Nat) (x0 x1 x2 : Value) : World := ((w.setCell ⟨g, 0, none⟩ x0).setCell ⟨g, 1, none⟩ x1).setCell ⟨g, 2, none⟩ x2
theorem blk_put3 {y0 y1 y2 : Value} (h : w.heap[g]? = some (.cells #[y0, y1, y2] 64 (0, 0))) (x0 x1 x2 : Value) : (put3 w g x0 x1 x2).heap[g]? = some (.cells #[x0, x1, x2] 64 (0, 0)) := blk_put (blk_put (blk_put h 0 x0 rfl) 1 x1 rfl) 2 x2 rfl
theorem blk_other3 {g' : Nat} {o : Obj} (hg : g' ≠ g) (h : w.heap[g']? = some o) (x0 x1 x2 : Value) : (put3 w g x0 x1 x2).heap[g']? = some o := nblk_far hg (nblk_far hg (nblk_far hg h x0) x1) x2
theorem below_put3 (hB : B ≤ g) (h : Below B w0 w) (x0 x1 x2 : Value) : Below B w0 (put3 w g x0 x1 x2) := nbelow_far hB (nbelow_far hB (nbelow_far hB h x0) x1) x2
theorem S_put3 {base : Nat} {ok : Nat → Prop} {v : Value} {l : List S76} (h : Kd.S k76 76 w base ok v l) (hb : w.heap[g]? = some (.cells cs 64 (0, 0))) (x0 x1 x2 : Value) : Kd.S k76 76 (put3 w g x0 x1 x2) base ok v l :=
  Kd.S_mono (Kd.S_far (p := ⟨g, 2, none⟩) (Kd.S_far (p := ⟨g, 1, none⟩) (Kd.S_far (p := ⟨g, 0, none⟩) (Kd.S_types h hb (by decide)) (fun _ hk => hk.2) x0) (fun _ hk => hk.2) x1) (fun _ hk => hk.2) x2) (fun _ hk => hk.1)
end
theorem kidAt_slice {w : World} {lo hi : Nat} {v : Value} (h : KidAt w lo hi v) : ∃ (Ak : Option Addr) (nk ck g : Nat), v = .slice Ak nk ck ∧ nk ≤ maxLen ∧ (0 < nk → Ak = some ⟨g, 0, none⟩) := by
  rcases h with rfl | ⟨g, n, cap, cs, rfl, h1, h2, h3, h4, h5⟩
  · exact ⟨none, 0, 0, 0, rfl, Nat.zero_le _, fun h => absurd h (by omega)⟩
  · exact ⟨some ⟨g, 0, none⟩, n, cap, g, rfl, h3, fun _ => rfl⟩
theorem kidAt_cell {w : World} {lo hi g nk ck : Nat} (h : KidAt w lo hi (.slice (some ⟨g, 0, none⟩) nk ck)) : lo ≤ g ∧ g < hi ∧ ∃ cs : Array Value, w.heap[g]? = some (.cells cs 55 (0, 0)) ∧ ∀ j, j < nk → ∃ u, cs[j]? = some u := by
  rcases h with h | ⟨g', n, cap, cs, h0, h1, h2, h3, h4, h5⟩
  · cases h
  · cases h0
    exact ⟨h1, h2, cs, h4, h5⟩
/-- The row of x, as it lies: where it begins and its nodes' kids, once there is a node. -/
theorem shape_any {w : World} {base : Nat} {ok : Nat → Prop} {Ax : Option Addr} {n cx : Nat} {l : List S76} (h : Kd.S k76 76 w base ok (.slice Ax n cx) l) : ∃ (gx : Nat) (vs : List Value), n = l.length ∧ (0 < n → Ax = some ⟨gx, 0, none⟩ ∧ vs.length = n ∧ n ≤ maxLen ∧ Shape w gx base w.heap.size vs) := by
  by_cases hl : 0 < l.length
  · obtain ⟨gx, cap, vs, e, h1, h2, h3⟩ := shape_of h hl
    injection e with e1 e2 e3
    subst e1 e2 e3
    exact ⟨gx, vs, rfl, fun _ => ⟨rfl, h1, h2, h3⟩⟩
  · have hn := (Kd.S_reads' h).1
    exact ⟨0, [], hn, fun hh => absurd hh (by omega)⟩
set_option maxHeartbeats 4000000 in
set_option maxRecDepth 100000 in
theorem SlotOwn_walk (a x : Int) (A : Option Addr) (c : Nat) (l : List S76) (W : World) (hC : Kd.C k76 W A l.length l) (hc : l.length ≤ c) (hin : ∀ n ∈ l, InNode n) (hl : l.length * 72 ≤ 140737488351232) :
    Calls Try.prog 13 #[.agg #[.int .i64 a, .int .i64 x, .slice A l.length c]] W fun e W' => e = .returned (.bool true) ∧ Below W.heap.size W W' := by
  have hu64 := Try.underlying64
  have hu76 := Try.underlying76
  obtain ⟨hlen, hok2⟩ := nodesOk_of hin hl
  have hok : ∀ n ∈ l, NodeOk n := fun n hn => (hok2 n hn).1
  obtain ⟨m, hm⟩ := nodes_max l
  have hkm : ∀ n ∈ l, n.f2.length ≤ 17592186044416 := fun n hn => Nat.le_of_lt (hok2 n hn).2
  obtain ⟨k, hk⟩ : ∃ k, k = m + l.length + 17592186044416 + 700 := ⟨_, rfl⟩
  have C1 := Aside0.mk (wakes_f k (by omega))
  have C2 := Aside0.mk (copy_f l a x hlen (fun n hn => (hok2 n hn).2) k (by omega))
  have C3' := pack_f a x l hok k (by omega) (fun n hn => by have := hm n hn; omega)
  have C4 := Aside0.mk (samenodes_all l a x (by omega) 17592186044416 hkm (by omega) k (by omega))
  have hbad := @pack_none a x l
  have hgood := fun (s : ByteArray) (h : packSpec a x l = (s, 0)) => unpack_back h hok k (by omega)
  rcases hps : packSpec a x l with ⟨s, e⟩
  rw [hps] at C3' hbad
  have C3 := Aside0.mk C3'
  have HR := Aside0.mk hC
  have HC := Aside0.mk hc
  have HB := Aside0.mk (Below.refl W.heap.size W)
  have HLen := Aside0.mk hlen
  clear C3' hC hin hl hlen hok2 hm hkm hok hk
  by_cases he : e = 0
  case neg =>
    have hs0 := hbad he
    simp only at hs0
    subst hs0
    have heb : (e != 0) = true := bne_iff_ne.2 he
    clear hbad hgood he hps
    go_enter Try.func13, Try.ntmps13
    go_wp2_with (first
      | ((with_reducible refine gate_dst (N := 1) rfl ?_); refine box_event ?hg (N := 1) ?hd (cs := #[.int .i64 a, .int .i64 x, .slice A l.length c]) (t := 64) ?hr ?_; (case hd => rfl); (case hg => rfl); (case hr => first | (go_simp; done) | (go_simp; rfl)); intro g1 hg w1 hbox hb; have B1 := Aside0.mk hbox; have G1 : W.heap.size ≤ g1 := Nat.le_of_eq hg.symm; have HB1 := Aside0.mk (below_step HB.out hb); clear hbox hb hg)
      | (go_at_call 29; refine (aumbrylaw15_wakes.calls k true _ C1.out).mono ?_; rintro e2 w2 ⟨rfl, hb⟩; have B2 := Aside0.mk (blk_below B1.out hb); have HB2 := Aside0.mk (below_step HB1.out hb); clear hb; have q0 := (blk_cell B2.out 0).trans rfl; have q1 := (blk_cell B2.out 1).trans rfl; have q2 := (blk_cell B2.out 2).trans rfl)
      | (go_at_call 37; refine (aumbryref15_Copy.calls k a x A c l a x l _ (Kd.C_below HR.out HB2.out) HC.out C2.out).mono ?_; rintro e3 w3 ⟨vin, rfl, hin, hb⟩; have HI := Aside0.mk hin; have B3 := Aside0.mk (blk_below B2.out hb); have HB3 := Aside0.mk (below_step HB2.out hb); clear hb hin q0 q1 q2)
      | ((with_reducible refine gate_dst (N := 3) rfl ?_); refine box_event ?hg (N := 3) ?hd (cs := #[.int .i64 0, .int .i64 0, .slice none 0 0]) (t := 64) ?hr ?_; (case hd => rfl); (case hg => rfl); (case hr => first | (go_simp; done) | (go_simp; rfl)); intro g3 hg w4 hbox hb; have B4 := Aside0.mk (blk_below B3.out hb); have I4 := Aside0.mk hbox; have HI4 := Aside0.mk (Kd.S_below HI.out hb); have HB4 := Aside0.mk (below_step HB3.out hb); have N13 : g1 ≠ g3 := (by have := blk_lt B3.out; omega); have G3 : W.heap.size ≤ g3 := (by rw [hg]; exact below_size HB3.out); clear hb hbox hg; have z0 := (blk_cell I4.out 0).trans rfl; have z1 := (blk_cell I4.out 1).trans rfl; have z2 := (blk_cell I4.out 2).trans rfl; have f0 := blk_frozen I4.out 0; have f1 := blk_frozen I4.out 1; have f2 := blk_frozen I4.out 2; obtain ⟨Ai, ci, ei⟩ := Kd.S_slice HI4.out; subst ei)
      | (go_at_call 36; refine (slot_Pack.calls k a x Ai ci l _ _ _ (Kd.S_reads' (S_put3 HI4.out I4.out (.int .i64 a) (.int .i64 x) (.slice Ai l.length ci))).2.2 (Kd.S_reads' HI4.out).2.1 C3.out).mono ?_; rintro e4 w6 ⟨rfl, hb⟩; have B6 := Aside0.mk (blk_below (blk_other3 N13 B4.out (.int .i64 a) (.int .i64 x) (.slice Ai l.length ci)) hb); have I6 := Aside0.mk (blk_below (blk_put3 I4.out (.int .i64 a) (.int .i64 x) (.slice Ai l.length ci)) hb); have HI6 := Aside0.mk (Kd.S_below (S_put3 HI4.out I4.out (.int .i64 a) (.int .i64 x) (.slice Ai l.length ci)) hb); have HB6 := Aside0.mk (below_step (below_put3 G3 HB4.out (.int .i64 a) (.int .i64 x) (.slice Ai l.length ci)) hb); clear hb z0 z1 z2 f0 f1 f2; have q0 := (blk_cell B6.out 0).trans rfl; have q1 := (blk_cell B6.out 1).trans rfl; have q2 := (blk_cell B6.out 2).trans rfl; have r0 := (blk_cell I6.out 0).trans rfl; have r1 := (blk_cell I6.out 1).trans rfl; have r2 := (blk_cell I6.out 2).trans rfl)
      | (go_at_call 41; refine (aumbryref15_Same.calls k a x Ai ci l a x A c l true _ (Kd.S_reads' HI6.out).2.2 (Kd.S_reads' HI6.out).2.1 (Kd.C_below HR.out HB6.out) HC.out C4.out).mono ?_; rintro e5 w7 ⟨rfl, hb⟩; have B7 := Aside0.mk (blk_below B6.out hb); have HB7 := Aside0.mk (below_step HB6.out hb); clear hb))
    go_ret
    exact ⟨by first | rfl | simp, HB7.out⟩
  case pos =>
    subst he
    have C5 := Aside0.mk (hgood s hps)
    clear hbad hgood hps
    go_enter Try.func13, Try.ntmps13
    go_wp2_with (first
      | ((with_reducible refine gate_dst (N := 1) rfl ?_); refine box_event ?hg (N := 1) ?hd (cs := #[.int .i64 a, .int .i64 x, .slice A l.length c]) (t := 64) ?hr ?_; (case hd => rfl); (case hg => rfl); (case hr => first | (go_simp; done) | (go_simp; rfl)); intro g1 hg w1 hbox hb; have B1 := Aside0.mk hbox; have G1 : W.heap.size ≤ g1 := Nat.le_of_eq hg.symm; have HB1 := Aside0.mk (below_step HB.out hb); clear hbox hb hg)
      | (go_at_call 29; refine (aumbrylaw15_wakes.calls k true _ C1.out).mono ?_; rintro e2 w2 ⟨rfl, hb⟩; have B2 := Aside0.mk (blk_below B1.out hb); have HB2 := Aside0.mk (below_step HB1.out hb); clear hb; have q0 := (blk_cell B2.out 0).trans rfl; have q1 := (blk_cell B2.out 1).trans rfl; have q2 := (blk_cell B2.out 2).trans rfl)
      | (go_at_call 37; refine (aumbryref15_Copy.calls k a x A c l a x l _ (Kd.C_below HR.out HB2.out) HC.out C2.out).mono ?_; rintro e3 w3 ⟨vin, rfl, hin, hb⟩; have HI := Aside0.mk hin; have B3 := Aside0.mk (blk_below B2.out hb); have HB3 := Aside0.mk (below_step HB2.out hb); clear hb hin q0 q1 q2)
      | ((with_reducible refine gate_dst (N := 3) rfl ?_); refine box_event ?hg (N := 3) ?hd (cs := #[.int .i64 0, .int .i64 0, .slice none 0 0]) (t := 64) ?hr ?_; (case hd => rfl); (case hg => rfl); (case hr => first | (go_simp; done) | (go_simp; rfl)); intro g3 hg w4 hbox hb; have B4 := Aside0.mk (blk_below B3.out hb); have I4 := Aside0.mk hbox; have HI4 := Aside0.mk (Kd.S_below HI.out hb); have HB4 := Aside0.mk (below_step HB3.out hb); have N13 : g1 ≠ g3 := (by have := blk_lt B3.out; omega); have G3 : W.heap.size ≤ g3 := (by rw [hg]; exact below_size HB3.out); clear hb hbox hg; have z0 := (blk_cell I4.out 0).trans rfl; have z1 := (blk_cell I4.out 1).trans rfl; have z2 := (blk_cell I4.out 2).trans rfl; have f0 := blk_frozen I4.out 0; have f1 := blk_frozen I4.out 1; have f2 := blk_frozen I4.out 2; obtain ⟨Ai, ci, ei⟩ := Kd.S_slice HI4.out; subst ei)
      | (go_at_call 36; refine (slot_Pack.calls k a x Ai ci l _ _ _ (Kd.S_reads' (S_put3 HI4.out I4.out (.int .i64 a) (.int .i64 x) (.slice Ai l.length ci))).2.2 (Kd.S_reads' HI4.out).2.1 C3.out).mono ?_; rintro e4 w6 ⟨rfl, hb⟩; have B6 := Aside0.mk (blk_below (blk_other3 N13 B4.out (.int .i64 a) (.int .i64 x) (.slice Ai l.length ci)) hb); have I6 := Aside0.mk (blk_below (blk_put3 I4.out (.int .i64 a) (.int .i64 x) (.slice Ai l.length ci)) hb); have HI6 := Aside0.mk (Kd.S_below (S_put3 HI4.out I4.out (.int .i64 a) (.int .i64 x) (.slice Ai l.length ci)) hb); have HB6 := Aside0.mk (below_step (below_put3 G3 HB4.out (.int .i64 a) (.int .i64 x) (.slice Ai l.length ci)) hb); clear hb z0 z1 z2 f0 f1 f2; have q0 := (blk_cell B6.out 0).trans rfl; have q1 := (blk_cell B6.out 1).trans rfl; have q2 := (blk_cell B6.out 2).trans rfl; have r0 := (blk_cell I6.out 0).trans rfl; have r1 := (blk_cell I6.out 1).trans rfl; have r2 := (blk_cell I6.out 2).trans rfl)
      | (go_at_call 41; refine (aumbryref15_Same.calls k a x Ai ci l a x A c l true _ (Kd.S_reads' HI6.out).2.2 (Kd.S_reads' HI6.out).2.1 (Kd.C_below HR.out HB6.out) HC.out C4.out).mono ?_; rintro e5 w7 ⟨rfl, hb⟩; have B7 := Aside0.mk (blk_below B6.out hb); have HB7 := Aside0.mk (below_step HB6.out hb); clear hb)
      | (go_at_call 39; (first
          | (refine (slot_Unpack.calls k s a x l 0 _ C5.out).mono ?_; rintro e6 w8 ⟨vx, rfl, hx, hb⟩; have X8 := Aside0.mk hx; have B8 := Aside0.mk (blk_below B7.out hb); have HB8 := Aside0.mk (below_step HB7.out hb); have HL8 := Aside0.mk (below_size HB7.out); clear hb hx q0 q1 q2 r0 r1 r2; obtain ⟨Ax, cx, ex⟩ := Kd.S_slice X8.out; subst ex)
          | (refine (slot_Unpack.calls k s a x l 0 _ C5.out).mono ?_; rintro e7 w9 ⟨vy, rfl, hy, hb⟩; obtain ⟨Ay, cy, ey⟩ := Kd.S_slice hy; subst ey; have BX9 := Aside0.mk (blk_alloc (blk_below (blk_new w8 (.cells #[.int .i64 a, .int .i64 x, .slice Ax l.length cx] 64 (0, 0))) hb) (.cells #[.int .i64 a, .int .i64 x, .slice Ay l.length cy] 64 (0, 0))); have BY9 := Aside0.mk (blk_new w9 (.cells #[.int .i64 a, .int .i64 x, .slice Ay l.length cy] 64 (0, 0))); have B9 := Aside0.mk (blk_alloc (blk_below (blk_alloc B8.out (.cells #[.int .i64 a, .int .i64 x, .slice Ax l.length cx] 64 (0, 0))) hb) (.cells #[.int .i64 a, .int .i64 x, .slice Ay l.length cy] 64 (0, 0))); have HB9 := Aside0.mk (below_alloc (below_step (below_alloc HB8.out (.cells #[.int .i64 a, .int .i64 x, .slice Ax l.length cx] 64 (0, 0))) hb) (.cells #[.int .i64 a, .int .i64 x, .slice Ay l.length cy] 64 (0, 0))); obtain ⟨gx, vs, _, hsh⟩ := shape_any X8.out; have HS9 : Aside0 (0 < l.length → Ax = some ⟨gx, 0, none⟩ ∧ vs.length = l.length ∧ l.length ≤ maxLen ∧ Shape (w9.alloc (.cells #[.int .i64 a, .int .i64 x, .slice Ay l.length cy] 64 (0, 0))) gx w7.heap.size w8.heap.size vs) := ⟨fun h => ⟨(hsh h).1, (hsh h).2.1, (hsh h).2.2.1, shape_below (shape_below (shape_below (hsh h).2.2.2 (below_alloc (Below.refl _ _) _)) hb) (below_alloc (Below.refl _ _) _)⟩⟩; have HY9 := Aside0.mk (Kd.S_lower (base' := 0) (Kd.S_alloc (Kd.S_mono (Kd.S_bound hy) (ok' := fun k => w8.heap.size < k) (fun k hk => by have := hk.2.1; rw [World.size_alloc] at this; omega)) (.cells #[.int .i64 a, .int .i64 x, .slice Ay l.length cy] 64 (0, 0))) (Nat.zero_le _)); have u2 := (blk_cell BX9.out 2).trans rfl; clear hb hy hsh))))
    go_loopg [42] l.length (fun kq v42 wr => ∃ (i : Nat), v42 = .int .i64 (i : Int) ∧ i ≤ l.length ∧ Aside0 (kq = l.length - i) ∧ Aside0 (0 < l.length → Ax = some ⟨gx, 0, none⟩ ∧ vs.length = l.length ∧ l.length ≤ maxLen ∧ Shape wr gx w7.heap.size w8.heap.size vs) ∧ Aside0 (wr.heap[w8.heap.size]? = some (.cells #[.int .i64 a, .int .i64 x, .slice Ax l.length cx] 64 (0, 0))) ∧ Aside0 (wr.heap[w9.heap.size]? = some (.cells #[.int .i64 a, .int .i64 x, .slice Ay l.length cy] 64 (0, 0))) ∧ Aside0 (wr.heap[g1]? = some (.cells #[.int .i64 a, .int .i64 x, .slice A l.length c] 64 (0, 0))) ∧ Aside0 (Kd.S k76 76 wr 0 (fun k => w8.heap.size < k) (.slice Ay l.length cy) l) ∧ Aside0 (Below W.heap.size W wr))
    case atStart => exact ⟨0, rfl, Nat.zero_le _, ⟨rfl⟩, HS9, BX9, BY9, B9, HY9, HB9⟩
    case round =>
      clear HS9 BX9 BY9 B9 HY9 HB9 u2
      obtain ⟨i, rfl, hi, hkq, HS, BX, BY, B0, HY, HBr⟩ := hrel
      by_cases hil : i < l.length
      · obtain ⟨hAx, hvl, hmx, hsh⟩ := HS.out (by omega)
        subst hAx
        obtain ⟨v, hv⟩ : ∃ v, vs[i]? = some v := ⟨_, List.getElem?_eq_getElem (by omega)⟩
        obtain ⟨cs, hcs, hat⟩ := hsh.2
        obtain ⟨_, hv2, hka⟩ := hat i v hv
        obtain ⟨Ak, nk, ck, g, hvk, hnm, hnk⟩ := kidAt_slice hka
        subst hvk
        have x2 := (blk_cell BX.out 2).trans rfl
        have k2 := (blk_cell hcs (i * 6 + 2)).trans hv2
        have hi0 : 0 ≤ (i : Int) := by omega
        have hiz : (i : Int) < (l.length : Int) := by omega
        have HSh := Aside0.mk hsh
        have HV := Aside0.mk hv
        have HNk := Aside0.mk hnk
        have HNm := Aside0.mk hnm
        have HVl := Aside0.mk hvl
        have HMx := Aside0.mk hmx
        clear hsh hv hnk hnm hka hat hv2 hcs hvl hmx HS
        go_wp2
        go_loopg [52] nk (fun kq v52 ws => ∃ (j : Nat), v52 = .int .i64 (j : Int) ∧ j ≤ nk ∧ Aside0 (kq = nk - j) ∧ Aside0 (Shape ws gx w7.heap.size w8.heap.size vs) ∧ Aside0 (ws.heap[w8.heap.size]? = some (.cells #[.int .i64 a, .int .i64 x, .slice (some ⟨gx, 0, none⟩) l.length cx] 64 (0, 0))) ∧ Aside0 (ws.heap[w9.heap.size]? = some (.cells #[.int .i64 a, .int .i64 x, .slice Ay l.length cy] 64 (0, 0))) ∧ Aside0 (ws.heap[g1]? = some (.cells #[.int .i64 a, .int .i64 x, .slice A l.length c] 64 (0, 0))) ∧ Aside0 (Kd.S k76 76 ws 0 (fun k => w8.heap.size < k) (.slice Ay l.length cy) l) ∧ Aside0 (Below W.heap.size W ws))
        case atStart => exact ⟨0, rfl, Nat.zero_le _, ⟨rfl⟩, HSh, BX, BY, B0, HY, HBr⟩
        case round =>
          clear HSh BX BY B0 HY HBr x2 k2
          obtain ⟨j, rfl, hj, hjq, HSh, BX, BY, B0, HY, HBr⟩ := hrel
          obtain ⟨cs, hcs, hat⟩ := HSh.out.2
          obtain ⟨hnm1, hv2, hka⟩ := hat i _ HV.out
          have x2 := (blk_cell BX.out 2).trans rfl
          have k2 := (blk_cell hcs (i * 6 + 2)).trans hv2
          by_cases hjn : j < nk
          · have hak := HNk.out (by omega)
            subst hak
            obtain ⟨hlo, hhi, ks, hks, hcell⟩ := kidAt_cell hka
            obtain ⟨u, hu⟩ := hcell j hjn
            have kj := (blk_cell hks j).trans hu
            have fj := blk_frozen hks j
            have hj0 : 0 ≤ (j : Int) := by omega
            have hjz : (j : Int) < (nk : Int) := by omega
            have HKs := Aside0.mk hks
            have HLo := Aside0.mk hlo
            have HHi := Aside0.mk hhi
            clear hks hcell hu hka hnm1 hv2 hcs hat hlo hhi
            go_wp2
            go_roundg (nk - (j + 1))
            case measure => have := hjq.out; omega
            case rel => exact ⟨j + 1, by have h1 := HNm.out; have h2 : maxLen ≤ 9223372036854775807 := (by decide); rw [wrap64_small (i := (j : Int) + 1) (by omega) (by omega), show (j : Int) + 1 = ((j + 1 : Nat) : Int) by omega], by omega, ⟨rfl⟩, ⟨shape_kid HSh.out HKs.out j _⟩, ⟨nblk_far (blk_ne BX.out HKs.out (by decide)) BX.out _⟩, ⟨nblk_far (blk_ne BY.out HKs.out (by decide)) BY.out _⟩, ⟨nblk_far (blk_ne B0.out HKs.out (by decide)) B0.out _⟩, ⟨Kd.S_far (p := ⟨g, j, none⟩) HY.out (fun k hk => by have := HHi.out; have hk2 : w8.heap.size < k := hk; show k ≠ g; omega) _⟩, ⟨nbelow_far (by have := HLo.out; have := below_size HB7.out; omega) HBr.out _⟩⟩
          · obtain rfl : j = nk := by omega
            obtain ⟨u1, hu1⟩ := hnm1
            have k1 := (blk_cell hcs (i * 6 + 1)).trans hu1
            have f1 := blk_frozen hcs (i * 6 + 1)
            have HCs := Aside0.mk hcs
            clear hu1 hka hv2 hcs hat
            go_wp2
            go_roundg (l.length - (i + 1))
            case measure => have := hkq.out; omega
            case rel => exact ⟨i + 1, by have h1 := HLen.out; rw [wrap64_small (i := (i : Int) + 1) (by omega) (by omega), show (i : Int) + 1 = ((i + 1 : Nat) : Int) by omega], by omega, ⟨rfl⟩, ⟨fun _ => ⟨by trivial, HVl.out, HMx.out, shape_name HSh.out i _⟩⟩, ⟨nblk_far (blk_ne BX.out HCs.out (by decide)) BX.out _⟩, ⟨nblk_far (blk_ne BY.out HCs.out (by decide)) BY.out _⟩, ⟨nblk_far (blk_ne B0.out HCs.out (by decide)) B0.out _⟩, ⟨Kd.S_far (p := ⟨gx, i * 6 + 1, none⟩) HY.out (fun k hk => by have := HSh.out.1.2; have hk2 : w8.heap.size < k := hk; show k ≠ gx; omega) _⟩, ⟨nbelow_far (by have := HSh.out.1.1; have := below_size HB7.out; omega) HBr.out _⟩⟩
      · obtain rfl : i = l.length := by omega
        have y0 := (blk_cell BY.out 0).trans rfl
        have y1 := (blk_cell BY.out 1).trans rfl
        have y2 := (blk_cell BY.out 2).trans rfl
        have b0 := (blk_cell B0.out 0).trans rfl
        have b1 := (blk_cell B0.out 1).trans rfl
        have b2 := (blk_cell B0.out 2).trans rfl
        clear hil
        go_wp2_with (go_at_call 41; refine (aumbryref15_Same.calls k a x Ay cy l a x A c l true _ (Kd.S_reads' HY.out).2.2 (Kd.S_reads' HY.out).2.1 (Kd.C_below HR.out HBr.out) HC.out C4.out).mono ?_; rintro e8 wz ⟨rfl, hb⟩; have HBz := Aside0.mk (below_step HBr.out hb); clear hb)
        go_ret
        exact ⟨rfl, HBz.out⟩
end Go.Proofs.Ytdieanikopjbjaa.QSlotBk
