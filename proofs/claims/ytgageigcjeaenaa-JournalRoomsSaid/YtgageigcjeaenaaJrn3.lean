/- Disks: contracts and laws, walked by hand. No condition beside those that each theorem names. -/
import Derived.Test.YtgageigcjeaenaaJrn2
import Derived.RangeFuncNested
import Derived.RangeFuncBound
import Derived.RangeFuncCalls
import Derived.RangeFuncLeaves
import Derived.Shelf.Abstract
import Derived.Shelf.RegionOpen
import Derived.OwnWalkIn
import Derived.TacticsInMore
import Derived.LoopNIn
import Derived.LoopIn
import Derived.Deep.RegionLaw
namespace Go.Proofs.Ytgageigcjeaenaa.Disk
open Go.RowKit Go.Proofs.YtgageigcjeaenaaW.PrintWords Go.Proofs.YtgageigcjeaenaaW.PrintLast Go.Proofs.YtgageigcjeaenaaW.PrintMore Go.Proofs.Ytgageigcjeaenaa.MixBase Go.Proofs.Ytgageigcjeaenaa.MixPlain Go.Proofs.Ytgageigcjeaenaa.NumBase Go.Proofs.Ytgageigcjeaenaa.PadPlain
attribute [local go_sem] max2_int min2_int max_two min_two max_three min_three max_four min_four
set_option linter.unusedVariables false
set_option linter.unusedSimpArgs false
attribute [local go_sem] Oper.semAt_some
def upto (f : Nat → Pg) (n : Nat) : List Pg := (List.range n).map f
theorem upto_succ (f : Nat → Pg) (n : Nat) : upto f (n + 1) = upto f n ++ [f n] := by unfold upto; rw [List.range_succ, List.map_append]; rfl
theorem upto_pre (f : Nat → Pg) {i n : Nat} (h : i ≤ n) (r : List Pg) : upto f i <+: upto f n ++ r := by
  induction n with
  | zero => obtain rfl : i = 0 := by omega
            exact List.prefix_append _ _
  | succ n ih =>
    rcases Nat.lt_or_ge i (n + 1) with h1 | h1
    · rw [upto_succ, List.append_assoc]
      have h2 : upto f i <+: upto f n := by have := ih (by omega); exact (List.prefix_append_right_inj []).1 (by
        clear this
        have h3 : ∀ m, upto f i <+: upto f (i + m) := by
          intro m
          induction m with
          | zero => exact List.prefix_refl _
          | succ m hm => rw [← Nat.add_assoc, upto_succ]; exact hm.trans (List.prefix_append _ _)
        have := h3 (n - i)
        rw [show i + (n - i) = n by omega] at this
        exact this)
      exact h2.trans (List.prefix_append _ _)
    · obtain rfl : i = n + 1 := by omega
      exact List.prefix_append _ _
def zS : QJour.S62 := ⟨0, ⟨#[]⟩⟩
def cpF (cp : Int) (l : List QJour.S62) (i : Nat) : Pg := ⟨cp + (i : Int), (l.getD i zS).f1⟩
def lsF (lst : List ByteArray) (i : Nat) : Pg := ⟨2 + (i : Int), lst.getD i ⟨#[]⟩⟩
def allW (cp : Int) (l : List QJour.S62) (lst : List ByteArray) (tp : ByteArray) : List Pg := upto (cpF cp l) l.length ++ (upto (lsF lst) lst.length ++ (⟨1, tp⟩ :: homeW l))
/-- What a round says: it goes on, or no more. -/
def Yd (J Jx : List Pg → World → Prop) (g Bn : Nat) (pre : List Pg) (W1 : World) (b : Bool) (W' : World) : Prop := (b = true ∧ J pre W' ∧ Rd g W1 W' ∧ KeepsFrom Bn W1 W') ∨ (b = false ∧ Jx pre W' ∧ KeepsFrom Bn W1 W')
theorem grown_of_below {A B : World} (h : Below A.heap.size A B) : A.grownBy B none := ⟨h.os, h.tape, h.output, h.size, fun k hk _ => h.block k hk⟩
theorem J_below {Bn : Nat} {J : List Pg → World → Prop} (hJ : OwnFrom Bn J) {pre : List Pg} {A B : World} (h : J pre A) (hb : Below A.heap.size A B) : J pre B := hJ _ A B none h (grown_of_below hb) (fun r e => by cases e)
theorem list_row {g B : Nat} {w : World} {v : Value} {lst : List ByteArray} (h : w.ownsRow B 9 1 v lst.length (strs lst)) (hft : ∀ k, FootOf g w k → k < B) :
    ∃ A c, v = .slice A lst.length c ∧ OffRow g w A ∧ ∀ i, i < lst.length → ∃ ad, A = some ad ∧ w.cell? (ad.add i) = some (.string (lst.getD i ⟨#[]⟩)) := by
  obtain ⟨A, c, rfl, hm⟩ := own_slice h
  refine ⟨A, c, rfl, ?_, ?_⟩
  · rintro ad rfl
    have h1 := own_base h ad.block rfl
    have h2 := own_lt h ad.block rfl
    exact ⟨fun hf => by have := hft _ hf; omega, h2⟩
  · intro i hi
    obtain ⟨bb, c', cur, e, hb, hc, _, ha⟩ := own_form h (by omega)
    injection e with e _ _
    subst e
    refine ⟨_, rfl, ?_⟩
    have h1 := (blk_cell hc i).trans ((ha i (by omega)).trans (strs_at lst i hi))
    have h2 : (⟨bb, 0, none⟩ : Addr).add i = ⟨bb, i, none⟩ := by unfold Addr.add; simp; try (intro e; exact e.symm)
    rw [h2]
    exact h1
/-- A post that says nothing of panics. -/
def NormalOnly (K : Act → World → Prop) : Exit → Act → World → Prop
  | .normal, a, w => K a w
  | _, _, _ => False
theorem NormalOnly.to {K : Act → World → Prop} {Q : Exit → Act → World → Prop} : ∀ e a w, NormalOnly K e a w → Exit.then K Q e a w := by
  intro e a w h
  cases e <;> first | exact h | exact False.elim h
set_option maxRecDepth 100000 in
set_option maxHeartbeats 4000000 in
theorem all_tells {w : World} {g b1 b2 c k : Nat} {A : Option Addr} {l : List QJour.S62} {N cp : Int} {lst : List ByteArray} {tp : ByteArray} (hz : QJour.journal_filled.f 3 ⟨#[]⟩ = some (zeros 256)) (hg : g < w.heap.size) (hgc : IsC g w) (hft : ∀ k, FootOf g w k → k < w.heap.size)
    (hb2 : w.heap[b2]? = some (.cells #[.slice A l.length c] 35 (0, 0))) (hb1 : w.heap[b1]? = some (.cells #[.int .i64 N] 3 (0, 0))) (hbo2 : Off g w b2) (hbo1 : Off g w b1) (hr : RowAt w A l) (hC : ∀ V, Rd g w V → Kd.C QJour.k62 V A l.length l) (hlc : l.length ≤ c) (hro : OffRow g w A) (hn : l.length ≤ 4096)
    (hcp : QJour.journal_copies.f k N = some cp) (hcp0 : 0 ≤ cp) (hcp1 : cp ≤ 100000) (hls : QJour.journal_list.f k l = some lst) (hln : lst.length ≤ 4096) (htp : QJour.journal_top.f k l = some tp) :
    Tells 74 #[.pointer (some ⟨b2, 0, none⟩), .pointer (some ⟨b1, 0, none⟩)] encPg (Rd g) (allW cp l lst tp) w := by
  intro ly J Jx W hW hJ hJx hY h0
  have hY' : ∀ pre x W1, J pre W1 → (pre ++ [x]) <+: allW cp l lst tp → ∀ m, YieldAt Fence.wide m Try.prog ly #[encPg x] W1 fun e W' => ∃ b, e = .returned (.bool b) ∧ Yd J Jx g W.heap.size (pre ++ [x]) W1 b W' := by
    intro pre x W1 hj hp m
    refine (hY pre x W1 hj hp m).mono ?_
    rintro e W' (⟨rfl, h1, h2, h3⟩ | ⟨rfl, h1, h2⟩)
    · exact ⟨true, rfl, Or.inl ⟨rfl, h1, h2, h3⟩⟩
    · exact ⟨false, rfl, Or.inr ⟨rfl, h1, h2⟩⟩
  have HGC := Aside0.mk hgc
  clear hY hgc
  have rW : Rd g w W := Rd.of_below hW hg
  refine (callsIn_wide (n := 30)).1 ?_
  refine callsIn_of_wp_marks Try.func74 rfl trivial ?_ rfl
  simp only [Try.ntmps74, List.size_toArray, List.length_cons, List.length_nil, Nat.reduceAdd, Nat.reduceSub, Array.replicate_succ, Array.replicate_zero, List.push_toArray, List.append_toArray, List.nil_append, List.cons_append]
  obtain ⟨W1, hW1⟩ : ∃ W1, W.alloc (.cells #[.func (.yield ly) #[] #[]] 104) = W1 := ⟨_, rfl⟩
  have hbW1 : Below W.heap.size W W1 := by rw [← hW1]; exact (Below.refl _ W).alloc (Nat.le_refl _) _
  have hs1 : W1.heap.size = W.heap.size + 1 := by rw [← hW1, World.size_alloc]
  have hyb : W1.heap[W.heap.size]? = some (.cells #[.func (.yield ly) #[] #[]] 104 (0, 0)) := by rw [← hW1]; exact World.alloc_heap_new W _
  have rW1 : Rd g w W1 := rW.trans (Rd.of_below hbW1 (Nat.lt_of_lt_of_le hg hW.size))
  have hyo : Off g W1 W.heap.size := ⟨fun hf => by have := (Rd.foot_lt rW hft) _ (hf.same (hbW1.block g (Nat.lt_of_lt_of_le hg hW.size))); omega, by omega⟩
  have h1 : J [] W1 := J_below hJ h0 hbW1
  have z2 : W.cell? ⟨b2, 0, none⟩ = some (.slice A l.length c) := (blk_cell (hbo2.cells rW hb2) 0).trans rfl
  have z2' : W1.cell? ⟨b2, 0, none⟩ = some (.slice A l.length c) := (blk_cell (hbo2.cells rW1 hb2) 0).trans rfl
  gi_wp2
  try rw [hW1]
  have hN62 := Try.underlying62
  clear hW1 h0 hbW1 z2 z2'
  gi_loopw [11] (fun p wr => ∃ i : Nat, p = .int .i64 (i : Int) ∧ i ≤ l.length ∧ J (upto (cpF cp l) i) wr ∧ Rd g W1 wr) (fun p wr => l.length - (intOf p).toNat)
  case atStart => exact ⟨0, rfl, Nat.zero_le _, h1, Rd.refl _ _⟩
  case round =>
    obtain ⟨i, rfl, hi, hj, hrd⟩ := hrel
    have zy : wr.cell? ⟨W.heap.size, 0, none⟩ = some (.func (.yield ly) #[] #[]) := (blk_cell (hyo.cells hrd hyb) 0).trans rfl
    have zN : wr.cell? ⟨b1, 0, none⟩ = some (.int .i64 N) := (blk_cell (hbo1.cells (rW1.trans hrd) hb1) 0).trans rfl
    by_cases hlt : i < l.length
    · obtain ⟨ad, rfl, q0, q1⟩ := (hr.rd hro (rW1.trans hrd)) i hlt
      obtain ⟨S, hS⟩ : ∃ S, S = l[i] := ⟨_, rfl⟩
      have HSD : Aside0 (l.getD i zS = S) := ⟨by rw [hS, List.getD_eq_getElem?_getD, List.getElem?_eq_getElem hlt]; rfl⟩
      rw [← hS] at q0 q1
      clear hS
      have hj2 : J (upto (cpF cp l) i) (wr.alloc (.cells #[.int .i64 S.f0, .string S.f1] 62)) := hJ.alloc _ hj
      have c1 : ((i : Int) < (l.length : Int)) = True := eq_true (by omega)
      have c2 : ((0 : Int) ≤ (i : Int)) = True := eq_true (by omega)
      have c3 : (i < l.length) = True := eq_true hlt
      have HCP := Aside0.mk hcp
      have HY := Aside0.mk hY'
      have HJ := Aside0.mk hJ
      have HX := Aside0.mk hJx
      have HI := Aside0.mk hj2
      have HD := Aside0.mk hrd
      have HZ := Aside0.mk hlt
      have H0 := Aside0.mk hcp0
      have H1 := Aside0.mk hcp1
      have HN := Aside0.mk hn
      have HS := Aside0.mk hs1
      have HG : Aside0 (g < wr.heap.size) := ⟨by have := hrd.2.2.2.1; have := hW.size; omega⟩
      clear hcp hY' hJ hJx hj2 hrd hlt hcp0 hcp1 hn hs1 hj hi hz hg hft hb2 hb1 hbo2 hbo1 hr hC hlc hro hls hln htp rW hyb rW1 hyo h1 hW
      gi_wp2
      have hmx : Try.prog.follows .mixedOrders = true := by kernel_rfl
      obtain ⟨V, hV⟩ : ∃ V, (wr.alloc (.cells #[.int .i64 S.f0, .string S.f1] 62)) = V := ⟨_, rfl⟩
      have zb1 : V.cell? ⟨wr.heap.size, 1, none⟩ = some (.string S.f1) := by rw [← hV]; exact (blk_cell (World.alloc_heap_new wr _) 1).trans rfl
      have hbV : Below wr.heap.size wr V := by rw [← hV]; exact (Below.refl _ wr).alloc (Nat.le_refl _) _
      have zy' : V.cell? ⟨W.heap.size, 0, none⟩ = some (.func (.yield ly) #[] #[]) := (hbV.cell (World.block_lt_of_cell? _ _ zy)).trans zy
      have zN' : V.cell? ⟨b1, 0, none⟩ = some (.int .i64 N) := (hbV.cell (World.block_lt_of_cell? _ _ zN)).trans zN
      rw [hV] at HI ⊢
      have HB := Aside0.mk hbV
      clear hV zy zN q0 q1 hbV
      have cw : IntKind.i64.wrap (cp + (i : Int)) = cp + (i : Int) := (i64_w _).trans (MixBase.wrap64_small (by have := H0.out; omega) (by have := H1.out; have := HN.out; have := HZ.out; omega))
      rename_i K hKn
      refine wpIn_mono (Q := NormalOnly (fun a w => ∃ (nd : Nat) (b : Bool), a = { tmps := #[.func (.yield ly) #[] #[], .pointer (some ⟨b2, 0, none⟩), .pointer (some ⟨b1, 0, none⟩), .pointer (some ⟨W.heap.size, 0, none⟩), .int .i64 (i : Int), .pointer (some ⟨wr.heap.size, 0, none⟩), undef, undef, undef, .slice (some ad) l.length c, .int .i64 (l.length : Int), .int .i64 (i : Int), .bool true, .int .i64 (i : Int), .pointer (some (ad.add (i * 2))), .agg #[.int .i64 S.f0, .string S.f1], .func (.yield ly) #[] #[], .int .i64 N, .int .i64 cp, .int .i64 (i : Int), .int .i64 (cp + (i : Int)), .pointer (some ⟨wr.heap.size, 1, none⟩), .string S.f1, .agg #[.int .i64 (cp + (i : Int)), .string S.f1], .bool b, .bool (!b), u26, undef, undef, undef, undef, undef, undef, undef, undef, undef, undef, undef, undef, undef, undef, undef, undef, undef, undef, undef, undef, undef, undef, undef, undef, undef, undef, undef, undef, undef], defers := [] } ∧ Yd J Jx g W.heap.size (upto (cpF cp l) i ++ [cpF cp l i]) (V.drewN (1 + nd)) b w)) ?reg ?rest
      case reg =>
        gi_region_with_o (first
          | (refine ⟨trivial, ?_⟩; gi_at_call 63; refine (callsIn_wide.2 (QJour.journal_copies.calls k N cp _ HCP.out)).mono ?_; rintro e wc ⟨rfl, ⟨nd, rfl⟩⟩; obtain ⟨fn, tmps, assign, body, hy, hR⟩ := HY.out _ (cpF cp l i) (V.drewN (1 + nd)) (J_below HJ.out HI.out (pw_below_drewN (Below.refl _ _) _)) (by rw [← upto_succ]; exact upto_pre _ (by have := HZ.out; omega) _) (30 - 1); simp only [encPg, cpF, HSD.out] at hy)
          | (refine hR.mono ?_; rintro e W3 ⟨b, rfl, hb⟩; have HE := Aside0.mk hb; clear hb hy hR))
        all_goals exact ⟨nd, b, rfl, HE.out⟩
      case rest =>
        rintro e a w3 h
        cases e with
        | normal =>
          obtain ⟨nd, b, rfl, hb⟩ := h
          show K _ _
          refine hKn _ _ ?_
          have HE := Aside0.mk hb
          clear hb zb1 zy' zN' cw
          cases b
          · gi_wp2
            rcases HE.out with ⟨h, _⟩ | ⟨_, h, hkp⟩
            · cases h
            · exact ⟨_, results_none rfl _ _ _, ⟨_, rfl⟩, .inr ⟨_, by rw [← upto_succ]; exact upto_pre _ (by have := HZ.out; omega) _, h⟩⟩
          · have cw : wrap64 ((i : Int) + 1) = (i : Int) + 1 := MixBase.wrap64_small (by omega) (by have := HN.out; have := HZ.out; omega)
            gi_wp2
            rw [cw]
            rcases HE.out with ⟨_, h, h2, _⟩ | ⟨h, _⟩
            · refine ⟨⟨i + 1, rfl, HZ.out, ?_, HD.out.trans ((Rd.of_below (g := g) HB.out HG.out).trans ((Rd.of_below (g := g) (pw_below_drewN (Below.refl _ _) _) (by have := HG.out; have := HB.out.size; omega)).trans h2))⟩, ?_⟩
              · rw [upto_succ]
                exact h
              · show l.length - ((i : Int) + 1).toNat < l.length - (i : Int).toNat
                have := HZ.out
                omega
            · cases h
        | _ => exact h.elim
    · have c1 : ((i : Int) < (l.length : Int)) = False := eq_false (by omega)
      obtain rfl : i = l.length := by omega
      have zb2 : wr.cell? ⟨b2, 0, none⟩ = some (.slice A l.length c) := (blk_cell (hbo2.cells (rW1.trans hrd) hb2) 0).trans rfl
      have RW := Aside0.mk (rW1.trans hrd)
      have HJ0 := Aside0.mk hj
      have HY := Aside0.mk hY'
      have HJ := Aside0.mk hJ
      have HX := Aside0.mk hJx
      have HR := Aside0.mk hr
      have HRO := Aside0.mk hro
      have HC := Aside0.mk hC
      have HLC := Aside0.mk hlc
      have HLS := Aside0.mk hls
      have HLN := Aside0.mk hln
      have HTP := Aside0.mk htp
      have HN := Aside0.mk hn
      have HZ := Aside0.mk hz
      have HS := Aside0.mk hs1
      have HYB := Aside0.mk (hyo.cells hrd hyb)
      have HYO := Aside0.mk (hyo.rd hrd)
      have HB2 := Aside0.mk (hbo2.cells (rW1.trans hrd) hb2)
      have HBO2 := Aside0.mk (hbo2.rd (rW1.trans hrd))
      have HWr : Aside0 (W.heap.size < wr.heap.size) := ⟨by have := hrd.2.2.2.1; omega⟩
      have HG : Aside0 (g < wr.heap.size) := ⟨by have := hrd.2.2.2.1; have := hW.size; omega⟩
      have HFt : Aside0 (∀ k, FootOf g w k → k < w.heap.size) := ⟨hft⟩
      clear hcp hY' hJ hJx hrd hlt hcp0 hcp1 hn hs1 hj hi hz hg hft hb2 hb1 hbo2 hbo1 hr hC hlc hro hls hln htp rW hyb rW1 hyo h1 hW zy zN
      gi_wp2
      refine ⟨trivial, callsIn_wide.2 ((QJour.journal_list.calls k A c l lst wr (HC.out _ RW.out) HLC.out HLS.out).mono ?_)⟩
      rintro e w5 ⟨v, rfl, hRl, hb5⟩
      have hft5 : ∀ k, FootOf g w5 k → k < wr.heap.size := fun k hf => (Rd.foot_lt RW.out HFt.out) k (hf.same (hb5.block g HG.out))
      have hown : w5.ownsRow wr.heap.size 9 1 v lst.length (strs lst) := Kd.own_of_R hRl
      obtain ⟨A3, c3, rfl, hro3, hat3⟩ := list_row hown hft5
      have rw5 : Rd g wr w5 := Rd.of_below hb5 HG.out
      have hj5 : J (upto (cpF cp l) l.length ++ upto (lsF lst) 0) w5 := by
        have := J_below HJ.out HJ0.out hb5
        rwa [show upto (lsF lst) 0 = [] from rfl, List.append_nil]
      have hyb5 := HYO.out.cells rw5 HYB.out
      have hyo5 := HYO.out.rd rw5
      have hb25 := HBO2.out.cells rw5 HB2.out
      have hbo25 := HBO2.out.rd rw5
      have hg5 : g < w5.heap.size := Nat.lt_of_lt_of_le HG.out hb5.size
      have hsz5 : W.heap.size < w5.heap.size := Nat.lt_of_lt_of_le HWr.out hb5.size
      have rW5 : Rd g w w5 := RW.out.trans rw5
      clear hRl hown hft5 HJ0 HYB HYO HB2 HBO2 HG RW hb5 rw5 zb2 c1 HWr
      gi_wp2
      gi_loopw [30] (fun p wr => ∃ i : Nat, p = .int .i64 (i : Int) ∧ i ≤ lst.length ∧ J (upto (cpF cp l) l.length ++ upto (lsF lst) i) wr ∧ Rd g w5 wr) (fun p wr => lst.length - (intOf p).toNat)
      case atStart => exact ⟨0, rfl, Nat.zero_le _, hj5, Rd.refl _ _⟩
      case round =>
        obtain ⟨i, rfl, hi, hj, hrd⟩ := hrel
        have zy : wr.cell? ⟨W.heap.size, 0, none⟩ = some (.func (.yield ly) #[] #[]) := (blk_cell (hyo5.cells hrd hyb5) 0).trans rfl
        by_cases hlt : i < lst.length
        · obtain ⟨ad, rfl, q0⟩ := hat3 i hlt
          replace q0 := Off.cell (a := ad.add i) ((add_block ad i).symm ▸ hro3 ad rfl) hrd q0
          have c1 : ((i : Int) < (lst.length : Int)) = True := eq_true (by omega)
          have c2 : ((0 : Int) ≤ (i : Int)) = True := eq_true (by omega)
          have c3 : (i < lst.length) = True := eq_true hlt
          obtain ⟨S, hS⟩ : ∃ S, S = lst.getD i ⟨#[]⟩ := ⟨_, rfl⟩
          rw [← hS] at q0
          have cw : wrap64 (2 + (i : Int)) = 2 + (i : Int) := MixBase.wrap64_small (by omega) (by have := HLN.out; omega)
          have cw' : wrap64 ((i : Int) + 1) = (i : Int) + 1 := MixBase.wrap64_small (by omega) (by have := HLN.out; omega)
          have hpre : ((upto (cpF cp l) l.length ++ upto (lsF lst) i) ++ [lsF lst i]) <+: allW cp l lst tp := by
            rw [List.append_assoc, ← upto_succ]
            exact (List.prefix_append_right_inj _).2 (upto_pre _ (by omega) _)
          obtain ⟨fn, tmps, assign, body, hy, hR⟩ := HY.out _ (lsF lst i) wr hj hpre (30 - 1)
          simp only [encPg, lsF, ← hS] at hy
          have HP := Aside0.mk hpre
          have HD := Aside0.mk hrd
          have HL := Aside0.mk hlt
          clear hpre hj hrd hro3 hat3 hj5 hyb5 hyo5 hb25 hbo25 hg5 hsz5 rW5 hi hS
          gi_wp2
          refine hR.mono ?_
          rintro e W3 ⟨b, rfl, hb⟩
          have HE := Aside0.mk hb
          clear hb hy hR cw zy q0 c1 c2 c3
          cases b
          · gi_wp2
            rcases HE.out with ⟨h, _⟩ | ⟨_, h, hkp⟩
            · cases h
            · exact ⟨_, results_none rfl _ _ _, ⟨_, rfl⟩, .inr ⟨_, HP.out, h⟩⟩
          · gi_wp2
            rw [cw']
            rcases HE.out with ⟨_, h, h2, _⟩ | ⟨h, _⟩
            · refine ⟨⟨i + 1, rfl, HL.out, ?_, HD.out.trans h2⟩, ?_⟩
              · rw [upto_succ, ← List.append_assoc]
                exact h
              · show lst.length - ((i : Int) + 1).toNat < lst.length - (i : Int).toNat
                have := HL.out
                omega
            · cases h
        · have c1 : ((i : Int) < (lst.length : Int)) = False := eq_false (by omega)
          obtain rfl : i = lst.length := by omega
          have zb2 : wr.cell? ⟨b2, 0, none⟩ = some (.slice A l.length c) := (blk_cell (hbo25.cells hrd hb25) 0).trans rfl
          have hg6 : g < wr.heap.size := Nat.lt_of_lt_of_le hg5 hrd.2.2.2.1
          have HYB := Aside0.mk (hyo5.cells hrd hyb5)
          have HYO := Aside0.mk (hyo5.rd hrd)
          have HB2 := Aside0.mk (hbo25.cells hrd hb25)
          have HBO2 := Aside0.mk (hbo25.rd hrd)
          have HG := Aside0.mk hg6
          have RW := Aside0.mk (rW5.trans hrd)
          have HJ0 := Aside0.mk hj
          clear hj hrd hro3 hat3 hj5 hyb5 hyo5 hb25 hbo25 hg5 hsz5 rW5 hi hlt hg6
          have hX2 : J (upto (cpF cp l) l.length ++ upto (lsF lst) lst.length) wr := HJ0.out
          have HP : Aside0 (((upto (cpF cp l) l.length ++ upto (lsF lst) lst.length) ++ [⟨1, tp⟩]) <+: allW cp l lst tp) := ⟨by
            show _ <+: upto (cpF cp l) l.length ++ (upto (lsF lst) lst.length ++ ([⟨1, tp⟩] ++ homeW l))
            rw [← List.append_assoc, ← List.append_assoc]
            exact List.prefix_append _ _⟩
          gi_wp2
          have hmx : Try.prog.follows .mixedOrders = true := by kernel_rfl
          obtain ⟨V, hV⟩ : ∃ V, wr = V := ⟨_, rfl⟩
          subst hV
          have zyd : wr.drew.cell? ⟨W.heap.size, 0, none⟩ = some (.func (.yield ly) #[] #[]) := zy
          have zbd : wr.drew.cell? ⟨b2, 0, none⟩ = some (.slice A l.length c) := zb2
          clear c1 hX2
          rename_i K hKn
          refine wpIn_mono (Q := NormalOnly (fun a w => ∃ (V9 : World) (b : Bool), a = { tmps := #[.func (.yield ly) #[] #[], .pointer (some ⟨b2, 0, none⟩), .pointer (some ⟨b1, 0, none⟩), .pointer (some ⟨W.heap.size, 0, none⟩), u4, u5, u6, u7, undef, .slice A l.length c, .int .i64 (l.length : Int), .int .i64 (l.length : Int), .bool false, u13, u14, u15, u16, u17, u18, u19, u20, u21, u22, u23, u24, u25, u26, .slice A l.length c, .slice A3 lst.length c3, .int .i64 (lst.length : Int), .int .i64 (lst.length : Int), .bool false, u32, u33, u34, u35, u36, u37, u38, u39, u40, u41, u42, .func (.yield ly) #[] #[], .slice A l.length c, .string tp, .agg #[.int .i64 1, .string tp], .bool b, .bool (!b), undef, undef, undef, undef, undef, undef, undef], defers := [] } ∧ Rd g wr V9 ∧ Yd J Jx g W.heap.size ((upto (cpF cp l) l.length ++ upto (lsF lst) lst.length) ++ [⟨1, tp⟩]) V9 b w)) ?reg2 ?rest2
          case reg2 =>
            gi_region_with_o (first
              | (refine ⟨trivial, ?_⟩; gi_at_call 68; refine (callsIn_wide.2 (QJour.journal_top.calls k A c l tp _ (HC.out _ (RW.out.trans (Rd.of_below (B := wr.drew) (below_drew1 (Below.refl _ _)) HG.out))) HLC.out HTP.out)).mono ?_; rintro e wc ⟨rfl, hbt⟩; have zyc : wc.cell? ⟨W.heap.size, 0, none⟩ = some (.func (.yield ly) #[] #[]) := (hbt.cell (World.block_lt_of_cell? _ _ zyd)).trans zyd; have HBT := Aside0.mk (Rd.of_below (g := g) (A := wr) (B := wc) (below_step (below_drew1 (Below.refl _ _)) hbt) HG.out); obtain ⟨fn, tmps, assign, body, hy, hR⟩ := HY.out _ ⟨1, tp⟩ wc (J_below HJ.out HJ0.out (below_step (below_drew1 (Below.refl _ _)) hbt)) HP.out (30 - 1); simp only [encPg] at hy; clear hbt)
              | (refine hR.mono ?_; rintro e W3 ⟨b, rfl, hb⟩; have HE := Aside0.mk hb; clear hb hy hR))
            all_goals exact ⟨wc, b, rfl, HBT.out, HE.out⟩
          case rest2 =>
            rintro e a w3 h
            cases e with
            | normal =>
              obtain ⟨V9, b, rfl, hrd, hb⟩ := h
              show K _ _
              refine hKn _ _ ?_
              have HE := Aside0.mk hb
              have HD := Aside0.mk hrd
              clear hb hrd zyd zbd
              cases b
              · gi_wp2
                rcases HE.out with ⟨h, _⟩ | ⟨_, h, hkp⟩
                · cases h
                · exact ⟨_, results_none rfl _ _ _, ⟨_, rfl⟩, .inr ⟨_, HP.out, h⟩⟩
              · rcases HE.out with ⟨_, h, h2, _⟩ | ⟨h, _⟩
                · have rd3 := HD.out.trans h2
                  have zb3 : w3.cell? ⟨b2, 0, none⟩ = some (.slice A l.length c) := (blk_cell (HBO2.out.cells rd3 HB2.out) 0).trans rfl
                  have HR3 := Aside0.mk rd3
                  have HJ3 := Aside0.mk h
                  have hg3 : g < w3.heap.size := Nat.lt_of_lt_of_le HG.out rd3.2.2.2.1
                  have zy3 := Aside0.mk (HYO.out.cells rd3 HYB.out)
                  have yo3 := Aside0.mk (HYO.out.rd rd3)
                  clear h h2 rd3 zy zb2
                  gi_wp2
                  refine ⟨trivial, callsIn_wide.2 ((home_calls A l.length c w3).mono ?_)⟩
                  rintro e w4 ⟨b, rfl, hbb, hbc, hb4⟩
                  have rd4 : Rd g w3 w4 := Rd.of_below hb4 hg3
                  have hg4 : g < w4.heap.size := Nat.lt_of_lt_of_le hg3 hb4.size
                  have rw4 : Rd g w w4 := RW.out.trans (HR3.out.trans rd4)
                  have hbo : Off g w4 b := ⟨fun hf => by
                    have := (Rd.foot_lt (RW.out.trans HR3.out) HFt.out) b (hf.same (hb4.block g hg3))
                    omega, blk_lt hbc⟩
                  have hT := home_tells HZ.out hg4 hbc hbo (HR.out.rd HRO.out rw4) (fun ad e => (HRO.out ad e).rd rw4) HN.out
                  have hy4 := yo3.out.cells rd4 zy3.out
                  have yo4 := yo3.out.rd rd4
                  have hj4 := J_below HJ.out HJ3.out hb4
                  have hgc4 : IsC g w4 := rw4.2.2.2.2.2.2 HGC.out
                  have hWw4 : W.heap.size ≤ w4.heap.size := by have := blk_lt hy4; omega
                  clear rd4 hbc hbb hbo hb4 zb3 hg3
                  gi_wp2
                  obtain ⟨P, hP⟩ : ∃ P, P = (upto (cpF cp l) l.length ++ upto (lsF lst) lst.length) ++ [⟨1, tp⟩] := ⟨_, rfl⟩
                  have hAll : allW cp l lst tp = P ++ homeW l := by
                    rw [hP]
                    show upto (cpF cp l) l.length ++ (upto (lsF lst) lst.length ++ ([⟨1, tp⟩] ++ homeW l)) = _
                    rw [← List.append_assoc, ← List.append_assoc]
                  rw [← hP] at hj4
                  refine wp_tells (gf := 69) (lb := #[.pointer (some ⟨b, 0, none⟩)]) (enc := encPg) (Kp := Rd g) (xs := homeW l) (w0 := w4) rfl (enters_of Try.func69 (by kernel_rfl) rfl) hT (fun h k => h.trans k) (fun W l r r' _ hl => Rd.turn W l r r' hl) (Below.refl _ _)
                    (fun pre V => J (P ++ pre) V ∧ IsC g V ∧ Rd g w4 V) (fun pre V => Jx (P ++ pre) V)
                    ?hI ?hIx ?h0
                    (fun x a' V => ∃ Bx, w4.heap.size ≤ Bx ∧ V.heap[Bx]? = some (.cells #[.int .i64 x.at_, .string x.data] 62 (0, 0)) ∧ ∃ v48 : Value, a' = { tmps := #[.func (.yield ly) #[] #[], .pointer (some ⟨b2, 0, none⟩), .pointer (some ⟨b1, 0, none⟩), .pointer (some ⟨W.heap.size, 0, none⟩), u4, u5, u6, u7, .pointer (some ⟨Bx, 0, none⟩), .slice A l.length c, .int .i64 (l.length : Int), .int .i64 (l.length : Int), .bool false, u13, u14, u15, u16, u17, u18, u19, u20, u21, u22, u23, u24, u25, u26, .slice A l.length c, .slice A3 lst.length c3, .int .i64 (lst.length : Int), .int .i64 (lst.length : Int), .bool false, u32, u33, u34, u35, u36, u37, u38, u39, u40, u41, u42, .func (.yield ly) #[] #[], .slice A l.length c, .string tp, .agg #[.int .i64 1, .string tp], .bool true, v48, .slice A l.length c, .func (.func 69) #[] #[.pointer (some ⟨b, 0, none⟩)], .agg #[.int .i64 x.at_, .string x.data], undef, undef, undef, undef], defers := [] })
                    ?hAx ?assign ?body ?done ?stop
                  case hI => exact fun s A B row hs hg hr => ⟨HJ.out _ _ _ _ hs.1 hg (fun r e => ⟨Nat.le_trans hWw4 (hr r e).1, (hr r e).2⟩), by obtain ⟨c, t, p, hc⟩ := hs.2.1; exact ⟨c, t, p, grown_cells hg hr hc rfl⟩, hs.2.2.grown' hs.2.1 hg hr⟩
                  case hIx => exact fun s A B row hs hg hr => HX.out _ _ _ _ hs hg (fun r e => ⟨Nat.le_trans hWw4 (hr r e).1, (hr r e).2⟩)
                  case h0 => exact ⟨by rw [List.append_nil]; exact hj4, hgc4, Rd.refl _ _⟩
                  case hAx => exact fun x a' s A B row hs hg hr => by obtain ⟨Bx, hx, hy, hz⟩ := hs; exact ⟨Bx, hx, grown_cells hg hr hy rfl, hz⟩
                  case assign =>
                    rintro m lr pre x V K hi hK
                    unfold encPg
                    gi_wp2
                    refine hK _ _ ?_ ?_ ?_ ⟨V.heap.size, ?_, ?_, _, rfl⟩
                    · exact (KeepsOthers.alloc _ _).from _
                    · exact Rd.of_below (below_alloc (Below.refl _ _) _) (Nat.lt_of_lt_of_le hg4 hi.2.2.2.2.2.1)
                    · exact ⟨J_below HJ.out hi.1 (below_alloc (Below.refl _ _) _), by obtain ⟨c, t, p, hc⟩ := hi.2.1; exact ⟨c, t, p, blk_below hc (below_alloc (Below.refl _ _) _)⟩, hi.2.2.trans (Rd.of_below (below_alloc (Below.refl _ _) _) (Nat.lt_of_lt_of_le hg4 hi.2.2.2.2.2.1))⟩
                    · exact hi.2.2.2.2.2.1
                    · exact World.alloc_heap_new _ _
                  case body =>
                    rintro m lr pre x a' V hI ⟨Bx, hBx, hx, v48, rfl⟩ hpre
                    obtain ⟨hj, hgcv, hrd⟩ : J (P ++ pre) V ∧ IsC g V ∧ Rd g w4 V := hI
                    have zy : V.cell? ⟨W.heap.size, 0, none⟩ = some (.func (.yield ly) #[] #[]) := (blk_cell (yo4.cells hrd hy4) 0).trans rfl
                    have x0 : V.cell? ⟨Bx, 0, none⟩ = some (.int .i64 x.at_) := (blk_cell hx 0).trans rfl
                    have x1 : V.cell? ⟨Bx, 1, none⟩ = some (.string x.data) := (blk_cell hx 1).trans rfl
                    obtain ⟨fn, tmps, assign, body, hy, hR⟩ := HY.out (P ++ pre) x V hj (by rw [hAll, List.append_assoc]; exact (List.prefix_append_right_inj _).2 hpre) (m - 1)
                    simp only [encPg] at hy
                    have HD := Aside0.mk hrd
                    have HI := Aside0.mk hgcv
                    have H4 := Aside0.mk hWw4
                    clear hj hrd hx hpre hBx hgcv hWw4 hT hy4 yo4 hj4 hgc4 rw4 hg4
                    gi_wp2
                    refine ⟨fun hh => by simp [Fence.wide] at hh, ?_⟩
                    have hR' := hR.mono (R' := fun e W' => ∃ bb, e = .returned (.bool bb) ∧ Yd J Jx g W.heap.size (P ++ pre ++ [x]) V bb W') (fun e W' h => h)
                    refine RoundIn.mono (F := Fence.wide.inRound lr) hR' ?_
                    rintro e W3 ⟨bb, rfl, hb⟩
                    have HE := Aside0.mk hb
                    clear hb hy hR hR' zy x0 x1
                    cases bb
                    · gi_wp2
                      rcases HE.out with ⟨h, _⟩ | ⟨_, h, hkp⟩
                      · cases h
                      · exact ⟨keepsFrom_le hkp H4.out, by show Jx (P ++ (pre ++ [x])) W3; rw [← List.append_assoc]; exact h⟩
                    · gi_wp2
                      rcases HE.out with ⟨_, h, h2, h3⟩ | ⟨h, _⟩
                      · exact ⟨keepsFrom_le h3 H4.out, h2, by rw [← List.append_assoc]; exact h, h2.2.2.2.2.2.2 HI.out, HD.out.trans h2⟩
                      · cases h
                  case done =>
                    rintro D V hD hI hK
                    gi_wp2
                    refine ⟨by simp, .inl ⟨_, _, rfl, run_takeDeferred hK, ?_⟩⟩
                    exact ⟨_, results_none rfl _ _ _, ⟨_, rfl⟩, .inl (by rw [hAll]; exact OwnFrom.putObj HJ.out _ hI.1 (Nat.le_trans hWw4 hD) hK rfl)⟩
                  case stop =>
                    rintro D pre V hD hpre hI hK
                    gi_wp2
                    refine ⟨by simp, .inl ⟨_, _, rfl, run_takeDeferred hK, ?_⟩⟩
                    exact ⟨_, results_none rfl _ _ _, ⟨_, rfl⟩, .inr ⟨_, by rw [hAll]; exact (List.prefix_append_right_inj _).2 hpre, OwnFrom.putObj HX.out _ hI (Nat.le_trans hWw4 hD) hK rfl⟩⟩
                · cases h
            | _ => exact h.elim
end Go.Proofs.Ytgageigcjeaenaa.Disk
