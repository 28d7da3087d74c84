/- Disks: contracts and laws, walked by hand. No condition beside those that each theorem names. -/
import Derived.Test.YtgageigcjeaenaaJrn1
import Derived.Test.YtgageigcjeaenaaQJourx4
import Derived.RangeFuncNested
import Derived.RangeFuncBound
import Derived.RangeFuncCalls
import Derived.RangeFuncLeaves
import Derived.Shelf.Abstract
import Derived.Shelf.RegionOpen
import Derived.OwnWalkIn
import Derived.TacticsInMore
import Derived.LoopNIn
import Derived.LoopIn
import Derived.Deep.RegionLaw
namespace Go.Proofs.Ytgageigcjeaenaa.Disk
open Go.RowKit Go.Proofs.YtgageigcjeaenaaW.PrintWords Go.Proofs.YtgageigcjeaenaaW.PrintLast Go.Proofs.YtgageigcjeaenaaW.PrintMore Go.Proofs.Ytgageigcjeaenaa.MixBase Go.Proofs.Ytgageigcjeaenaa.MixPlain Go.Proofs.Ytgageigcjeaenaa.NumBase Go.Proofs.Ytgageigcjeaenaa.PadPlain
attribute [local go_sem] max2_int min2_int max_two min_two max_three min_three max_four min_four
set_option linter.unusedVariables false
set_option linter.unusedSimpArgs false
attribute [local go_sem] Oper.semAt_some
def pgOf (s : QJour.S62) : Pg := ⟨s.f0, s.f1⟩
/-- A row of pages, as its cells are read. -/
def RowAt (w : World) (A : Option Addr) (l : List QJour.S62) : Prop := ∀ i (h : i < l.length), ∃ ad, A = some ad ∧ w.cell? (ad.add (i * 2)) = some (.int .i64 l[i].f0) ∧ w.cell? ⟨(ad.add (i * 2)).block, (ad.add (i * 2)).off + 1, none⟩ = some (.string l[i].f1)
theorem home_calls (A : Option Addr) (n c : Nat) (w : World) : Calls Try.prog 47 #[.slice A n c] w fun e w' => ∃ b, e = .returned (.func (.func 69) #[] #[.pointer (some ⟨b, 0, none⟩)]) ∧ w.heap.size ≤ b ∧ w'.heap[b]? = some (.cells #[.slice A n c] 35 (0, 0)) ∧ Below w.heap.size w w' := by
  go_enter Try.func47, Try.ntmps47
  go_wp2
  go_ret
  exact ⟨w.heap.size, rfl, Nat.le_refl _, World.alloc_heap_new w _, (Below.refl _ w).alloc (Nat.le_refl _) _⟩
theorem all_calls (N : Int) (A : Option Addr) (n c : Nat) (w : World) : Calls Try.prog 52 #[.int .i64 N, .slice A n c] w fun e w' => ∃ b1 b2, e = .returned (.func (.func 74) #[] #[.pointer (some ⟨b2, 0, none⟩), .pointer (some ⟨b1, 0, none⟩)]) ∧ w.heap.size ≤ b1 ∧ w.heap.size ≤ b2 ∧ w'.heap[b2]? = some (.cells #[.slice A n c] 35 (0, 0)) ∧ w'.heap[b1]? = some (.cells #[.int .i64 N] 3 (0, 0)) ∧ Below w.heap.size w w' := by
  go_enter Try.func52, Try.ntmps52
  go_wp2
  go_ret
  have h2 := World.alloc_heap_new (w.alloc (.cells #[.int .i64 N] 3)) (.cells #[.slice A n c] 35)
  rw [World.size_alloc] at h2
  exact ⟨w.heap.size, w.heap.size + 1, by first | rfl | simp, Nat.le_refl _, Nat.le_succ _, h2, (Below.heap_alloc _ _ _ (by rw [World.size_alloc]; omega)).trans (World.alloc_heap_new w _), ((Below.refl _ w).alloc (Nat.le_refl _) _).alloc (by rw [World.size_alloc]; omega) _⟩
/-- What must stay where it lies: it is no block of the disk. -/
def Off (g : Nat) (w : World) (k : Nat) : Prop := ¬ FootOf g w k ∧ k < w.heap.size
theorem Off.rd {g : Nat} {A B : World} {k : Nat} (h : Off g A k) (r : Rd g A B) : Off g B k := ⟨fun hf => (r.2.2.2.2.2.1 k hf).elim h.1 (fun hl => by have := h.2; omega), Nat.lt_of_lt_of_le h.2 r.2.2.2.1⟩
theorem Off.cells {g : Nat} {A B : World} {k : Nat} {c : Array Value} {t : TypeId} {p : Nat × Nat} (h : Off g A k) (r : Rd g A B) (hc : A.heap[k]? = some (.cells c t p)) : B.heap[k]? = some (.cells c t p) := r.2.2.2.2.1 k _ hc rfl h.1
theorem cell_obj {w : World} {a : Addr} {v : Value} (h : w.cell? a = some v) : ∃ c t p, w.heap[a.block]? = some (.cells c t p) := by
  unfold World.cell? at h
  split at h
  · rename_i c t p hc
    exact ⟨c, t, p, hc⟩
  · cases h
theorem Off.cell {g : Nat} {A B : World} {a : Addr} {v : Value} (h : Off g A a.block) (r : Rd g A B) (hc : A.cell? a = some v) : B.cell? a = some v := by
  obtain ⟨c, t, p, h1⟩ := cell_obj hc
  exact (World.cell?_of_block ((h.cells r h1).trans h1.symm)).trans hc
theorem add_block (ad : Addr) (i : Nat) : (ad.add i).block = ad.block := by unfold Addr.add; first | rfl | (split <;> rfl)
def OffRow (g : Nat) (w : World) (A : Option Addr) : Prop := ∀ ad, A = some ad → Off g w ad.block
theorem RowAt.rd {g : Nat} {A B : World} {a : Option Addr} {l : List QJour.S62} (h : RowAt A a l) (ho : OffRow g A a) (r : Rd g A B) : RowAt B a l := by
  intro i hi
  obtain ⟨ad, e, h1, h2⟩ := h i hi
  exact ⟨ad, e, (show Off g A (ad.add (i * 2)).block from (add_block ad _).symm ▸ ho ad e).cell r h1, Off.cell (a := ⟨(ad.add (i * 2)).block, (ad.add (i * 2)).off + 1, none⟩) (show Off g A (ad.add (i * 2)).block from (add_block ad _).symm ▸ ho ad e) r h2⟩
def homeW (l : List QJour.S62) : List Pg := l.map pgOf ++ [⟨1, zeros 256⟩]
theorem homeW_take (l : List QJour.S62) (i : Nat) (h : i < l.length) : (l.map pgOf).take (i + 1) = (l.map pgOf).take i ++ [pgOf l[i]] := by
  rw [List.take_add_one, List.getElem?_map, List.getElem?_eq_getElem h]
  rfl
theorem homeW_pre (l : List QJour.S62) (i : Nat) (h : i < l.length) : ((l.map pgOf).take i ++ [pgOf l[i]]) <+: homeW l := by
  rw [← homeW_take l i h]
  exact (List.take_prefix _ _).trans (List.prefix_append _ _)
theorem home_tells {w : World} {g b c : Nat} {A : Option Addr} {l : List QJour.S62} (hz : QJour.journal_filled.f 3 ⟨#[]⟩ = some (zeros 256)) (hg : g < w.heap.size) (hb : w.heap[b]? = some (.cells #[.slice A l.length c] 35 (0, 0))) (hbo : Off g w b) (hr : RowAt w A l) (hro : OffRow g w A) (hn : l.length ≤ 4096) :
    Tells 69 #[.pointer (some ⟨b, 0, none⟩)] encPg (Rd g) (homeW l) w := by
  intro ly J Jx W hW hJ hJx hY h0
  have hdW : ∀ V, J [] V → True := fun _ _ => trivial
  have rW : Rd g w W := Rd.of_below hW hg
  refine (callsIn_wide (n := 30)).1 ?_
  refine callsIn_of_wp Try.func69 rfl trivial ?_ rfl
  simp only [Try.ntmps69, List.size_toArray, List.length_cons, List.length_nil, Nat.reduceAdd, Nat.reduceSub, Array.replicate_succ, Array.replicate_zero, List.push_toArray, List.append_toArray, List.nil_append, List.cons_append]
  have hbW := hbo.cells rW hb
  have zb : W.cell? ⟨b, 0, none⟩ = some (.slice A l.length c) := (blk_cell hbW 0).trans rfl
  have fb := blk_frozen hbW 0
  gi_wp2
  gi_loopw [7] (fun p wr => ∃ i : Nat, p = .int .i64 (i : Int) ∧ i ≤ l.length ∧ J ((l.map pgOf).take i) wr ∧ Rd g W wr) (fun p wr => l.length - (intOf p).toNat)
  case atStart => exact ⟨0, rfl, Nat.zero_le _, h0, Rd.refl _ _⟩
  case round =>
    obtain ⟨i, rfl, hi, hj, hrd⟩ := hrel
    by_cases hlt : i < l.length
    · obtain ⟨ad, rfl, q0, q1⟩ := (hr.rd hro (rW.trans hrd)) i hlt
      have hj2 : J ((l.map pgOf).take i) (wr.alloc (.cells #[.int .i64 l[i].f0, .string l[i].f1] 62)) := hJ.alloc _ hj
      obtain ⟨fn, tmps, assign, body, hy, hR⟩ := hY _ (pgOf l[i]) _ hj2 (homeW_pre l i hlt) (30 - 1)
      simp only [encPg, pgOf] at hy hR
      have c1 : ((i : Int) < (l.length : Int)) = True := eq_true (by omega)
      have c2 : ((0 : Int) ≤ (i : Int)) = True := eq_true (by omega)
      have c3 : (i < l.length) = True := eq_true hlt
      have hu62 := Try.underlying62
      have HY := Aside0.mk hY
      have HJ := Aside0.mk hj2
      have HN := Aside0.mk hn
      have HD := Aside0.mk hrd
      have HG : Aside0 (g < wr.heap.size) := ⟨Nat.lt_of_lt_of_le hg (Nat.le_trans hW.size hrd.2.2.2.1)⟩
      clear hY hj hj2 hrd h0 hr hro hz hg hbo hn hW hi rW hdW hb hbW zb fb
      gi_wp2
      refine hR.mono ?_
      rintro e W3 (⟨rfl, hJ3, hk3, _⟩ | ⟨rfl, hJx3, _⟩)
      · have HJ3 := Aside0.mk hJ3
        have HK3 := Aside0.mk hk3
        clear hJ3 hk3
        have cn : (!true) = false := rfl
        have cw : wrap64 ((i : Int) + 1) = (i : Int) + 1 := MixBase.wrap64_small (by omega) (by have := HN.out; omega)
        gi_wp2
        rw [cw]
        refine ⟨⟨i + 1, rfl, hlt, ?_, HD.out.trans ((Rd.of_below (below_alloc (Below.refl _ _) _) HG.out).trans HK3.out)⟩, ?_⟩
        · rw [homeW_take l i hlt]
          exact HJ3.out
        · show l.length - ((i : Int) + 1).toNat < l.length - (i : Int).toNat
          omega
      · have HJ3 := Aside0.mk hJx3
        clear hJx3
        gi_wp2
        refine bodyPost_ret (results_none rfl _ _ _) rfl ?_
        exact ⟨⟨_, rfl⟩, .inr ⟨_, homeW_pre l i hlt, HJ3.out⟩⟩
    · have c1 : ((i : Int) < (l.length : Int)) = False := eq_false (by omega)
      have HJ := Aside0.mk hj
      have HD := Aside0.mk hrd
      have HY := Aside0.mk hY
      have HX := Aside0.mk hJ
      have HN := Aside0.mk hn
      clear hY hj hrd h0 hr hro hg hbo hn hW rW hdW hb hbW zb fb hJ
      gi_wp2
      refine ⟨trivial, callsIn_wide.2 ((QJour.journal_filled.calls 3 ⟨#[]⟩ _ _ hz).mono ?_)⟩
      rintro e w5 ⟨rfl, hb5⟩
      have ei : i = l.length := by omega
      have hx : (l.map pgOf).take i = l.map pgOf := by rw [ei]; exact List.take_of_length_le (by rw [List.length_map]; exact Nat.le_refl _)
      have hj5 : J (l.map pgOf) w5 := by
        have := HX.out _ wr w5 none HJ.out ⟨hb5.os, hb5.tape, hb5.output, hb5.size, fun k hk _ => hb5.block k hk⟩ (fun r e => by cases e)
        rwa [hx] at this
      obtain ⟨fn, tmps, assign, body, hy, hR⟩ := HY.out _ ⟨1, zeros 256⟩ _ hj5 (List.prefix_refl _) (30 - 1)
      simp only [encPg] at hy hR
      clear hb5 hj5 hx ei HJ HX HY
      gi_wp2
      refine hR.mono ?_
      rintro e W3 (⟨rfl, hJ3, hk3, _⟩ | ⟨rfl, hJx3, _⟩)
      · have HJ3 := Aside0.mk hJ3
        clear hJ3 hk3
        gi_wp2
        go_end0
        exact ⟨⟨_, rfl⟩, .inl HJ3.out⟩
      · have HJ3 := Aside0.mk hJx3
        clear hJx3
        gi_wp2
        go_end0
        exact ⟨⟨_, rfl⟩, .inr ⟨_, List.prefix_refl _, HJ3.out⟩⟩
end Go.Proofs.Ytgageigcjeaenaa.Disk
