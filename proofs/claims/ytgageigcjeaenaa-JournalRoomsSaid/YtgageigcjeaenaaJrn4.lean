/- Disks: contracts and laws, walked by hand. No condition beside those that each theorem names. -/
import Derived.Test.YtgageigcjeaenaaJrn3
import Derived.Maps.OwnIn
import Derived.Maps.OwnOps
import Derived.Maps.Views
import Derived.RangeFuncNested
import Derived.RangeFuncBound
import Derived.RangeFuncCalls
import Derived.RangeFuncLeaves
import Derived.Shelf.Abstract
import Derived.Shelf.RegionOpen
import Derived.OwnWalkIn
import Derived.TacticsInMore
import Derived.LoopNIn
import Derived.LoopIn
namespace Go.Proofs.Ytgageigcjeaenaa.Disk
open Go.RowKit Go.Proofs.YtgageigcjeaenaaW.PrintWords Go.Proofs.YtgageigcjeaenaaW.PrintLast Go.Proofs.YtgageigcjeaenaaW.PrintMore Go.Proofs.Ytgageigcjeaenaa.MixBase Go.Proofs.Ytgageigcjeaenaa.MixPlain Go.Proofs.Ytgageigcjeaenaa.NumBase Go.Proofs.Ytgageigcjeaenaa.PadPlain
attribute [local go_sem] max2_int min2_int max_two min_two max_three min_three max_four min_four
set_option linter.unusedVariables false
set_option linter.unusedSimpArgs false
theorem C_rd {g : Nat} {A B : World} {a : Option Addr} {n : Nat} {l : List QJour.S62} (h : Kd.C QJour.k62 A a n l) (ho : OffRow g A a) (r : Rd g A B) : Kd.C QJour.k62 B a n l :=
  ⟨h.1, h.2.1, fun hn => by
    obtain ⟨ad, e, hc⟩ := h.2.2 hn
    exact ⟨ad, e, fun j p hp => by
      obtain ⟨c, h1, h2, h3⟩ := hc j p hp
      exact ⟨c, h1, h2, fun i u hu => Off.cell (a := ad.add (j * 2 + i)) ((add_block ad _).symm ▸ ho ad e) r (h3 i u hu)⟩⟩⟩
theorem rowAt_of_C {w : World} {a : Option Addr} {l : List QJour.S62} (h : Kd.C QJour.k62 w a l.length l) : RowAt w a l := by
  intro i hi
  obtain ⟨ad, e, h1, h2⟩ := QJour.at_T62 h (i : Int) (by omega) (by omega)
  have hr : QJour.rd_T62 l (i : Int) = l[i] := by
    show l.getD _ _ = _
    rw [List.getD_eq_getElem?_getD, show ((i : Int)).toNat = i by omega, List.getElem?_eq_getElem hi]
    rfl
  rw [hr, show ((i : Int)).toNat = i by omega] at h1 h2
  exact ⟨ad, e, h1, h2⟩
/-- May a group be written? -/
def mayL (pg : Int → Bool) : List Int → List QJour.S62 → Int
  | _, [] => 0
  | seen, p :: l => if pg p.f0 = true then (if p.f1.size = 256 then (if p.f0 ∈ seen then 9 else mayL pg (p.f0 :: seen) l) else 3) else 1
def mayS (m : Int) (pg : Int → Bool) (l : List QJour.S62) : Int := if (l.length : Int) > m then 10 else mayL pg [] l
def SeenIs (D : DataW Unit) (seen : List Int) : Prop := Maps.IsMap D ∧ ∀ a : Int, (Lit.int .i64 a).wf = true → D.atKey (.int .i64 a) (.lit (.int .i64 0)) = .lit (.int .i64 (if a ∈ seen then 1 else 0))
theorem seen_lookup {W : World} {b n : Nat} {D : DataW Unit} {seen : List Int} {a : Int} (h : W.ownsMap Try.prog 3 (plainElem (H := Unit) Try.prog 3) b n D) (hs : SeenIs D seen) (hw : (Lit.int .i64 a).wf = true) :
    (Instr.lookup 105 (.map (some b)) (.int .i64 a) false).run Try.prog W = .ok (.int .i64 (if a ∈ seen then 1 else 0)) W := by
  obtain ⟨c, hl, hat, _⟩ := h.lookup_int (Maps.int_keyed Try.underlying3) Try.underlying105 Try.underlying3 (Try.zeroValue3 _) (Maps.keyOf_int_mk Try.underlying3 hw)
  have h2 := (hs.2 a hw).symm.trans hat
  have h3 : (if a ∈ seen then (1 : Int) else 0) = c := by
    have e1 := DataW.lit.inj h2
    exact (Lit.int.inj e1).2
  rw [h3]
  exact hl
theorem seen_update {W : World} {b n : Nat} {D : DataW Unit} {seen : List Int} {a : Int} (h : W.ownsMap Try.prog 3 (plainElem (H := Unit) Try.prog 3) b n D) (hn : n < maxLen) (hs : SeenIs D seen) (hw : (Lit.int .i64 a).wf = true) :
    ∃ w', (Instr.mapUpdate 105 (.map (some b)) (.int .i64 a) (.int .i64 1)).run Try.prog W = .ok () w' ∧ (∃ D' : DataW Unit, w'.ownsMap Try.prog 3 (plainElem (H := Unit) Try.prog 3) b (n + 1) D' ∧ SeenIs D' (a :: seen)) ∧ W.grownBy w' (some b) := by
  obtain ⟨w', h1, h2, h3⟩ := h.update (Maps.int_keyed Try.underlying3) Try.underlying105 hn (Maps.keyOf_int_mk Try.underlying3 hw) (plainElem_int (H := Unit) (a := 1) Try.underlying3 (by decide))
  refine ⟨w', h1, ⟨_, h2, Maps.IsMap.put hs.1 _ _, ?_⟩, h3⟩
  intro x hx
  by_cases e : x = a
  · subst e
    rw [Maps.atKey_put_same hs.1 (show WideAt.IsKeyLit (.int .i64 x) from trivial)]
    simp
  · rw [Maps.atKey_put_other (by intro h; injection h with _ h; exact e h), hs.2 x hx]
    simp [e]
set_option maxRecDepth 100000 in
theorem jmay_calls {w : World} {A : Option Addr} {c k : Nat} {l : List QJour.S62} {N m : Int} {pg : Int → Bool} (hC : Kd.C QJour.k62 w A l.length l) (hn : l.length ≤ 5864062014805) (hP : QJour.journal_Pages.f k N = some m) (hpg : ∀ a, QJour.journal_page.f k N a = some (pg a)) (hwf : ∀ a, pg a = true → (Lit.int .i64 a).wf = true) :
    Calls Try.prog 51 #[.int .i64 N, .slice A l.length c] w fun e w' => e = .returned (.int .i64 (mayS m pg l)) ∧ Below w.heap.size w w' := by
  have hR := rowAt_of_C hC
  have HP := Aside0.mk hP
  have HPG := Aside0.mk hpg
  have HR := Aside0.mk hR
  have HW := Aside0.mk hwf
  have HN := Aside0.mk hn
  have hu62 := Try.underlying62
  clear hP hpg hR hwf hC hn
  unfold mayS
  by_cases hm : (l.length : Int) > m
  · rw [if_pos hm]
    have c1 : ((l.length : Int) > m) = True := eq_true hm
    have c1' : (m < (l.length : Int)) = True := eq_true hm
    go_enter Try.func51, Try.ntmps51
    go_wp2_with (go_at_call 39; refine (QJour.journal_Pages.calls k N m _ HP.out).mono ?_; rintro e wc ⟨rfl, ⟨nd, rfl⟩⟩)
    go_ret
    exact ⟨rfl, pw_below_drewN (Below.refl _ _) _⟩
  · rw [if_neg hm]
    have c1 : ((l.length : Int) > m) = False := eq_false hm
    have hmm := @run_makeMap Try.prog
    have c1' : (m < (l.length : Int)) = False := eq_false hm
    go_enter Try.func51, Try.ntmps51
    go_wp2_with (go_at_call 39; refine (QJour.journal_Pages.calls k N m _ HP.out).mono ?_; rintro e wc ⟨rfl, ⟨nd, rfl⟩⟩)
    have hcur := hu62
    obtain ⟨W2, hW2⟩ : ∃ W2, (w.drewN nd).alloc (.map #[] 0) = W2 := ⟨_, rfl⟩
    have hown0 : W2.ownsMap Try.prog 3 (plainElem (H := Unit) Try.prog 3) (w.drewN nd).heap.size 0 (.map []) := by rw [← hW2]; exact World.ownsMap_made _ _ _ _
    have hb2 : Below w.heap.size w W2 := by rw [← hW2]; exact (pw_below_drewN (Below.refl _ _) nd).alloc (Nat.le_refl _) _
    have HO := Aside0.mk hown0
    have HB := Aside0.mk hb2
    clear hown0 hb2 hcur
    go_wp2
    have HO : Aside0 (W2.ownsMap Try.prog 3 (plainElem (H := Unit) Try.prog 3) w.heap.size 0 (.map [])) := ⟨HO.out⟩
    (try rw [hW2])
    clear hW2 hmm c1 c1'
    go_loopg [16] l.length (fun kq v16 wr => ∃ (i : Nat) (seen : List Int) (D : DataW Unit), v16 = .int .i64 (i : Int) ∧ i ≤ l.length ∧ Aside0 (kq = l.length - i) ∧ Aside0 (wr.ownsMap Try.prog 3 (plainElem (H := Unit) Try.prog 3) w.heap.size i D) ∧ Aside0 (SeenIs D seen) ∧ Aside0 (mayL pg [] l = mayL pg seen (l.drop i)) ∧ Aside0 (Below w.heap.size w wr))
    case atStart => exact ⟨0, [], .map [], rfl, Nat.zero_le _, ⟨rfl⟩, HO, ⟨⟨⟨_, rfl⟩, fun a _ => rfl⟩⟩, ⟨rfl⟩, HB⟩
    case round =>
      clear HO HB
      obtain ⟨i, seen, D, rfl, hi, hkq, HO, HS, HM, HB⟩ := hrel
      by_cases hil : i < l.length
      · obtain ⟨ad, rfl, q0, q1⟩ := HR.out i hil
        replace q0 := (HB.out.cell (World.block_lt_of_cell? _ _ q0)).trans q0
        replace q1 := (HB.out.cell (World.block_lt_of_cell? _ _ q1)).trans q1
        have hM : mayL pg seen (l.drop i) = (if pg l[i].f0 = true then (if l[i].f1.size = 256 then (if l[i].f0 ∈ seen then 9 else mayL pg (l[i].f0 :: seen) (l.drop (i + 1))) else 3) else 1) := by rw [List.drop_eq_getElem_cons hil]; rfl
        generalize l[i] = S at q0 q1 hM
        have c1 : ((i : Int) < (l.length : Int)) = True := eq_true (by omega)
        have c2 : ((0 : Int) ≤ (i : Int)) = True := eq_true (by omega)
        have c3 : (i < l.length) = True := eq_true hil
        by_cases hp : pg S.f0 = true
        · rw [if_pos hp] at hM
          have hk := HW.out _ hp
          have HM2 := Aside0.mk hM
          clear hM
          by_cases hz : S.f1.size = 256
          · have hzb : ((S.f1.size : Int) != 256) = false := bne_eq_false_iff_eq.2 (by omega)
            have HM3 := Aside0.mk (HM2.out.trans (if_pos hz))
            clear HM2 hz
            by_cases hs : S.f0 ∈ seen
            · have HM4 := Aside0.mk (HM3.out.trans (if_pos hs))
              clear HM3
              have HHS := Aside0.mk hs
              clear hs
              go_wp2_with (go_at_call 73; refine (QJour.journal_page.calls k N S.f0 _ _ (HPG.out _)).mono ?_; rintro e wc ⟨rfl, ⟨nd2, rfl⟩⟩; rw [hp]; have hlk := seen_lookup ((HO.out.alloc (.cells #[.int .i64 S.f0, .string S.f1] 62)).kept (w' := (wr.alloc (.cells #[.int .i64 S.f0, .string S.f1] 62)).drewN nd2) (row := none) ⟨rfl, rfl, rfl, Nat.le_refl _, fun _ _ _ => rfl⟩ (by simp)) HS.out hk; rw [if_pos HHS.out] at hlk)
              go_ret
              exact ⟨by rw [HM.out, HM4.out]; rfl, pw_below_drewN (HB.out.alloc HB.out.size _) _⟩
            · have HM4 := Aside0.mk (HM3.out.trans (if_neg hs))
              clear HM3
              have HHS := Aside0.mk hs
              clear hs
              go_wp2_with (go_at_call 73; refine (QJour.journal_page.calls k N S.f0 _ _ (HPG.out _)).mono ?_; rintro e wc ⟨rfl, ⟨nd2, rfl⟩⟩; rw [hp]; have hown2 := ((HO.out.alloc (.cells #[.int .i64 S.f0, .string S.f1] 62)).kept (w' := (wr.alloc (.cells #[.int .i64 S.f0, .string S.f1] 62)).drewN nd2) (row := none) ⟨rfl, rfl, rfl, Nat.le_refl _, fun _ _ _ => rfl⟩ (by simp)); have hlk := seen_lookup hown2 HS.out hk; rw [if_neg HHS.out] at hlk; obtain ⟨wu, hup, ⟨D', hD', hS'⟩, hgr⟩ := seen_update hown2 (by have := HN.out; show i < maxLen; unfold maxLen; omega) HS.out hk; have HD2 := Aside0.mk hD'; have HS2 := Aside0.mk hS'; have HG2 := Aside0.mk hgr; clear hown2 hD' hS' hgr)
              go_roundg (l.length - (i + 1))
              case measure => have := hkq.out; omega
              case rel => exact ⟨i + 1, S.f0 :: seen, D', by have := HN.out; rw [MixBase.wrap64_small (by omega) (by omega)]; rfl, by omega, ⟨rfl⟩, HD2, HS2, ⟨by rw [HM.out, HM4.out]⟩, ⟨(pw_below_drewN (HB.out.alloc HB.out.size _) nd2).grown HG2.out (by have := HB.out.size; show w.heap.size ≤ (wr.alloc _).heap.size; rw [World.size_alloc]; omega) (fun k e => by cases e; exact Nat.le_refl _)⟩⟩
          · have hzb : ((S.f1.size : Int) != 256) = true := bne_iff_ne.2 (by omega)
            have HM3 := Aside0.mk (HM2.out.trans (if_neg hz))
            clear HM2 hz
            go_wp2_with (go_at_call 73; refine (QJour.journal_page.calls k N S.f0 _ _ (HPG.out _)).mono ?_; rintro e wc ⟨rfl, ⟨nd2, rfl⟩⟩; rw [hp])
            go_ret
            exact ⟨by rw [HM.out, HM3.out]; rfl, pw_below_drewN (HB.out.alloc HB.out.size _) _⟩
        · rw [if_neg hp] at hM
          have hp' : pg S.f0 = false := Bool.eq_false_iff.2 hp
          have HM2 := Aside0.mk hM
          clear hM
          go_wp2_with (go_at_call 73; refine (QJour.journal_page.calls k N S.f0 _ _ (HPG.out _)).mono ?_; rintro e wc ⟨rfl, ⟨nd2, rfl⟩⟩; rw [hp'])
          go_ret
          exact ⟨by rw [HM.out, HM2.out]; rfl, pw_below_drewN (HB.out.alloc HB.out.size _) _⟩
      · have c1 : ((i : Int) < (l.length : Int)) = False := eq_false (by omega)
        go_wp2
        go_ret
        exact ⟨by rw [HM.out, List.drop_eq_nil_of_le (by omega)]; rfl, HB.out⟩
end Go.Proofs.Ytgageigcjeaenaa.Disk
