/- Disks: contracts and laws, walked by hand. No condition beside those that each theorem names. -/
import Derived.Test.YtgageigcjeaenaaDiskE
import Derived.Test.YtgageigcjeaenaaDiskB
namespace Go.Proofs.Ytgageigcjeaenaa.Disk
open Go.RowKit Go.Proofs.YtgageigcjeaenaaW.PrintWords Go.Proofs.YtgageigcjeaenaaW.PrintLast Go.Proofs.YtgageigcjeaenaaW.PrintMore Go.Proofs.Ytgageigcjeaenaa.MixBase Go.Proofs.Ytgageigcjeaenaa.MixPlain Go.Proofs.Ytgageigcjeaenaa.NumBase Go.Proofs.Ytgageigcjeaenaa.PadPlain
attribute [local go_sem] max2_int min2_int max_two min_two max_three min_three max_four min_four
set_option linter.unusedVariables false
set_option linter.unusedSimpArgs false
def s62 (p : Pg) : S62 := ⟨p.at_, p.data⟩
theorem pgs_C {w : World} {base n : Nat} {v : Value} {l : List Pg} (h : w.ownsRow base 62 2 v n (pgs l)) : ∃ A c, v = .slice A (l.map s62).length c ∧ (l.map s62).length ≤ c ∧ Kd.C k62 w A (l.map s62).length (l.map s62) := by
  have hl : l.length = n := by have := h.1; rw [pgs_length] at this; omega
  subst hl
  obtain ⟨A, c, rfl, hm⟩ := own_slice h
  rw [List.length_map]
  have hc : l.length ≤ c := by
    rcases h.2 with ⟨e, e2⟩ | ⟨_, cap, _, e, _, _, h1, _⟩
    · omega
    · injection e with _ _ e; omega
  refine ⟨A, c, rfl, hc, ⟨List.length_map _, by simp only [maxLen] at hm; omega, fun hpos => ?_⟩⟩
  obtain ⟨bb, c2, cur, e, _, hh, _, hat⟩ := own_form h hpos
  injection e with e1 e2 e3
  subst e1
  refine ⟨_, rfl, fun j p hp => ?_⟩
  rw [List.getElem?_map] at hp
  obtain ⟨q, hq, rfl⟩ := Option.map_eq_some_iff.1 hp
  have hj := (List.getElem?_eq_some_iff.1 hq).1
  obtain ⟨h1, h2⟩ := pgs_at l j q hq
  refine ⟨[.int .i64 q.at_, .string q.data], rfl, k62_mk w (s62 q), fun i u hu => ?_⟩
  have ea : ∀ m, (⟨bb, 0, none⟩ : Addr).add m = ⟨bb, m, none⟩ := fun m => by unfold Addr.add; split <;> simp_all
  rw [ea]
  match i, hu with
  | 0, hu =>
    simp at hu
    subst hu
    exact (blk_cell hh (j * 2)).trans ((hat (j * 2) (by omega)).trans h1)
  | 1, hu =>
    simp at hu
    subst hu
    exact (blk_cell hh (j * 2 + 1)).trans ((hat (j * 2 + 1) (by omega)).trans h2)
theorem samepages_l0 (l : List S62) (hl : l.length ≤ 1000000000000000000) (d : Nat) : ∀ (k i : Nat), i + d = l.length → d < k → aumbryref09_SamePages.l0 k l l (l.length : Int) (i : Int) = some true := by
  induction d with
  | zero =>
    intro k i hi hk
    obtain ⟨k, rfl⟩ : ∃ m, k = m + 1 := ⟨k - 1, by omega⟩
    simp only [aumbryref09_SamePages.l0]
    rw [if_neg (by omega)]
  | succ d ih =>
    intro k i hi hk
    obtain ⟨k, rfl⟩ : ∃ m, k = m + 1 := ⟨k - 1, by omega⟩
    simp only [aumbryref09_SamePages.l0]
    rw [if_pos (by omega), if_pos (by omega), if_pos (by omega), if_pos (by omega)]
    simp only [beq_self_eq_true, Bool.not_true, Bool.or_self, Bool.false_eq_true, if_false]
    rw [wrap64_small (by omega) (by omega), show (i : Int) + 1 = ((i + 1 : Nat) : Int) by omega]
    exact ih k (i + 1) (by omega) (by omega)
theorem SamePages_true {w : World} {base base' n n' : Nat} {v v' : Value} {l : List Pg} (h : w.ownsRow base 62 2 v n (pgs l)) (h' : w.ownsRow base' 62 2 v' n' (pgs l)) (hl : l.length ≤ 1000000000000000000) :
    Calls Try.prog 18 #[v, v'] w fun e w' => e = .returned (.bool true) ∧ Below w.heap.size w w' := by
  obtain ⟨A, c, rfl, hc, hC⟩ := pgs_C h
  obtain ⟨A', c', rfl, hc', hC'⟩ := pgs_C h'
  refine (aumbryref09_SamePages.calls ((l.map s62).length + 1) A c (l.map s62) A' c' (l.map s62) true w hC hc hC' hc' ?_).mono ?_
  · unfold aumbryref09_SamePages.f
    rw [if_pos rfl]
    exact samepages_l0 (l.map s62) (by rw [List.length_map]; exact hl) (l.map s62).length _ 0 (by omega) (by omega)
  · rintro e w' ⟨rfl, ⟨nd, rfl⟩⟩
    exact ⟨rfl, pw_below_drewN (Below.refl _ _) _⟩
set_option maxRecDepth 100000 in
set_option maxHeartbeats 8000000 in
theorem DiskPlays_walk (n : Int) (A : Option Addr) (c : Nat) (l : List Act3) (W : World) (hn : (Lit.int .i64 n).wf = true) (hA : ActsAt W A l) (hc : l.length ≤ c) (hl : l.length * 32 ≤ 140737488351232) : Calls Try.prog 5 #[.int .i64 n, .slice A l.length c] W fun e w' => e = .returned (.bool true) ∧ Below W.heap.size W w' := by
  have hu53 := Try.underlying53
  have hu39 := Try.underlying39
  have HA := Aside0.mk hA
  have HL := Aside0.mk hl
  by_cases hb : 64 ≤ n ∧ n ≤ 2048
  case neg =>
    have HBd := Aside0.mk hb
    clear hA hl hb hn hc
    go_enter Try.func5, Try.ntmps5
    go_wp2_with (first
      | (go_at_call 26; refine (wakes_calls _).mono ?_; rintro e wa ⟨rfl, hb⟩; have HB0 := Aside0.mk hb; clear hb)
      | (go_at_call 27; refine (New_bad n HBd.out _).mono ?_; rintro e wb ⟨rfl, hw⟩; obtain rfl := hw.symm)
      | (go_at_call 28; refine (RefNew_bad n HBd.out _).mono ?_; rintro e wb ⟨rfl, hw⟩; obtain rfl := hw.symm))
    go_ret
    exact ⟨by first | rfl | simp, HB0.out⟩
  obtain ⟨m, rfl⟩ : ∃ m : Nat, n = (m : Int) := ⟨n.toNat, by omega⟩
  have H64 : Aside0 (64 ≤ m) := ⟨by omega⟩
  have H2k : Aside0 (m ≤ 2048) := ⟨by omega⟩
  clear hA hl hb hn
  go_enter Try.func5, Try.ntmps5
  go_wp2_with (first
    | (go_at_call 26; refine (wakes_calls _).mono ?_; rintro e wa ⟨rfl, hb⟩; have HB0 := Aside0.mk hb; clear hb)
    | (go_at_call 27; refine (New_st m H64.out H2k.out HB0.out).mono ?_; rintro e wn ⟨g, vb, rfl, hs, _, _⟩; have S1 := Aside0.mk hs; clear hs)
    | (go_at_call 28; refine (RefNew_calls m H64.out H2k.out _).mono ?_; rintro e wr0 ⟨h, ub, rfl, hs, hb⟩; have T1 : Aside0 (Two W wr0 g vb (.slice none 0 0) h ub (.slice none 0 0) (newD m)) := ⟨⟨S1.out.below hb, ⟨⟨Nat.le_trans S1.out.2.size hs.1, hs.2.1, own_less hs.2.2.1 S1.out.2.size, own_less hs.2.2.2 S1.out.2.size⟩, below_step S1.out.2 hb⟩, fun k hk hk' => by have := (S1.out.foot hk).2; have := (hs.foot_lt hk').1; omega⟩⟩; clear hs hb))
  go_loopg [36] l.length (fun kq v36 wr => ∃ (i : Nat) (vl ul : Value) (d : Dk), v36 = .int .i64 (i : Int) ∧ i ≤ l.length ∧ Aside0 (kq = l.length - i) ∧ Aside0 (Two W wr g vb vl h ub ul d) ∧ Aside0 (d.log.length ≤ i) ∧ Aside0 (d.blocks.length = m))
  case atStart => exact ⟨0, _, _, _, rfl, Nat.zero_le _, ⟨rfl⟩, T1, ⟨Nat.le_refl _⟩, ⟨wk_len m⟩⟩
  case round =>
    clear S1 T1
    obtain ⟨i, vl, ul, d, rfl, hi, hkq, T, HLo, HBm⟩ := hrel
    by_cases hil : i < l.length
    · obtain ⟨e0, he⟩ : ∃ e, l[i]? = some e := ⟨_, List.getElem?_eq_getElem hil⟩
      obtain ⟨ad, hAd, q0, q1, q2⟩ := HA.out i e0 he
      subst hAd
      have q0' := cellB T.out.1.2 q0
      have q1' := cellB T.out.1.2 q1
      have q2' := cellB T.out.1.2 q2
      have hi0 : 0 ≤ (i : Int) := by omega
      have hiz : (i : Int) < (l.length : Int) := by omega
      have HLg : Aside0 ((d.log.length + 1) * 24 ≤ 140737488355328) := ⟨by have := HLo.out; have := HL.out; omega⟩
      clear q0 q1 q2 he
      go_wp2_with (go_at_call 29; refine (does_calls e0 T.out HLg.out).mono ?_; rintro e w2 ⟨rfl, vl2, ul2, d2, hT2, hg1, hg2⟩; have T2 := Aside0.mk hT2; have HG1 := Aside0.mk hg1; have HG2 := Aside0.mk hg2; clear hT2 hg1 hg2)
      go_roundg (l.length - (i + 1))
      case measure => have := hkq.out; omega
      case rel => exact ⟨i + 1, vl2, ul2, d2, by have := HL.out; first | rfl | (rw [wrap64_small (by omega) (by omega)]; rfl), by omega, ⟨rfl⟩, T2, ⟨by have := HG1.out; have := HLo.out; omega⟩, ⟨HG2.out.trans HBm.out⟩⟩
    · obtain rfl : i = l.length := by omega
      clear hil hi hkq
      have HLg : Aside0 (d.log.length * 24 ≤ 140737488355328) := ⟨by have := HLo.out; have := HL.out; omega⟩
      have HLg2 : Aside0 (d.log.length ≤ 1000000000000000000) := ⟨by have := HLo.out; have := HL.out; omega⟩
      have HBk : Aside0 (d.blocks.length * 16 ≤ 140737488355328) := ⟨by rw [HBm.out]; have := H2k.out; omega⟩
      have HBk2 : Aside0 (d.blocks.length ≤ 1000000000000000000) := ⟨by rw [HBm.out]; have := H2k.out; omega⟩
      obtain ⟨Au, cu, eu, _⟩ := own_slice T.out.2.1.1.2.2.1
      obtain ⟨Al, cl, el, _⟩ := own_slice T.out.2.1.1.2.2.2
      subst eu el
      have T3 := Aside0.mk (T.out.below (below_drew1 (Below.refl wr.heap.size wr)))
      go_wp2
      go_region_held3 (fun w' => w'.cell? ⟨h, 1, none⟩ = some (.slice Al d.log.length cl) ∧ w'.cell? ⟨h, 0, none⟩ = some (.slice Au d.blocks.length cu)) (first | exact ⟨(blk_cell T3.out.2.1.1.2.1 1).trans rfl, (blk_cell T3.out.2.1.1.2.1 0).trans rfl⟩) (first
        | (go_at_call 19; refine (Log_calls T3.out.1.1 HLg.out).mono ?_; rintro e w4 ⟨v1, rfl, ho, hb⟩; have HG := Aside0.mk ho; have n1 := Aside0.mk (T3.out.below hb); clear T3; have T3 := n1; clear n1 ho hb)
        | (go_at_call 18; refine (SamePages_true HG.out T3.out.2.1.1.2.2.2 HLg2.out).mono ?_; rintro e w5 ⟨rfl, hb⟩; have n1 := Aside0.mk (T3.out.below hb); clear T3; have T3 := n1; clear n1 hb)
        | (go_at_call 24; refine (Image_calls T3.out.1.1 HBk.out).mono ?_; rintro e w6 ⟨v2, rfl, ho, hb⟩; have HI := Aside0.mk ho; have n1 := Aside0.mk (T3.out.below hb); clear T3; have T3 := n1; clear n1 ho hb)
        | (go_at_call 23; refine (Same_true HI.out T3.out.2.1.1.2.2.1 HBk2.out).mono ?_; rintro e w7 ⟨rfl, hb⟩; have n1 := Aside0.mk (T3.out.below hb); clear T3; have T3 := n1; clear n1 hb))
      go_wp2
      go_ret
      exact ⟨by first | rfl | simp, T3.out.1.2⟩
end Go.Proofs.Ytgageigcjeaenaa.Disk
