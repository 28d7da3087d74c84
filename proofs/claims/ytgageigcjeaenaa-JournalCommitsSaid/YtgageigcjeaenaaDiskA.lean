/- Disks: contracts and laws, walked by hand. No condition beside those that each theorem names. -/
import Derived.Test.YtgageigcjeaenaaDisk9
import Derived.Test.YtgageigcjeaenaaDiskActs
import Derived.StillTailTactics
namespace Go.Proofs.Ytgageigcjeaenaa.Disk
open Go.RowKit Go.Proofs.YtgageigcjeaenaaW.PrintWords Go.Proofs.YtgageigcjeaenaaW.PrintLast Go.Proofs.YtgageigcjeaenaaW.PrintMore Go.Proofs.Ytgageigcjeaenaa.MixBase Go.Proofs.Ytgageigcjeaenaa.MixPlain Go.Proofs.Ytgageigcjeaenaa.NumBase Go.Proofs.Ytgageigcjeaenaa.PadPlain
attribute [local go_sem] max2_int min2_int max_two min_two max_three min_three max_four min_four
set_option linter.unusedVariables false
set_option linter.unusedSimpArgs false
theorem kind_b (a n : Int) (hn : 0 < n) (hn1 : n < 1000) (w : World) : Calls Try.prog 36 #[.int .i64 a, .int .i64 n] w fun e w' => e = .returned (.int .i64 (kindS a n)) ∧ Below w.heap.size w w' :=
  (kind_calls a n hn hn1 w).mono (by rintro e w' ⟨rfl, ⟨nd, rfl⟩⟩; exact ⟨rfl, pw_below_drewN (Below.refl _ _) nd⟩)
set_option maxRecDepth 100000 in
set_option maxHeartbeats 4000000 in
theorem DiskLogs_walk (TA : Option Addr) (tn tc : Nat) (Sx : Nat → ByteArray) (A : Option Addr) (c : Nat) (l : List Act3) (W : World) (hT : TextsAt W TA tn Sx) (htn : tn ≤ 1000000000000000000) (htc : tn ≤ tc) (hA : ActsAt W A l) (hc : l.length ≤ c) (hll : l.length ≤ 1000000000000000000) :
    Calls Try.prog 8 #[.slice TA tn tc, .slice A l.length c] W fun e w' => e = .returned (.bool true) ∧ Below W.heap.size W w' := by
  have hu53 := Try.underlying53
  have hu62 := Try.underlying62
  have HA := Aside0.mk hA
  have HT := Aside0.mk hT
  have HTn := Aside0.mk htn
  by_cases h2 : 2000 < l.length
  case pos =>
    have b2 : decide (2000 < (l.length : Int)) = true := decide_eq_true (by omega)
    clear hA hT h2 hc htc htn hll
    go_enter Try.func8, Try.ntmps8
    go_wp2_with (go_at_call 26; refine (wakes_calls _).mono ?_; rintro e wa ⟨rfl, hb⟩; have HB0 := Aside0.mk hb; clear hb)
    go_ret
    exact ⟨rfl, HB0.out⟩
  have b2 : decide (2000 < (l.length : Int)) = false := decide_eq_false (by omega)
  have HL := Aside0.mk h2
  clear hA hT h2 htn hll
  go_enter Try.func8, Try.ntmps8
  go_wp2_with (go_at_call 26; refine (wakes_calls _).mono ?_; rintro e wa ⟨rfl, hb⟩; have HB0 := Aside0.mk hb; clear hb)
  go_loopg [5, 6] 64 (fun kq v5 v6 wr => ∃ (i : Nat), v6 = .int .i64 (i : Int) ∧ i ≤ 64 ∧ Aside0 (kq = 64 - i) ∧ Aside0 (wr.ownsRow W.heap.size 9 1 v5 i (strs (blks tn Sx i))) ∧ Aside0 (Below W.heap.size W wr))
  case atStart => exact ⟨0, rfl, Nat.zero_le _, ⟨rfl⟩, ⟨own_none _ _ _⟩, HB0⟩
  case round =>
    clear HB0
    obtain ⟨i, rfl, hi, hkq, HO, HB⟩ := hrel
    obtain ⟨A5, c5, rfl, _⟩ := own_slice HO.out
    by_cases hil : i < 64
    · have hi0 : 0 ≤ (i : Int) := by omega
      have hiz : (i : Int) < 64 := by omega
      have hb64 : decide ((i : Int) < 64) = true := decide_eq_true hiz
      have HI := Aside0.mk hil
      by_cases hit : i < tn
      · obtain ⟨ad, hAd, q⟩ := HT.out i hit
        subst hAd
        have q' := cellB HB.out q
        have hitz : (i : Int) < (tn : Int) := by omega
        have hbt : decide ((i : Int) < (tn : Int)) = true := decide_eq_true hitz
        have et : textOf tn Sx i = Sx i := by unfold textOf; rw [if_pos hit]
        have es := blks_succ tn Sx i
        rw [et] at es
        clear q hit
        go_wp2_with (first
          | (go_at_call 31; refine (block_calls _ _).mono ?_; rintro e wk ⟨rfl, hb⟩; have HO2 := Aside0.mk ((Moved.of_below hb (fun _ => False)).own HO.out (fun _ _ h => h)); have HB2 := Aside0.mk (below_step HB.out hb); clear hb)
          | ((with_reducible refine gate_builtin (b := .append) (xs := #[.tmp 30, .tmp 33]) rfl ?_); at_builtin; refine print_append_cells (w0 := W) W.heap.size rfl (.tmp 30) (.tmp 33) 37 9 (.string ⟨#[]⟩) 1 16 rfl Try.underlying37 info9 rfl (by decide) (by decide) (.slice A5 i c5) i (strs (blks tn Sx i)) [.string (blockS (Sx i))] rfl rfl rfl (by intro u hu; simp at hu; subst hu; rfl) HO2.out HB2.out (below_size HB2.out) (by have := HI.out; omega) ?_; intro v1 w3 ho hb _ _; have HO3 := Aside0.mk ho; have HB3 := Aside0.mk hb; clear ho hb))
        go_roundg (64 - (i + 1))
        case measure => have := hkq.out; have := HI.out; omega
        case rel => exact ⟨i + 1, by first | rfl | (rw [wrap64_small (by omega) (by omega)]; rfl), by omega, ⟨rfl⟩, ⟨by rw [es, show strs (blks tn Sx i ++ [blockS (Sx i)]) = strs (blks tn Sx i) ++ [.string (blockS (Sx i))] by simp [strs]]; exact HO3.out⟩, HB3⟩
      · have hitz : ¬ (i : Int) < (tn : Int) := by omega
        have hbt : decide ((i : Int) < (tn : Int)) = false := decide_eq_false hitz
        have et : textOf tn Sx i = ⟨#[]⟩ := by unfold textOf; rw [if_neg hit]
        have es := blks_succ tn Sx i
        rw [et] at es
        clear hit
        go_wp2_with (first
          | (go_at_call 31; refine (block_calls _ _).mono ?_; rintro e wk ⟨rfl, hb⟩; have HO2 := Aside0.mk ((Moved.of_below hb (fun _ => False)).own HO.out (fun _ _ h => h)); have HB2 := Aside0.mk (below_step HB.out hb); clear hb)
          | ((with_reducible refine gate_builtin (b := .append) (xs := #[.tmp 30, .tmp 33]) rfl ?_); at_builtin; refine print_append_cells (w0 := W) W.heap.size rfl (.tmp 30) (.tmp 33) 37 9 (.string ⟨#[]⟩) 1 16 rfl Try.underlying37 info9 rfl (by decide) (by decide) (.slice A5 i c5) i (strs (blks tn Sx i)) [.string (blockS ⟨#[]⟩)] rfl rfl rfl (by intro u hu; simp at hu; subst hu; rfl) HO2.out HB2.out (below_size HB2.out) (by have := HI.out; omega) ?_; intro v1 w3 ho hb _ _; have HO3 := Aside0.mk ho; have HB3 := Aside0.mk hb; clear ho hb))
        go_roundg (64 - (i + 1))
        case measure => have := hkq.out; have := HI.out; omega
        case rel => exact ⟨i + 1, by first | rfl | (rw [wrap64_small (by omega) (by omega)]; rfl), by omega, ⟨rfl⟩, ⟨by rw [es, show strs (blks tn Sx i ++ [blockS ⟨#[]⟩]) = strs (blks tn Sx i) ++ [.string (blockS ⟨#[]⟩)] by simp [strs]]; exact HO3.out⟩, HB3⟩
    · obtain rfl : i = 64 := by omega
      clear hil hi hkq
      obtain ⟨zf, hzf⟩ : ∃ zf, zf = wr.heap.size := ⟨_, rfl⟩
      have HV5 : Aside0 (∀ k, (Value.slice A5 64 c5).ownBlock = some k → k < zf) := ⟨fun k hk => by rw [hzf]; exact own_lt HO.out k hk⟩
      have HO' := HO.out
      go_wp2_with (go_at_call 35; refine (Of_good (blks tn Sx 64) (by rw [blks_length]; exact HO.out) (blks_of _ _)).mono ?_; rintro e wd ⟨g, vb, rfl, hd, hb⟩; have S1 : Aside0 (St W wd g vb (.slice none 0 0) ⟨blks tn Sx 64, [], 0, false, false⟩) := ⟨⟨hd.lower HB.out.size, below_step HB.out hb⟩⟩; have HO1 := Aside0.mk ((Moved.of_below hb (fun _ => False)).own HO.out (fun _ _ h => h)); have HF1 : Aside0 (∀ k, Foot g vb (.slice none 0 0) k → zf ≤ k) := ⟨fun k hk => by rw [hzf]; exact (hd.foot_lt hk).1⟩; clear hd hb)
      clear HO'
      have HLI : Aside0 (LI (blks tn Sx 64) 0 ⟨blks tn Sx 64, [], 0, false, false⟩) := ⟨⟨rfl, rfl, rfl, rfl, blks_length _ _ _, fun p hp => by cases hp⟩⟩
      generalize hbl : blks tn Sx 64 = bl at HO1 S1 HLI
      have HBL : Aside0 (bl.length = 64) := ⟨by rw [← hbl]; exact blks_length _ _ _⟩
      clear hbl hzf HO HB HT
      go_loopg [44] l.length (fun kq v44 wr => ∃ (i : Nat) (vl : Value) (d : Dk), v44 = .int .i64 (i : Int) ∧ i ≤ l.length ∧ Aside0 (kq = l.length - i) ∧ Aside0 (St W wr g vb vl d) ∧ Aside0 (LI bl i d) ∧ Aside0 (∀ k, Foot g vb vl k → zf ≤ k) ∧ Aside0 (wr.ownsRow W.heap.size 9 1 (.slice A5 64 c5) 64 (strs bl)))
      case atStart => exact ⟨0, _, _, rfl, Nat.zero_le _, ⟨rfl⟩, S1, HLI, HF1, HO1⟩
      case round =>
        clear S1 HLI HF1 HO1
        obtain ⟨i, vl, d, rfl, hi, hkq, S, HLI, HF, HO⟩ := hrel
        by_cases hil : i < l.length
        · obtain ⟨e0, he⟩ : ∃ e, l[i]? = some e := ⟨_, List.getElem?_eq_getElem hil⟩
          obtain ⟨ad, hAd, q0, q1, q2⟩ := HA.out i e0 he
          subst hAd
          have Q1 := Aside0.mk q1
          have Q2 := Aside0.mk q2
          have hi0 : 0 ≤ (i : Int) := by omega
          have hiz : (i : Int) < (l.length : Int) := by omega
          have HLg : Aside0 ((d.log.length + 1) * 24 ≤ 140737488355328) := ⟨by have := HLI.out.2.2.1; have := HL.out; omega⟩
          have S6 := Aside0.mk (S.out.below (below_drew1 (Below.refl _ _)))
          have HO6 := Aside0.mk ((Moved.of_below (below_drew1 (Below.refl wr.heap.size wr)) (fun _ => False)).own HO.out (fun _ _ h => h))
          clear q0 q1 q2 he
          go_wp2
          go_region_held3 (fun w' => w'.cell? ⟨(ad.add (i * 3)).block, (ad.add (i * 3)).off + 1, none⟩ = some (.int .i64 e0.at_) ∧ w'.cell? ⟨(ad.add (i * 3)).block, (ad.add (i * 3)).off + 2, none⟩ = some (.string e0.text)) (first | exact ⟨cellB S6.out.2 Q1.out, cellB S6.out.2 Q2.out⟩ | exact ⟨cellB S7.out.2 Q1.out, cellB S7.out.2 Q2.out⟩) (first
            | (go_at_call 36; refine (kind_b e0.at_ 64 (by decide) (by decide) _).mono ?_; rintro e wk ⟨rfl, hb⟩; have n1 := Aside0.mk (S6.out.below hb); have n2 := Aside0.mk ((Moved.of_below hb (fun _ => False)).own HO6.out (fun _ _ h => h)); clear S6 HO6; have S6 := n1; have HO6 := n2; clear n1 n2 hb)
            | (go_at_call 31; refine (block_calls _ _).mono ?_; rintro e wk ⟨rfl, hb⟩; have n1 := Aside0.mk (S6.out.below hb); have n2 := Aside0.mk ((Moved.of_below hb (fun _ => False)).own HO6.out (fun _ _ h => h)); clear S6 HO6; have S6 := n1; have HO6 := n2; clear n1 n2 hb)
            | (go_at_call 30; refine (Write_st (kindS e0.at_ 64) (blockS e0.text) S6.out HLg.out).mono ?_; rintro e wv ⟨vl2, rfl, hs, hf, hm⟩; have S7 := Aside0.mk hs; have HO7 := Aside0.mk (hm.own HO6.out (fun k hk hk' => by have := HV5.out k hk; have := HF.out k hk'; omega)); have HF7 : Aside0 (∀ k, Foot g vb vl2 k → zf ≤ k) := ⟨fun k hk => (hf k hk).elim (fun h => HF.out k h) (fun h => by have := HF.out g (Or.inl rfl); have := (S6.out.foot (Or.inl rfl : Foot g vb vl g)).2; omega)⟩; clear hs hf hm))
          go_wp2
          go_roundg (l.length - (i + 1))
          case measure => have := hkq.out; omega
          case rel => exact ⟨i + 1, vl2, _, by have := HL.out; rw [wrap64_small (by omega) (by omega)]; rfl, by omega, ⟨rfl⟩, S7, ⟨LI_step HLI.out _ (kindS_in e0.at_ 64 (by decide)).1 (kindS_in e0.at_ 64 (by decide)).2 _ (blockS_size _)⟩, HF7, HO7⟩
        · obtain rfl : i = l.length := by omega
          clear hil hi hkq
          have HLn := Aside0.mk HLI.out.2.2.1
          have hlog : d.log.length * 24 ≤ 140737488355328 := by have := HLI.out.2.2.1; have := HL.out; omega
          have HLg := Aside0.mk hlog
          clear hlog
          go_wp2_with (go_at_call 19; refine (Log_calls S.out.1 HLg.out).mono ?_; rintro e wl ⟨v1, rfl, ho, hb⟩; rw [HLn.out] at ho; obtain ⟨A1, c1, rfl, _⟩ := own_slice ho; have S8 := Aside0.mk (S.out.below hb); have HG8 := Aside0.mk ho; have HO8 := Aside0.mk ((Moved.of_below hb (fun _ => False)).own HO.out (fun _ _ h => h)); clear ho hb)
          go_loopg [66] l.length (fun kq v66 wr => ∃ (i : Nat), v66 = .int .i64 (i : Int) ∧ i ≤ l.length ∧ Aside0 (kq = l.length - i) ∧ Aside0 (St W wr g vb vl d) ∧ Aside0 (wr.ownsRow W.heap.size 62 2 (.slice A1 l.length c1) l.length (pgs d.log)) ∧ Aside0 (wr.ownsRow W.heap.size 9 1 (.slice A5 64 c5) 64 (strs (replay bl (d.log.take i)))))
          case atStart => exact ⟨0, rfl, Nat.zero_le _, ⟨rfl⟩, S8, ⟨own_less HG8.out S.out.2.size⟩, HO8⟩
          case round =>
            clear S8 HG8 HO8 S HO
            obtain ⟨i, rfl, hi, hkq, S, HG, HO⟩ := hrel
            by_cases hil : i < l.length
            · obtain ⟨p, hp⟩ : ∃ p, d.log[i]? = some p := ⟨_, List.getElem?_eq_getElem (by rw [HLn.out]; exact hil)⟩
              have hpm : p ∈ d.log := List.mem_of_getElem? hp
              obtain ⟨hp0, hp1⟩ := HLI.out.2.2.2.2.2 p hpm
              have htk : d.log.take (i + 1) = d.log.take i ++ [p] := by rw [List.take_add_one, hp]; rfl
              have HTk := Aside0.mk htk
              obtain ⟨gl, cg, cur, eg, _, hgl, _, hatg⟩ := own_form HG.out (by omega)
              injection eg with eg1 eg2 eg3
              subst eg1 eg3
              obtain ⟨hq0, hq1⟩ := pgs_at d.log i p hp
              have q0 := (blk_cell hgl (i * 2)).trans ((hatg (i * 2) (by omega)).trans hq0)
              have q1 := (blk_cell hgl (i * 2 + 1)).trans ((hatg (i * 2 + 1) (by omega)).trans hq1)
              obtain ⟨bb, c6, cur6, eb, _, hbb, hc6, hat6⟩ := own_form HO.out (by omega)
              injection eb with eb1 eb2 eb3
              subst eb1 eb3
              have hlr : (replay bl (d.log.take i)).length = 64 := by rw [replay_length]; exact HBL.out
              have r0 := (blk_cell hbb p.at_.toNat).trans ((hat6 p.at_.toNat (by omega)).trans (strs_at _ p.at_.toNat (by rw [hlr]; omega)))
              have f0 := blk_frozen hbb p.at_.toNat
              generalize (replay bl (d.log.take i)).getD p.at_.toNat ⟨#[]⟩ = xx at r0
              have hi0 : 0 ≤ (i : Int) := by omega
              have hiz : (i : Int) < (l.length : Int) := by omega
              have bp0 : decide (p.at_ < 0) = false := decide_eq_false (by omega)
              have bp1 : decide (64 ≤ p.at_) = false := decide_eq_false (by omega)
              have hp64 : p.at_ < ((64 : Nat) : Int) := by omega
              have HBB := Aside0.mk hbb
              have HGL := Aside0.mk hgl
              clear hgl hbb hatg hat6 hq0 hq1 hpm htk hlr hp
              go_wp2
              have r0d : wr.drew.cell? ⟨bb, p.at_.toNat, none⟩ = some (.string xx) := r0
              have f0d : wr.drew.frozen? ⟨bb, p.at_.toNat, none⟩ = false := f0
              have Sd := Aside0.mk (S.out.below (below_drew1 (Below.refl wr.heap.size wr)))
              have HGd := Aside0.mk ((Moved.of_below (below_drew1 (Below.refl wr.heap.size wr)) (fun _ => False)).own HG.out (fun _ _ h => h))
              have HOd := Aside0.mk ((Moved.of_below (below_drew1 (Below.refl wr.heap.size wr)) (fun _ => False)).own HO.out (fun _ _ h => h))
              go_still_tail 12, (by kernel_rfl)
              change wpList _ _ _ _ _ wr.drew
              generalize wr.drew = w2 at r0d f0d Sd HGd HOd ⊢
              go_wp2
              go_roundg (l.length - (i + 1))
              case measure => have := hkq.out; omega
              case rel =>
                have hbz : bb < zf := HV5.out bb rfl
                have hbW : W.heap.size ≤ bb := own_base HO.out bb rfl
                have hm : Moved w2 (w2.setCell ⟨bb, p.at_.toNat, none⟩ (.string p.data)) (fun k => k = bb) := Moved.set (S := fun k => k = bb) rfl _
                refine ⟨i + 1, by have := HL.out; first | rfl | (rw [wrap64_small (by omega) (by omega)]; rfl), by omega, ⟨rfl⟩, ⟨Sd.out.moved hm (fun k hk e => by have := HF.out k hk; omega) (fun k _ e => by omega)⟩, ⟨hm.own HGd.out (fun k hk e => own_apart HGd.out HOd.out (by decide) k hk (by rw [e]; rfl))⟩, ⟨?_⟩⟩
                have hst := (World.ownsRow.stored HOd.out p.at_.toNat (.string p.data)).1
                rw [HTk.out, replay_snoc, show strs ((replay bl (d.log.take i)).set p.at_.toNat p.data) = (strs (replay bl (d.log.take i))).set p.at_.toNat (.string p.data) by simp [strs, List.map_set]]
                exact hst
            · obtain rfl : i = l.length := by omega
              clear hil hi hkq
              have hfull : d.log.take l.length = d.log := by rw [← HLn.out]; exact List.take_length
              have hrb : replay bl d.log = d.blocks := HLI.out.2.2.2.1.symm
              have HO2 : Aside0 (wr.ownsRow W.heap.size 9 1 (.slice A5 64 c5) 64 (strs d.blocks)) := ⟨by have h := HO.out; rw [hfull, hrb] at h; exact h⟩
              have HBk : Aside0 (d.blocks.length * 16 ≤ 140737488355328) := ⟨by rw [HLI.out.2.2.2.2.1]; decide⟩
              have HBk2 : Aside0 (d.blocks.length ≤ 1000000000000000000) := ⟨by rw [HLI.out.2.2.2.2.1]; decide⟩
              clear hfull hrb HO
              go_wp2_with (first
                | (go_at_call 24; refine (Image_calls S.out.1 HBk.out).mono ?_; rintro e wi ⟨v2, rfl, ho, hb⟩; have HI1 := Aside0.mk ho; have S9 := Aside0.mk (S.out.below hb); have HO3 := Aside0.mk ((Moved.of_below hb (fun _ => False)).own HO2.out (fun _ _ h => h)); clear ho hb)
                | (go_at_call 23; refine (Same_true HI1.out HO3.out HBk2.out).mono ?_; rintro e ws ⟨rfl, hb⟩; have S10 := Aside0.mk (S9.out.below hb); clear hb))
              go_ret
              exact ⟨by first | rfl | simp, S10.out.2⟩
end Go.Proofs.Ytgageigcjeaenaa.Disk
