/- Disks: contracts and laws, walked by hand. No condition beside those that each theorem names. -/
import Derived.Test.YtgageigcjeaenaaJrn4
import Derived.RangeFuncNested
namespace Go.Proofs.Ytgageigcjeaenaa.Disk
open Go.RowKit Go.Proofs.YtgageigcjeaenaaW.PrintWords Go.Proofs.YtgageigcjeaenaaW.PrintLast Go.Proofs.YtgageigcjeaenaaW.PrintMore Go.Proofs.Ytgageigcjeaenaa.MixBase Go.Proofs.Ytgageigcjeaenaa.MixPlain Go.Proofs.Ytgageigcjeaenaa.NumBase Go.Proofs.Ytgageigcjeaenaa.PadPlain
attribute [local go_sem] max2_int min2_int max_two min_two max_three min_three max_four min_four
set_option linter.unusedVariables false
set_option linter.unusedSimpArgs false
def commitD (m : Int) (pg : Int → Bool) (cp : Int) (l : List QJour.S62) (lst : List ByteArray) (tp : ByteArray) (d : Dk) : Dk × Int :=
  if mayS m pg l ≠ 0 ∨ l.length = 0 then (d, mayS m pg l) else doW d (allW cp l lst tp)
theorem Commit_nil (v : Value) (A : Option Addr) (n c : Nat) (w : World) : Calls Try.prog 21 #[.pointer none, .slice A n c] w fun e w' => e = .returned (.int .i64 18) ∧ w' = w := by
  go_enter Try.func21, Try.ntmps21
  go_wp2
  go_ret
  exact ⟨rfl, rfl⟩
set_option maxRecDepth 100000 in
set_option maxHeartbeats 600000 in
theorem Commit_calls {W w : World} {g k : Nat} {vb vl : Value} {d : Dk} {A : Option Addr} {c : Nat} {l : List QJour.S62} {m cp : Int} {pg : Int → Bool} {lst : List ByteArray} {tp : ByteArray} (h : St W w g vb vl d)
    (hC : Kd.C QJour.k62 w A l.length l) (hlc : l.length ≤ c) (hro : OffRow g w A) (hn : l.length ≤ 5864062014805) (hP : QJour.journal_Pages.f k (d.blocks.length : Int) = some m) (hpg : ∀ a, QJour.journal_page.f k (d.blocks.length : Int) a = some (pg a)) (hwf : ∀ a, pg a = true → (Lit.int .i64 a).wf = true)
    (hz : QJour.journal_filled.f 3 ⟨#[]⟩ = some (zeros 256)) (hcp : QJour.journal_copies.f k (d.blocks.length : Int) = some cp) (hcp0 : 0 ≤ cp) (hcp1 : cp ≤ 100000)
    (hX : mayS m pg l = 0 → 0 < l.length → QJour.journal_list.f k l = some lst ∧ lst.length ≤ 4096 ∧ QJour.journal_top.f k l = some tp ∧ l.length ≤ 4096 ∧ (d.log.length + (allW cp l lst tp).length) * 24 ≤ 140737488355328) :
    Calls Try.prog 21 #[.pointer (some ⟨g, 0, none⟩), .slice A l.length c] w fun e w' => ∃ vl', e = .returned (.int .i64 (commitD m pg cp l lst tp d).2) ∧ St W w' g vb vl' (commitD m pg cp l lst tp d).1 ∧ (∀ k, Foot g vb vl' k → Foot g vb vl k ∨ w.heap.size ≤ k) ∧ Rd g w w' := by
  have H := Aside0.mk h
  have HC := Aside0.mk hC
  have HLC := Aside0.mk hlc
  have HRO := Aside0.mk hro
  have HN := Aside0.mk hn
  have HP := Aside0.mk hP
  have HPG := Aside0.mk hpg
  have HW := Aside0.mk hwf
  have HZ := Aside0.mk hz
  have HCP := Aside0.mk hcp
  have H0 := Aside0.mk hcp0
  have H1 := Aside0.mk hcp1
  have HX := Aside0.mk hX
  have hg : Aside0 (g < w.heap.size) := ⟨(h.foot (Or.inl rfl)).2⟩
  have HMay := Aside0.mk (jmay_calls (w := w) (A := A) (c := c) (k := k) (l := l) (N := (d.blocks.length : Int)) (m := m) (pg := pg) hC hn hP hpg hwf)
  clear h hC hlc hro hn hP hpg hwf hz hcp hcp0 hcp1 hX
  unfold commitD
  by_cases hm : mayS m pg l = 0
  · by_cases hl : l.length = 0
    · rw [if_pos (Or.inr hl)]
      have c1 : ((mayS m pg l) != 0) = false := bne_eq_false_iff_eq.2 hm
      have c2 : ((l.length : Int) == 0) = true := beq_iff_eq.2 (by omega)
      have HM := Aside0.mk hm
      clear hm hl
      go_enter Try.func21, Try.ntmps21
      go_wp2_with (first
        | (go_at_call 34; refine (Len_calls H.out.1).mono ?_; rintro e w' ⟨rfl, hw⟩; obtain rfl := hw.symm)
        | (go_at_call 51; refine HMay.out.mono ?_; rintro e w' ⟨rfl, hb⟩; have HB := Aside0.mk hb; clear hb))
      go_ret
      exact ⟨vl, rfl, H.out.below HB.out, fun k hk => Or.inl hk, Rd.of_below HB.out hg.out⟩
    · rw [if_neg (by omega)]
      have c1 : ((mayS m pg l) != 0) = false := bne_eq_false_iff_eq.2 hm
      have c2 : ((l.length : Int) == 0) = false := beq_eq_false_iff_ne.2 (by omega)
      have HX2 := Aside0.mk (HX.out hm (by omega))
      have HM := Aside0.mk hm
      clear hm hl HX
      go_enter Try.func21, Try.ntmps21
      go_wp2_with (first
        | (go_at_call 34; first | (have q0 := H; refine (Len_calls H.out.1).mono ?_; rintro e w' ⟨rfl, hw⟩; obtain rfl := hw.symm) | (refine (Len_calls S1.out.1).mono ?_; rintro e w' ⟨rfl, hw⟩; obtain rfl := hw.symm))
        | (go_at_call 51; refine HMay.out.mono ?_; rintro e w1 ⟨rfl, hb⟩; have HB := Aside0.mk hb; have S1 := Aside0.mk (H.out.below hb); have HF := Aside0.mk (fun k hk => (H.out.foot (k := k) hk).2); clear hb H)
        | (go_at_call 52; refine (all_calls _ A l.length c _).mono ?_; rintro e w2 ⟨b1, b2, rfl, g1, g2, d2, d1, hb⟩; have HB2 := Aside0.mk hb; have S2 := Aside0.mk (S1.out.below hb); have G1 := Aside0.mk g1; have G2 := Aside0.mk g2; have D1 := Aside0.mk d1; have D2 := Aside0.mk d2; clear hb g1 g2 d1 d2 S1))
      obtain ⟨hls, hln, htp, hn4, hlg⟩ := HX2.out
      have hb : Below w.heap.size w w2 := below_step HB.out HB2.out
      have hr2 : Rd g w w2 := Rd.of_below hb hg.out
      have hg2 : g < w2.heap.size := Nat.lt_of_lt_of_le hg.out hb.size
      have hft : ∀ k, FootOf g w2 k → k < w.heap.size := fun k hk => HF.out k ((S2.out.1.footOf k).1 hk)
      have ho1 : Off g w2 b1 := ⟨fun hf => by have := hft _ hf; have := G1.out; have := HB.out.size; omega, blk_lt D1.out⟩
      have ho2 : Off g w2 b2 := ⟨fun hf => by have := hft _ hf; have := G2.out; have := HB.out.size; omega, blk_lt D2.out⟩
      have hro2 : OffRow g w2 A := fun ad e => (HRO.out ad e).rd hr2
      have hC2 : Kd.C QJour.k62 w2 A l.length l := C_rd HC.out HRO.out hr2
      have hT := all_tells (k := k) (N := (d.blocks.length : Int)) (cp := cp) (lst := lst) (tp := tp) HZ.out hg2 ⟨_, _, _, S2.out.1.2.1⟩ (fun k hk => Nat.lt_of_lt_of_le (hft k hk) hb.size) D2.out D1.out ho2 ho1 (rowAt_of_C hC2) (fun V r => C_rd hC2 hro2 r) HLC.out hro2 hn4 HCP.out H0.out H1.out hls hln htp
      have hK := write_calls S2.out (allW cp l lst tp) hT (enters_of Try.func74 (by kernel_rfl) rfl) hlg
      refine hK.mono ?_
      rintro e w3 ⟨vl', rfl, s1, s2, s3⟩
      have HS := Aside0.mk s1
      have HS2 := Aside0.mk s2
      have HS3 := Aside0.mk (hr2.trans s3)
      clear hK hT hC2 hro2 ho1 ho2 hft hg2 hr2 hlg hn4 htp hln hls s1 s2 s3
      go_wp2
      go_ret
      exact ⟨vl', rfl, HS.out, fun k hk => (HS2.out k hk).imp_right (fun hl => Nat.le_trans hb.size hl), HS3.out⟩
  · rw [if_pos (Or.inl hm)]
    have c1 : ((mayS m pg l) != 0) = true := bne_iff_ne.2 hm
    go_enter Try.func21, Try.ntmps21
    go_wp2_with (first
      | (go_at_call 34; refine (Len_calls H.out.1).mono ?_; rintro e w' ⟨rfl, hw⟩; obtain rfl := hw.symm)
      | (go_at_call 51; refine HMay.out.mono ?_; rintro e w' ⟨rfl, hb⟩; have HB := Aside0.mk hb; clear hb))
    go_ret
    exact ⟨vl, rfl, H.out.below HB.out, fun k hk => Or.inl hk, Rd.of_below HB.out hg.out⟩
def mkTxt : ByteArray := ⟨#[106, 114, 110, 108]⟩
set_option maxRecDepth 100000 in
theorem told_none {w : World} {s : ByteArray} {k : Nat} {r : Int × Int} (pv : Value) (hG : QJour.num_Get.f k s 4 2 = some r) (hp : QJour.strings_HasPrefix.f s ⟨#[106, 114, 110, 108]⟩ = some false) :
    Calls Try.prog 45 #[pv, .string s] w fun e w' => e = .returned (.tuple #[.slice none 0 0, .int .i64 0]) ∧ Below w.heap.size w w' := by
  have HG := Aside0.mk hG
  have HP := Aside0.mk hp
  clear hG hp
  go_enter Try.func45, Try.ntmps45
  go_wp2_with (first
    | (go_at_call 65; refine (QJour.num_Get.calls k s 4 2 r.1 r.2 _ HG.out).mono ?_; rintro e w' ⟨rfl, ⟨nd, rfl⟩⟩)
    | (go_at_call 66; refine (QJour.strings_HasPrefix.calls s _ false _ HP.out).mono ?_; rintro e w' ⟨rfl, ⟨nd2, rfl⟩⟩))
  go_ret2
  exact ⟨rfl, pw_below_drewN (Below.refl _ _) _⟩
theorem Recover_nil (w : World) : Calls Try.prog 16 #[.pointer none] w fun e w' => e = .returned (.tuple #[.int .i64 0, .int .i64 18]) ∧ w' = w := by
  go_enter Try.func16, Try.ntmps16
  go_wp2_with (go_at_call 33; refine (Read_nil 1 w).mono ?_; rintro e w' ⟨rfl, hw⟩; obtain rfl := hw.symm)
  go_ret2
  exact ⟨rfl, rfl⟩
set_option maxRecDepth 100000 in
theorem Recover_none {W w : World} {g k : Nat} {vb vl : Value} {d : Dk} {s : ByteArray} {r : Int × Int} (h : St W w g vb vl d) (hr : readD d 1 = (s, 0)) (hG : QJour.num_Get.f k s 4 2 = some r) (hp : QJour.strings_HasPrefix.f s ⟨#[106, 114, 110, 108]⟩ = some false) :
    Calls Try.prog 16 #[.pointer (some ⟨g, 0, none⟩)] w fun e w' => e = .returned (.tuple #[.int .i64 0, .int .i64 0]) ∧ Below w.heap.size w w' := by
  have H := Aside0.mk h
  have HR := Aside0.mk hr
  have HT := Aside0.mk (told_none (w := w) (.pointer (some ⟨g, 0, none⟩)) hG hp)
  clear h hr hG hp
  go_enter Try.func16, Try.ntmps16
  go_wp2_with (first
    | (go_at_call 33; refine (Read_calls 1 H.out.1).mono ?_; rintro e w' ⟨rfl, hw⟩; obtain rfl := hw.symm; rw [HR.out])
    | (go_at_call 45; refine HT.out.mono ?_; rintro e w' ⟨rfl, hb⟩; have HB := Aside0.mk hb; clear hb))
  go_ret2
  exact ⟨rfl, HB.out⟩
end Go.Proofs.Ytgageigcjeaenaa.Disk
