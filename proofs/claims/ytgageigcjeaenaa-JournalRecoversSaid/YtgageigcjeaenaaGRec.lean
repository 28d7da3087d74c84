/- Disks: contracts and laws, walked by hand. No condition beside those that each theorem names. -/
import Derived.Test.YtgageigcjeaenaaGJrn
import Derived.Test.YtgageigcjeaenaaGPl
import Derived.Test.YtgageigcjeaenaaGBig
import Derived.Test.YtgageigcjeaenaaGQJourx9
namespace Go.Proofs.Ytgageigcjeaenaa.Disk
open Go.RowKit Go.Proofs.YtgageigcjeaenaaW.PrintWords Go.Proofs.YtgageigcjeaenaaW.PrintLast Go.Proofs.YtgageigcjeaenaaW.PrintMore Go.Proofs.Ytgageigcjeaenaa.MixBase Go.Proofs.Ytgageigcjeaenaa.MixPlain Go.Proofs.Ytgageigcjeaenaa.NumBase Go.Proofs.Ytgageigcjeaenaa.PadPlain
attribute [local go_sem] max2_int min2_int max_two min_two max_three min_three max_four min_four
set_option linter.unusedVariables false
set_option linter.unusedSimpArgs false
theorem ifc {p q : Prop} [Decidable p] [Decidable q] {α : Type} {a b : α} (h : p ↔ q) : (if p then a else b) = if q then a else b := by
  by_cases hp : p
  · rw [if_pos hp, if_pos (h.1 hp)]
  · rw [if_neg hp, if_neg (fun x => hp (h.2 x))]
theorem rd_get (l : List QJour.S62) (i : Nat) (h : i < l.length) : QJour.rd_T62 l (i : Int) = l[i] := by
  show l.getD _ _ = _
  rw [List.getD_eq_getElem?_getD, show ((i : Int)).toNat = i by omega, List.getElem?_eq_getElem h]
  rfl
theorem refpage_f {k : Nat} {N fi m : Int} (hF : QJour.aumbryref10_First.f k N = some fi) (hP : QJour.aumbryref10_Pages.f k N = some m) (h0 : 0 ≤ fi) (h1 : 0 ≤ m) (h2 : fi + m ≤ 100000) (a : Int) : QJour.aumbryref10_Page.f k N a = some (pgF fi m a) := by
  unfold QJour.aumbryref10_Page.f pgF
  by_cases ha : a = 0
  · rw [if_pos ha, if_pos ha]
  · rw [if_neg ha, if_neg ha, hF, Option.bind_some]
    by_cases hb : a ≥ fi
    · rw [if_pos hb, if_pos hb, hP, Option.bind_some, Option.bind_some, MixBase.wrap64_small (i := fi + m) (by omega) (by omega), MixBase.wrap64_small (i := fi + m - 2) (by omega) (by omega), MixBase.wrap64_small (i := fi + m - 1) (by omega) (by omega)]
      refine congrArg some ?_
      exact decide_eq_decide.2 (by omega)
    · rw [if_neg hb, if_neg hb]
theorem take_drop_mem (l : List QJour.S62) (i j : Nat) (hj : j < i) (hi : i ≤ l.length) : ((l.take i).drop j) = l[j]'(by omega) :: (l.take i).drop (j + 1) := by
  rw [List.drop_eq_getElem_cons (by rw [List.length_take]; omega), List.getElem_take]
theorem rmay_l1 {N : Int} (l : List QJour.S62) (hl : l.length ≤ 4096) (i : Nat) (hi : i < l.length) {r : Int} (hE : Ev (fun k => QJour.aumbryref10_May.l0 k N l (l.length : Int) ((i + 1 : Nat) : Int)) r) : ∀ d j, j + d = i → Ev (fun k => QJour.aumbryref10_May.l1 k N l (i : Int) (j : Int) (l.length : Int) (i : Int)) (if l[i].f0 ∈ ((l.take i).drop j).map QJour.S62.f0 then 9 else r)
  | 0, j, h => by
    rw [List.drop_eq_nil_of_le (by rw [List.length_take]; omega), if_neg (by simp)]
    refine Ev.step (fun k => ?_) hE
    show QJour.aumbryref10_May.l1 (k + 1) N l _ _ _ _ = _
    rw [QJour.aumbryref10_May.l1, if_neg (by omega), MixBase.wrap64_small (i := (i : Int) + 1) (by omega) (by omega)]
    rfl
  | d + 1, j, h => by
    have ih := rmay_l1 l hl i hi hE d (j + 1) (by omega)
    rw [take_drop_mem l i j (by omega) (by omega), List.map_cons]
    have hj : j < l.length := by omega
    by_cases he : l[j].f0 = l[i].f0
    · rw [if_pos (by rw [he]; exact List.mem_cons_self ..)]
      refine Ev.step (f := fun _ => some 9) (fun k => ?_) (Ev.now _)
      show QJour.aumbryref10_May.l1 (k + 1) N l _ _ _ _ = _
      rw [QJour.aumbryref10_May.l1, if_pos (by omega), if_pos (by omega), if_pos (by omega), if_pos (by omega), if_pos (by omega), rd_get l j hj, rd_get l i hi, if_pos he]
    · have e2 : (l[i].f0 ∈ l[j].f0 :: List.map QJour.S62.f0 (List.drop (j + 1) (List.take i l))) ↔ (l[i].f0 ∈ List.map QJour.S62.f0 (List.drop (j + 1) (List.take i l))) := by
        rw [List.mem_cons]
        exact ⟨fun h => h.elim (fun h => absurd h.symm he) id, Or.inr⟩
      rw [ifc e2]
      refine Ev.step (fun k => ?_) ih
      show QJour.aumbryref10_May.l1 (k + 1) N l _ _ _ _ = _
      rw [QJour.aumbryref10_May.l1, if_pos (by omega), if_pos (by omega), if_pos (by omega), if_pos (by omega), if_pos (by omega), rd_get l j hj, rd_get l i hi, if_neg he, MixBase.wrap64_small (i := (j : Int) + 1) (by omega) (by omega)]
      rfl
theorem rmay_l0 {N : Int} {pg : Int → Bool} (hpg : ∀ a, Ev (fun k => QJour.aumbryref10_Page.f k N a) (pg a)) (l : List QJour.S62) (hl : l.length ≤ 4096) : ∀ d i, i + d = l.length → Ev (fun k => QJour.aumbryref10_May.l0 k N l (l.length : Int) (i : Int)) (mayL pg ((l.take i).map QJour.S62.f0).reverse (l.drop i))
  | 0, i, h => by
    rw [List.drop_eq_nil_of_le (by omega)]
    refine Ev.step (f := fun _ => some 0) (fun k => ?_) (Ev.now _)
    show QJour.aumbryref10_May.l0 (k + 1) N l _ _ = _
    rw [QJour.aumbryref10_May.l0, if_neg (by omega)]
  | d + 1, i, h => by
    have hi : i < l.length := by omega
    have ih := rmay_l0 hpg l hl d (i + 1) (by omega)
    rw [List.take_add_one, List.getElem?_eq_getElem hi] at ih
    have e1 : (List.map QJour.S62.f0 (List.take i l ++ (some l[i]).toList)).reverse = l[i].f0 :: (List.map QJour.S62.f0 (List.take i l)).reverse := by
      show (List.map QJour.S62.f0 (List.take i l ++ [l[i]])).reverse = _
      rw [List.map_append, List.reverse_append]
      rfl
    rw [e1] at ih
    have h1 := rmay_l1 l hl i hi ih i 0 (by omega)
    rw [List.drop_zero] at h1
    have hM : mayL pg ((l.take i).map QJour.S62.f0).reverse (l.drop i) = (if pg l[i].f0 = true then (if l[i].f1.size = 256 then (if l[i].f0 ∈ (l.take i).map QJour.S62.f0 then 9 else mayL pg (l[i].f0 :: ((l.take i).map QJour.S62.f0).reverse) (l.drop (i + 1))) else 3) else 1) := by
      rw [List.drop_eq_getElem_cons hi]
      show (if pg l[i].f0 = true then (if l[i].f1.size = 256 then (if l[i].f0 ∈ ((l.take i).map QJour.S62.f0).reverse then 9 else _) else 3) else 1) = _
      rw [ifc List.mem_reverse]
    rw [hM]
    by_cases hp : pg l[i].f0 = true
    · have hpe := hpg l[i].f0
      rw [hp] at hpe
      rw [if_pos hp]
      by_cases hz : l[i].f1.size = 256
      · rw [if_pos hz]
        refine Ev.step (fun k => ?_) (Ev.bind hpe (f := fun k t157 => if t157 = true then QJour.aumbryref10_May.l1 k N l (i : Int) 0 (l.length : Int) (i : Int) else some 1) ?_)
        · show QJour.aumbryref10_May.l0 (k + 1) N l _ _ = _
          rw [QJour.aumbryref10_May.l0, if_pos (by omega), if_pos (by omega), if_pos (by omega), rd_get l i hi, if_pos (show (l[i].f1.size : Int) = 256 by omega)]
        · exact h1
      · rw [if_neg hz]
        refine Ev.step (fun k => ?_) (Ev.bind hpe (f := fun k t157 => if t157 = true then some (3 : Int) else some 1) (Ev.now _))
        show QJour.aumbryref10_May.l0 (k + 1) N l _ _ = _
        rw [QJour.aumbryref10_May.l0, if_pos (by omega), if_pos (by omega), if_pos (by omega), rd_get l i hi, if_neg (show ¬ (l[i].f1.size : Int) = 256 by omega)]
    · have hpe := hpg l[i].f0
      rw [Bool.eq_false_iff.2 hp] at hpe
      rw [if_neg hp]
      refine Ev.step (fun k => ?_) (Ev.bind hpe (f := fun k t157 => if t157 = true then (if (l[i].f1.size : Int) = 256 then QJour.aumbryref10_May.l1 k N l (i : Int) 0 (l.length : Int) (i : Int) else some 3) else some 1) (Ev.now _))
      show QJour.aumbryref10_May.l0 (k + 1) N l _ _ = _
      rw [QJour.aumbryref10_May.l0, if_pos (by omega), if_pos (by omega), if_pos (by omega), rd_get l i hi]
theorem refmay_ev {N m : Int} {pg : Int → Bool} (hP : Ev (fun k => QJour.aumbryref10_Pages.f k N) m) (hm : m ≤ 4096) (hpg : ∀ a, Ev (fun k => QJour.aumbryref10_Page.f k N a) (pg a)) (l : List QJour.S62) : Ev (fun k => QJour.aumbryref10_May.f k N l) (mayS m pg l) := by
  refine Ev.bind hP (f := fun k t155 => (if (l.length : Int) > t155 then (some 10) else (QJour.aumbryref10_May.l0 k N l (l.length : Int) 0))) ?_
  unfold mayS
  by_cases h : (l.length : Int) > m
  · simp only [if_pos h]
    exact Ev.now _
  · simp only [if_neg h]
    have := rmay_l0 hpg l (by omega) l.length 0 (by omega)
    rw [List.take_zero, List.drop_zero] at this
    exact this
def cpS (cp : Int) (l : List QJour.S62) (n : Nat) : List QJour.S62 := (List.range n).map (fun j : Nat => ⟨cp + (j : Int), (QJour.rd_T62 l (j : Int)).f1⟩)
def lsS (lst : List ByteArray) (n : Nat) : List QJour.S62 := (List.range n).map (fun j : Nat => ⟨2 + (j : Int), rdOf ByteArray.empty lst (j : Int)⟩)
/-- What a group writes. -/
def wrS (cp : Int) (l : List QJour.S62) : List QJour.S62 := ((cpS cp l l.length ++ lsS (QJour.listS l) (QJour.listS l).length) ++ [⟨1, QJour.topS l⟩] ++ l) ++ [⟨1, zeros 256⟩]
theorem cpS_succ (cp : Int) (l : List QJour.S62) (n : Nat) : cpS cp l (n + 1) = cpS cp l n ++ [⟨cp + (n : Int), (QJour.rd_T62 l (n : Int)).f1⟩] := by unfold cpS; rw [List.range_succ, List.map_append]; rfl
theorem lsS_succ (l : List ByteArray) (n : Nat) : lsS l (n + 1) = lsS l n ++ [⟨2 + (n : Int), rdOf ByteArray.empty l (n : Int)⟩] := by unfold lsS; rw [List.range_succ, List.map_append]; rfl
theorem cpS_len (cp : Int) (l : List QJour.S62) (n : Nat) : (cpS cp l n).length = n := by unfold cpS; rw [List.length_map, List.length_range]
theorem lsS_len (l : List ByteArray) (n : Nat) : (lsS l n).length = n := by unfold lsS; rw [List.length_map, List.length_range]
theorem padB_none : QJour.padB ⟨#[]⟩ = zeros 256 := by
  unfold QJour.padB
  show ByteArray.empty ++ zeros 256 = _
  exact ByteArray.empty_append
theorem wrS_map (cp : Int) (l : List QJour.S62) : (wrS cp l).map pgOf = allW cp l (QJour.listS l) (QJour.topS l) := by
  unfold wrS allW homeW
  rw [List.map_append, List.map_append, List.map_append, List.map_append]
  have h1 : (cpS cp l l.length).map pgOf = upto (cpF cp l) l.length := by
    unfold cpS upto
    rw [List.map_map]
    refine List.map_congr_left (fun j hj => ?_)
    show (⟨cp + (j : Int), (QJour.rd_T62 l (j : Int)).f1⟩ : Pg) = ⟨cp + (j : Int), (l.getD j zS).f1⟩
    show (⟨cp + (j : Int), (l.getD ((j : Int)).toNat QJour.z62).f1⟩ : Pg) = ⟨cp + (j : Int), (l.getD j zS).f1⟩
    rw [show ((j : Int)).toNat = j by omega]
    rfl
  have h2 : (lsS (QJour.listS l) (QJour.listS l).length).map pgOf = upto (lsF (QJour.listS l)) (QJour.listS l).length := by
    unfold lsS upto
    rw [List.map_map]
    refine List.map_congr_left (fun j hj => ?_)
    show (⟨2 + (j : Int), rdOf ByteArray.empty (QJour.listS l) (j : Int)⟩ : Pg) = ⟨2 + (j : Int), (QJour.listS l).getD j ⟨#[]⟩⟩
    unfold rdOf
    rw [show ((j : Int)).toNat = j by omega]
    rfl
  rw [h1, h2]
  simp only [List.append_assoc, List.map_cons, List.map_nil, List.cons_append, List.nil_append]
  rfl
theorem wr_l1 (cp : Int) (l : List QJour.S62) (hl : l.length ≤ 4096) (hs : QJour.Small (l.map QJour.S62.f1)) : ∀ d i, i + d = (QJour.listS l).length → Ev (fun k => QJour.aumbryref10_Writes.l1 k l (cpS cp l l.length ++ lsS (QJour.listS l) i) (QJour.listS l) ((QJour.listS l).length : Int) (i : Int)) (wrS cp l)
  | 0, i, h => by
    have hll := QJour.listS_length l
    have hlen : (cpS cp l l.length ++ lsS (QJour.listS l) i).length ≤ 10000 := by rw [List.length_append, cpS_len, lsS_len]; omega
    have hb := QJour.refblock_f ⟨#[]⟩ (Nat.zero_le _)
    obtain rfl : i = (QJour.listS l).length := by omega
    obtain ⟨K, hK⟩ := QJour.head_ev l hl hs
    refine ⟨K + 1, fun k hk => ?_⟩
    obtain ⟨k, rfl⟩ : ∃ j, k = j + 1 := ⟨k - 1, by omega⟩
    have hK := hK k (by omega)
    show QJour.aumbryref10_Writes.l1 (k + 1) l _ _ _ _ = _
    simp only at hK
    rw [QJour.aumbryref10_Writes.l1, if_neg (by omega), hK, Option.bind_some, if_pos (by omega), Option.bind_some, if_pos (by rw [List.length_append, List.length_singleton]; omega), Option.bind_some, hb, Option.bind_some, if_pos (by rw [List.length_append, List.length_append, List.length_singleton]; omega), padB_none]
    rfl
  | d + 1, i, h => by
    have hll := QJour.listS_length l
    have ih := wr_l1 cp l hl hs d (i + 1) (by omega)
    rw [lsS_succ, ← List.append_assoc] at ih
    refine Ev.step (fun k => ?_) ih
    show QJour.aumbryref10_Writes.l1 (k + 1) l _ _ _ _ = _
    rw [QJour.aumbryref10_Writes.l1, if_pos (by omega), if_pos (by omega), if_pos (by omega), if_pos (by rw [List.length_append, cpS_len, lsS_len]; omega), MixBase.wrap64_small (i := 2 + (i : Int)) (by omega) (by omega), MixBase.wrap64_small (i := (i : Int) + 1) (by omega) (by omega)]
    rfl
theorem wr_l0 {N q r : Int} (hP : Ev (fun k => QJour.aumbryref10_Pages.f k N) q) (hr : QJour.aumbryref10_Rows.f q = some r) (h0 : 0 ≤ r) (h1 : r ≤ 4096) (l : List QJour.S62) (hl : l.length ≤ 4096) (hs : QJour.Small (l.map QJour.S62.f1)) : ∀ d i, i + d = l.length → Ev (fun k => QJour.aumbryref10_Writes.l0 k N l (cpS (2 + r) l i) (l.length : Int) (i : Int)) (wrS (2 + r) l)
  | 0, i, h => by
    obtain rfl : i = l.length := by omega
    have h2 := wr_l1 (2 + r) l hl hs (QJour.listS l).length 0 (by omega)
    rw [show lsS (QJour.listS l) 0 = [] from rfl, List.append_nil] at h2
    refine Ev.step (fun k => ?_) (Ev.bind (QJour.reflist_ev l hl) (f := fun k t197 => QJour.aumbryref10_Writes.l1 k l (cpS (2 + r) l l.length) t197 (t197.length : Int) 0) h2)
    show QJour.aumbryref10_Writes.l0 (k + 1) N l _ _ _ = _
    rw [QJour.aumbryref10_Writes.l0, if_neg (by omega)]
  | d + 1, i, h => by
    have ih := wr_l0 hP hr h0 h1 l hl hs d (i + 1) (by omega)
    rw [cpS_succ] at ih
    refine Ev.step (fun k => ?_) (Ev.bind hP (f := fun k t191 => (QJour.aumbryref10_Rows.f t191).bind fun t192 => (if 0 ≤ (i : Int) then (if (i : Int) < (l.length : Int) then (if (cpS (2 + r) l i).length < 5864062014805 then (QJour.aumbryref10_Writes.l0 k N l (cpS (2 + r) l i ++ [(⟨wrap64 ((wrap64 (2 + t192)) + (i : Int)), (QJour.rd_T62 l (i : Int)).f1⟩ : QJour.S62)]) (l.length : Int) (wrap64 ((i : Int) + 1))) else (none)) else (none)) else (none))) ?_)
    · show QJour.aumbryref10_Writes.l0 (k + 1) N l _ _ _ = _
      rw [QJour.aumbryref10_Writes.l0, if_pos (by omega)]
    · simp only [hr, Option.bind_some]
      refine Ev.congr (fun k => ?_) ih
      rw [if_pos (by omega), if_pos (by omega), if_pos (by rw [cpS_len]; omega), MixBase.wrap64_small (i := 2 + r) (by omega) (by omega), MixBase.wrap64_small (i := 2 + r + (i : Int)) (by omega) (by omega), MixBase.wrap64_small (i := (i : Int) + 1) (by omega) (by omega)]
      rfl
theorem writes_ev {N q r : Int} (hP : Ev (fun k => QJour.aumbryref10_Pages.f k N) q) (hr : QJour.aumbryref10_Rows.f q = some r) (h0 : 0 ≤ r) (h1 : r ≤ 4096) (l : List QJour.S62) (hl : l.length ≤ 4096) (hs : QJour.Small (l.map QJour.S62.f1)) : Ev (fun k => QJour.aumbryref10_Writes.f k N l) (if l.length = 0 then [] else wrS (2 + r) l) := by
  by_cases h : l.length = 0
  · rw [if_pos h]
    refine Ev.congr (fun k => ?_) (Ev.now _)
    unfold QJour.aumbryref10_Writes.f
    rw [if_pos (by omega)]
  · rw [if_neg h]
    refine Ev.congr (fun k => ?_) (wr_l0 hP hr h0 h1 l hl hs l.length 0 (by omega))
    unfold QJour.aumbryref10_Writes.f
    rw [if_neg (by omega)]
    rfl
end Go.Proofs.Ytgageigcjeaenaa.Disk
namespace Go.Proofs.Ytgageigcjeaenaa.Disk
open Go.RowKit Go.Proofs.YtgageigcjeaenaaW.PrintWords Go.Proofs.YtgageigcjeaenaaW.PrintLast Go.Proofs.YtgageigcjeaenaaW.PrintMore Go.Proofs.Ytgageigcjeaenaa.MixBase Go.Proofs.Ytgageigcjeaenaa.MixPlain Go.Proofs.Ytgageigcjeaenaa.NumBase Go.Proofs.Ytgageigcjeaenaa.PadPlain
attribute [local go_sem] max2_int min2_int max_two min_two max_three min_three max_four min_four
set_option linter.unusedVariables false
set_option linter.unusedSimpArgs false
theorem RSt.below {W w w' : World} {g : Nat} {vb vl : Value} {d : Dk} (h : RSt W w g vb vl d) (hb : Below w.heap.size w w') : RSt W w' g vb vl d := h.moved (Moved.of_below hb (fun _ => False)) (fun _ _ h => h) (fun _ _ h => h.elim)
theorem RefWrite_st {W w : World} {g : Nat} {vb vl : Value} {d : Dk} (a : Int) (s : ByteArray) (h : RSt W w g vb vl d) (hlog : (d.log.length + 1) * 24 ≤ 140737488355328) : Calls Try.prog 58 #[.pointer (some ⟨g, 0, none⟩), .int .i64 a, .string s] w fun e w' => ∃ vl', e = .returned (.int .i64 (writeD d a s).2) ∧ RSt W w' g vb vl' (writeD d a s).1 ∧ (∀ k, Foot g vb vl' k → Foot g vb vl k ∨ w.heap.size ≤ k) ∧ Moved w w' (Foot g vb vl) :=
  (RefWrite_calls a s h.1 hlog).mono fun e w' ⟨vl', h1, h2, h3, h4⟩ => ⟨vl', h1, ⟨h2, h4.below h.2 h.2.size (fun k _ hk => (h.foot hk).1)⟩, fun k hk => by
    rcases hk with hk | hk | hk
    · exact Or.inl (Or.inl hk)
    · exact Or.inl (Or.inr (Or.inl hk))
    · rcases h3 with e | ⟨b, e, hb⟩
      · exact Or.inl (Or.inr (Or.inr (e ▸ hk)))
      · rw [e] at hk
        injection hk with hk
        exact Or.inr (hk ▸ hb), h4⟩
theorem Moved.cell {w w' : World} {S : Nat → Prop} (h : Moved w w' S) {a : Addr} {v : Value} (hc : w.cell? a = some v) (hn : ¬ S a.block) : w'.cell? a = some v := (World.cell?_of_block (h.2.2.2.2 _ (World.block_lt_of_cell? _ _ hc) hn)).trans hc
theorem Moved.step2 {w a b c : World} {g : Nat} {vb vl vl' : Value} (h : Moved w a (Foot g vb vl)) (hb : Moved a b (fun _ => False)) (hc : Moved b c (Foot g vb vl')) (hf : ∀ k, Foot g vb vl' k → Foot g vb vl k ∨ w.heap.size ≤ k) : Moved w c (Foot g vb vl) :=
  ⟨hc.1.trans (hb.1.trans h.1), hc.2.1.trans (hb.2.1.trans h.2.1), hc.2.2.1.trans (hb.2.2.1.trans h.2.2.1), Nat.le_trans h.2.2.2.1 (Nat.le_trans hb.2.2.2.1 hc.2.2.2.1),
   fun i hi hn => (hc.2.2.2.2 i (Nat.lt_of_lt_of_le hi (Nat.le_trans h.2.2.2.1 hb.2.2.2.1)) (fun hk => (hf i hk).elim hn (fun hl => by omega))).trans ((hb.2.2.2.2 i (Nat.lt_of_lt_of_le hi h.2.2.2.1) (fun h => h)).trans (h.2.2.2.2 i hi hn))⟩
theorem doW_take (l : List QJour.S62) (d : Dk) (i : Nat) (h : i < l.length) (h0 : (doW d ((l.map pgOf).take i)).2 = 0) : doW d ((l.map pgOf).take (i + 1)) = writeD (doW d ((l.map pgOf).take i)).1 l[i].f0 l[i].f1 := by
  rw [homeW_take l i h]
  exact doW_snoc _ _ d h0
set_option maxRecDepth 100000 in
set_option maxHeartbeats 2000000 in
theorem Done_calls {W w : World} {g : Nat} {vb vl : Value} {d : Dk} {A : Option Addr} {c : Nat} {l : List QJour.S62} (h : RSt W w g vb vl d) (hC : Kd.C QJour.k62 w A l.length l) (hof : ∀ ad, A = some ad → ¬ Foot g vb vl ad.block) (hl : l.length ≤ 1000000) (hlog : (d.log.length + l.length) * 24 ≤ 140737488355328) :
    Calls Try.prog 50 #[.pointer (some ⟨g, 0, none⟩), .slice A l.length c] w fun e w' => ∃ vl', e = .returned (.int .i64 (doW d (l.map pgOf)).2) ∧ RSt W w' g vb vl' (doW d (l.map pgOf)).1 ∧ (∀ k, Foot g vb vl' k → Foot g vb vl k ∨ w.heap.size ≤ k) ∧ Moved w w' (Foot g vb vl) := by
  have hR := rowAt_of_C hC
  have H := Aside0.mk h
  have HR := Aside0.mk hR
  have HO := Aside0.mk hof
  have HL := Aside0.mk hl
  have HG := Aside0.mk hlog
  have hu62 := Try.underlying62
  clear h hC hR hof hl hlog
  go_enter Try.func50, Try.ntmps50
  go_wp2
  go_loopg [9] l.length (fun kq v9 wr => ∃ (i : Nat) (vl' : Value), v9 = .int .i64 (i : Int) ∧ i ≤ l.length ∧ Aside0 (kq = l.length - i) ∧ Aside0 ((doW d ((l.map pgOf).take i)).2 = 0) ∧ Aside0 (RSt W wr g vb vl' (doW d ((l.map pgOf).take i)).1) ∧ Aside0 (∀ k, Foot g vb vl' k → Foot g vb vl k ∨ w.heap.size ≤ k) ∧ Aside0 (Moved w wr (Foot g vb vl)))
  case atStart => exact ⟨0, vl, rfl, Nat.zero_le _, ⟨rfl⟩, ⟨rfl⟩, H, ⟨fun k hk => Or.inl hk⟩, ⟨Moved.refl _ _⟩⟩
  case round =>
    obtain ⟨i, vl', rfl, hi, hkq, HZ, HS, HF, HM⟩ := hrel
    by_cases hil : i < l.length
    · obtain ⟨ad, rfl, q0, q1⟩ := HR.out i hil
      replace q0 := HM.out.cell (a := ad.add (i * 2)) q0 (by rw [add_block]; exact HO.out ad rfl)
      replace q1 := HM.out.cell (a := ⟨(ad.add (i * 2)).block, (ad.add (i * 2)).off + 1, none⟩) q1 (by show ¬ Foot g vb vl (ad.add (i * 2)).block; rw [add_block]; exact HO.out ad rfl)
      have HW := Aside0.mk (doW_take l d i hil HZ.out)
      have HLG : Aside0 (((doW d ((l.map pgOf).take i)).1.log.length + 1) * 24 ≤ 140737488355328) := ⟨by
        have := doW_log ((l.map pgOf).take i) d
        have h2 : ((l.map pgOf).take i).length ≤ i := List.length_take_le _ _
        have := HG.out
        omega⟩
      obtain ⟨S, hS⟩ : ∃ S, S = l[i] := ⟨_, rfl⟩
      rw [← hS] at q0 q1 HW
      obtain ⟨D, hD⟩ : ∃ D, D = (doW d ((l.map pgOf).take i)).1 := ⟨_, rfl⟩
      rw [← hD] at HS HW HLG
      have q0' : wr.drew.cell? (ad.add (i * 2)) = some (.int .i64 S.f0) := q0
      have q1' : wr.drew.cell? ⟨(ad.add (i * 2)).block, (ad.add (i * 2)).off + 1, none⟩ = some (.string S.f1) := q1
      have HS2 := Aside0.mk (HS.out.below (below_drew1 (Below.refl wr.heap.size wr)))
      have c1 : ((i : Int) < (l.length : Int)) = True := eq_true (by omega)
      have c2 : ((0 : Int) ≤ (i : Int)) = True := eq_true (by omega)
      have c3 : (i < l.length) = True := eq_true hil
      clear hS hD
      go_wp2
      go_region_with (go_at_call 58; refine (RefWrite_st S.f0 S.f1 HS2.out HLG.out).mono ?_; rintro e w2 ⟨vl2, rfl, hs, hf, hm⟩; have R2 := Aside0.mk hs; have F2 := Aside0.mk hf; have M2 := Aside0.mk hm; clear hs hf hm)
      all_goals (refine (‹∀ (a : Act) (w : World), Code.wp Try.prog _ _ a w → _›) _ _ ?_)
      all_goals (
        have FX := Aside0.mk (fun k hk => (F2.out k hk).elim (fun h => HF.out k h) (fun h => Or.inr (Nat.le_trans HM.out.2.2.2.1 h)))
        have MX : Aside0 (Moved w w2 (Foot g vb vl)) := ⟨Moved.step2 HM.out (Moved.of_below (below_drew1 (Below.refl wr.heap.size wr)) (fun _ => False)) M2.out HF.out⟩
        clear q0 q1 q0' q1'
        by_cases he : (writeD D S.f0 S.f1).2 = 0
        · have cne : ((writeD D S.f0 S.f1).2 != 0) = false := bne_eq_false_iff_eq.2 he
          have HE := Aside0.mk he
          clear he
          go_wp2
          go_roundg (l.length - (i + 1))
          case measure => have := hkq.out; omega
          case rel => exact ⟨i + 1, vl2, by have := HL.out; rw [MixBase.wrap64_small (by omega) (by omega)]; rfl, by omega, ⟨rfl⟩, ⟨by rw [HW.out]; exact HE.out⟩, ⟨by rw [HW.out]; exact R2.out⟩, FX, MX⟩
        · have cne : ((writeD D S.f0 S.f1).2 != 0) = true := bne_iff_ne.2 he
          have HE := Aside0.mk he
          clear he
          have hall : doW d (l.map pgOf) = writeD D S.f0 S.f1 := by
            rw [← HW.out]
            have h1 := doW_stop ((l.map pgOf).take (i + 1)) d ((l.map pgOf).drop (i + 1)) (by rw [HW.out]; exact HE.out)
            rw [List.take_append_drop] at h1
            exact h1
          have HA := Aside0.mk hall
          clear hall
          go_wp2
          go_ret
          exact ⟨vl2, by rw [HA.out]; rfl, by rw [HA.out]; exact R2.out, FX.out, MX.out⟩)
    · have c1 : ((i : Int) < (l.length : Int)) = False := eq_false (by omega)
      have ei : (l.map pgOf).take i = l.map pgOf := List.take_of_length_le (by rw [List.length_map]; omega)
      rw [ei] at HZ HS
      go_wp2
      go_ret
      exact ⟨vl', by rw [HZ.out]; rfl, HS.out, HF.out, HM.out⟩
set_option maxRecDepth 100000 in
set_option maxHeartbeats 2000000 in
theorem RefCommit_calls {W w : World} {g k : Nat} {vb vl : Value} {d : Dk} {A : Option Addr} {c : Nat} {l ws : List QJour.S62} {r : Int} (h : RSt W w g vb vl d) (hC : Kd.C QJour.k62 w A l.length l) (hlc : l.length ≤ c)
    (hM : QJour.aumbryref10_May.f k (d.blocks.length : Int) l = some r) (hW : r = 0 → QJour.aumbryref10_Writes.f k (d.blocks.length : Int) l = some ws ∧ ws.length ≤ 1000000 ∧ (d.log.length + ws.length) * 24 ≤ 140737488355328) :
    Calls Try.prog 22 #[.pointer (some ⟨g, 0, none⟩), .slice A l.length c] w fun e w' => ∃ vl', e = .returned (.int .i64 (if r ≠ 0 then (d, r) else doW d (ws.map pgOf)).2) ∧ RSt W w' g vb vl' (if r ≠ 0 then (d, r) else doW d (ws.map pgOf)).1 ∧ Moved w w' (Foot g vb vl) := by
  obtain ⟨Ab, cb, rfl, hmx⟩ := own_slice h.1.2.2.1
  have hu39 := Try.underlying39
  have z0 : w.cell? ⟨g, 0, none⟩ = some (.slice Ab d.blocks.length cb) := (blk_cell h.1.2.1 0).trans rfl
  have H := Aside0.mk h
  have HC := Aside0.mk hC
  have HM := Aside0.mk hM
  have HWr := Aside0.mk hW
  clear h hC hM hW
  by_cases hr : r = 0
  · subst hr
    obtain ⟨hw1, hw2, hw3⟩ := HWr.out rfl
    have HW1 := Aside0.mk hw1
    have HW2 := Aside0.mk hw2
    have HW3 := Aside0.mk hw3
    clear hw1 hw2 hw3 HWr
    rw [if_neg (by simp)]
    go_enter Try.func22, Try.ntmps22
    go_wp2_with (first
      | (go_at_call 53; refine (QJour.aumbryref10_May.calls k (d.blocks.length : Int) A c l 0 _ HC.out hlc HM.out).mono ?_; rintro e w1 ⟨rfl, ⟨nd, rfl⟩⟩)
      | (go_at_call 54; refine (QJour.aumbryref10_Writes.calls k (d.blocks.length : Int) A c l ws _ (Kd.C_drewN HC.out _) hlc HW1.out).mono ?_; rintro e w2 ⟨v, rfl, hR, hb⟩; have HRR := Aside0.mk hR; have HB := Aside0.mk hb; clear hR hb))
    obtain ⟨A', c', rfl, hc', hC'⟩ := Kd.R_reads HRR.out
    have hbw : Below w.heap.size w w2 := below_step (pw_below_drewN (Below.refl _ _) nd) HB.out
    have hof : ∀ ad, A' = some ad → ¬ Foot g (.slice Ab d.blocks.length cb) vl ad.block := by
      rintro ad rfl hf
      have h1 := ((Kd.R_bound HRR.out).1 ad.block rfl).2.1
      have h2 := (H.out.foot hf).2
      have h3 : w.heap.size ≤ ad.block := h1
      omega
    refine (Done_calls (H.out.below hbw) hC' hof HW2.out HW3.out).mono ?_
    rintro e w3 ⟨vl', rfl, t1, t2, t3⟩
    have T1 := Aside0.mk t1
    have T3 := Aside0.mk ((Moved.of_below hbw (Foot g (.slice Ab d.blocks.length cb) vl)).trans t3)
    clear t1 t2 t3 hof hbw hC'
    go_wp2
    go_ret
    exact ⟨vl', rfl, T1.out, T3.out⟩
  · have cne : (r != 0) = true := bne_iff_ne.2 hr
    rw [if_pos hr]
    have HR := Aside0.mk hr
    clear hr
    go_enter Try.func22, Try.ntmps22
    go_wp2_with (go_at_call 53; refine (QJour.aumbryref10_May.calls k (d.blocks.length : Int) A c l r _ HC.out hlc HM.out).mono ?_; rintro e w1 ⟨rfl, ⟨nd, rfl⟩⟩)
    go_ret
    exact ⟨vl, rfl, H.out.below (pw_below_drewN (Below.refl _ _) _), Moved.of_below (pw_below_drewN (Below.refl _ _) _) _⟩
theorem size_calls (a : Int) (w : World) : Calls Try.prog 44 #[.int .i64 a] w fun e w' => e = .returned (.int .i64 (wrap64 (64 + (wrap64 (Int.tmod (IntKind.u64.wrap a) 300))))) ∧ Below w.heap.size w w' :=
  (QJour.aumbrylaw10_size.calls a _ w rfl).mono fun e w' ⟨h, hd⟩ => ⟨h, by first | exact hd.below | (obtain ⟨n, rfl⟩ := hd; exact pw_below_drewN (Below.refl _ _) _)⟩
theorem size_nat (a : Int) : ∃ n : Nat, 64 ≤ n ∧ n ≤ 363 ∧ wrap64 (64 + (wrap64 (Int.tmod (IntKind.u64.wrap a) 300))) = (n : Int) := by
  have h := QJour.u64_range a
  have h1 : Int.tmod (IntKind.u64.wrap a) 300 = (IntKind.u64.wrap a) % 300 := Int.tmod_eq_emod_of_nonneg h.1
  rw [h1, MixBase.wrap64_small (i := IntKind.u64.wrap a % 300) (by omega) (by omega), MixBase.wrap64_small (by omega) (by omega)]
  exact ⟨(64 + IntKind.u64.wrap a % 300).toNat, by omega, by omega, by omega⟩
set_option maxRecDepth 100000 in
set_option maxHeartbeats 2000000 in
theorem laid_nil (a : Int) (n : Nat) (W : World) (h1 : 64 ≤ n) (h2 : n ≤ 363) (hn : wrap64 (64 + (wrap64 (Int.tmod (IntKind.u64.wrap a) 300))) = (n : Int)) :
    Calls Try.prog 13 #[.int .i64 a, .slice none 0 0] W fun e w' => ∃ g vb h ub, e = .returned (.tuple #[.pointer (some ⟨g, 0, none⟩), .pointer (some ⟨h, 0, none⟩)]) ∧ Two W w' g vb (.slice none 0 0) h ub (.slice none 0 0) (newD n) := by
  have hu39 := Try.underlying39
  have HN := Aside0.mk hn
  go_enter Try.func13, Try.ntmps13
  go_wp2_with (first
    | (go_at_call 44; refine (size_calls a _).mono ?_; rintro e w1 ⟨rfl, hb⟩; rw [HN.out]; have B1 := Aside0.mk hb; clear hb)
    | (go_at_call 28; refine (RefNew_calls n h1 (by omega) _).mono ?_; rintro e w2 ⟨h, ub, rfl, hr, hb⟩; have R2 := Aside0.mk hr; have B2 := Aside0.mk hb; clear hr hb))
  go_loopg [15] 0 (fun kq v15 wr => v15 = .int .i64 0 ∧ wr = w2)
  case atStart => exact ⟨rfl, rfl⟩
  case round =>
    obtain ⟨rfl, hw⟩ := hrel
    obtain rfl := hw.symm
    have hlen : (newD n).blocks.length = n := wk_len n
    have hob := R2.out.2.2.1
    obtain ⟨Ab, cb, hub, hcb, hCb⟩ := strs_C hob
    rw [hlen] at hub hCb
    obtain ⟨w3, hw3⟩ : ∃ w3, w2.alloc (.cells #[] 9) = w3 := ⟨_, rfl⟩
    have hb3 : Below w2.heap.size w2 w3 := by rw [← hw3]; exact (Below.refl _ w2).alloc (Nat.le_refl _) _
    have h93 : w3.heap[w2.heap.size]? = some (.cells #[] 9 (0, 0)) := by rw [← hw3]; exact World.alloc_heap_new w2 _
    have HO3 : Aside0 (w3.ownsRow w2.heap.size 9 1 (.slice (some ⟨w2.heap.size, 0, none⟩) 0 0) ([] : List ByteArray).length (encs Value.string ([] : List ByteArray))) := ⟨⟨rfl, Or.inr ⟨_, 0, #[], rfl, Nat.le_refl _, h93, Nat.le_refl _, by decide, rfl, rfl⟩⟩⟩
    have z0 : w3.cell? ⟨h, 0, none⟩ = some (.slice Ab n cb) := by
      have := (blk_cell (blk_below R2.out.2.1 hb3) 0).trans (rfl : _ = some ub)
      rw [hub] at this
      exact this
    have HRd : Aside0 (ReadsOf Value.string ByteArray.empty w3 Ab n (newD n).blocks) := ⟨Kd.reads_of_C (h1 := fun _ => rfl) (Kd.C_below (d := Kd.string) hCb hb3)⟩
    have B3 := Aside0.mk hb3
    have HOB := Aside0.mk hob
    have HUB := Aside0.mk hub
    have HOF : Aside0 (ofErr (newD n).blocks = 0) := ⟨by
      unfold ofErr
      rw [hlen, if_pos (by omega), if_pos]
      rw [List.all_eq_true]
      intro x hx
      rw [List.eq_of_mem_replicate hx]
      exact beq_iff_eq.2 (zeros_size 256)⟩
    clear hb3 h93 hob hub hcb hCb hlen
    go_wp2_with (first
      | ((with_reducible refine gate_builtin (b := .append) (xs := #[.tmp 45, .tmp 49]) rfl ?_); at_builtin; refine print_append_row_of (w0 := w3) Value.string ByteArray.empty w2.heap.size rfl (.tmp 45) (.tmp 49) 37 9 (.string ⟨#[]⟩) 16 rfl Try.underlying37 info9 rfl (by decide) (fun _ => rfl) (.slice (some ⟨w2.heap.size, 0, none⟩) 0 0) [] (newD n).blocks Ab n cb rfl rfl HO3.out HRd.out (Below.refl _ _) (B3.out.size) (by show (0 + n) * 16 ≤ _; omega) ?_; intro v4 w4 ho hb hg hat; have HO4 : Aside0 (w4.ownsRow w2.heap.size 9 1 v4 (newD n).blocks.length (strs (newD n).blocks)) := ⟨ho⟩; have B4 := Aside0.mk hb; clear ho hb hg hat)
      | (go_at_call 35; refine (Of_good (newD n).blocks HO4.out HOF.out).mono ?_; rintro e w5 ⟨g, vb, rfl, hd, hb⟩; have D5 := Aside0.mk hd; have B5 := Aside0.mk hb; clear hd hb))
    go_ret2
    have b25 : Below w2.heap.size w2 w5 := (B3.out.trans B4.out).trans (B5.out.mono (Nat.le_trans B3.out.size B4.out.size))
    have bW2 : Below W.heap.size W w2 := below_step B1.out B2.out
    have hs14 : w2.heap.size ≤ w4.heap.size := Nat.le_trans B3.out.size B4.out.size
    refine ⟨g, vb, h, ub, rfl, ⟨D5.out.lower (Nat.le_trans bW2.size hs14), below_step bW2 b25⟩, ⟨?_, below_step bW2 b25⟩, ?_⟩
    · have hr : RefIs w5 w1.heap.size h ub (.slice none 0 0) (newD n) := R2.out.moved (Moved.of_below b25 (fun _ => False)) (fun _ _ h => h)
      exact ⟨Nat.le_trans B1.out.size hr.1, hr.2.1, own_less hr.2.2.1 B1.out.size, own_less hr.2.2.2 B1.out.size⟩
    · intro k hk hk'
      have h5 := (D5.out.foot_lt hk).1
      have h6 := (R2.out.foot_lt hk').2
      omega
end Go.Proofs.Ytgageigcjeaenaa.Disk
namespace Go.Proofs.Ytgageigcjeaenaa.Disk
open Go.RowKit Go.Proofs.YtgageigcjeaenaaW.PrintWords Go.Proofs.YtgageigcjeaenaaW.PrintLast Go.Proofs.YtgageigcjeaenaaW.PrintMore Go.Proofs.Ytgageigcjeaenaa.MixBase Go.Proofs.Ytgageigcjeaenaa.MixPlain Go.Proofs.Ytgageigcjeaenaa.NumBase Go.Proofs.Ytgageigcjeaenaa.PadPlain
attribute [local go_sem] max2_int min2_int max_two min_two max_three min_three max_four min_four
set_option linter.unusedVariables false
set_option linter.unusedSimpArgs false
theorem mayL_zero (pg : Int → Bool) : ∀ (l : List QJour.S62) (seen : List Int), mayL pg seen l = 0 → ∀ p, p ∈ l → p.f1.size = 256
  | [], _, _, p, hp => by cases hp
  | q :: l, seen, h, p, hp => by
    unfold mayL at h
    by_cases h1 : pg q.f0 = true
    · rw [if_pos h1] at h
      by_cases h2 : q.f1.size = 256
      · rw [if_pos h2] at h
        by_cases h3 : q.f0 ∈ seen
        · rw [if_pos h3] at h; cases h
        · rw [if_neg h3] at h
          rcases List.mem_cons.1 hp with e | e
          · rw [e]; exact h2
          · exact mayL_zero pg l _ h p e
      · rw [if_neg h2] at h; cases h
    · rw [if_neg h1] at h; cases h
theorem mayS_zero {m : Int} {pg : Int → Bool} {l : List QJour.S62} (h : mayS m pg l = 0) : (l.length : Int) ≤ m ∧ QJour.Small (l.map QJour.S62.f1) := by
  unfold mayS at h
  by_cases h1 : (l.length : Int) > m
  · rw [if_pos h1] at h; cases h
  · rw [if_neg h1] at h
    refine ⟨by omega, ?_⟩
    intro x hx
    obtain ⟨p, hp, rfl⟩ := List.mem_map.1 hx
    have := mayL_zero pg l [] h p hp
    omega
theorem at_k {α : Type} {g : Nat → Option α} {r : α} (hg : ∀ k, LeO (g k) (g (k + 1))) (h : g 3000 = some r) : ∀ k, 3000 ≤ k → g k = some r := fun k hk => at_rounds hg hk h
/-- What the journal answers of a group, with enough rounds. -/
theorem ready (n : Nat) (h0 : 64 ≤ n) (h1 : n ≤ 2048) (l : List QJour.S62) : ∃ (m fi cp r : Int) (k : Nat), 0 ≤ fi ∧ m ≤ 1023 ∧ 0 ≤ cp ∧ cp ≤ 100000 ∧ QJour.journal_Pages.f k (n : Int) = some m ∧ (∀ a, QJour.journal_page.f k (n : Int) a = some (pgF fi m a)) ∧ QJour.journal_copies.f k (n : Int) = some cp ∧
    (mayS m (pgF fi m) l = 0 → QJour.journal_list.f k l = some (QJour.listS l) ∧ (QJour.listS l).length ≤ 4096 ∧ QJour.journal_top.f k l = some (QJour.topS l) ∧ l.length ≤ 4096 ∧ (0 + (allW cp l (QJour.listS l) (QJour.topS l)).length) * 24 ≤ 140737488355328) ∧
    QJour.aumbryref10_May.f k (n : Int) l = some (mayS m (pgF fi m) l) ∧
    (mayS m (pgF fi m) l = 0 → QJour.aumbryref10_Writes.f k (n : Int) l = some (if l.length = 0 then [] else wrS cp l) ∧ (if l.length = 0 then [] else wrS cp l).length ≤ 1000000 ∧ (0 + (if l.length = 0 then [] else wrS cp l).length) * 24 ≤ 140737488355328) := by
  obtain ⟨m, fi, hP, hF, hP2, hF2, hc⟩ := rooms (n : Int) 3000 (Nat.le_refl _)
  rcases hc with ⟨rfl, rfl⟩ | ⟨hm1, hm2, q, rfl, rfl, hn1, hn2, hneed, hcp⟩
  · exfalso
    obtain ⟨q, h1', h2', h3, h4⟩ := pages_ex n h0 993 (by unfold need; omega)
    have hne : QJour.journal_Pages.f 3000 (n : Int) ≠ some 0 := by
      intro he
      unfold QJour.journal_Pages.f at he
      rw [if_neg (by omega), decide_eq_false (by omega), show (3000 : Nat) = 2999 + 1 from rfl, pj_false, MixBase.wrap64_small (i := (n : Int) - 1) (by omega) (by omega), Int.tdiv_eq_ediv_of_nonneg (by omega), MixBase.wrap64_small (by omega) (by omega)] at he
      have hq : q ≤ (n - 1) / 2 := by unfold need at h3; omega
      have := pages_down n q (2998 - ((n - 1) / 2 - q)) h3 h4 (by omega) ((n - 1) / 2 - q) (by omega)
      rw [show 2998 - ((n - 1) / 2 - q) + ((n - 1) / 2 - q) + 1 = 2999 by omega, show ((q + ((n - 1) / 2 - q) : Nat) : Int) = ((n : Int) - 1) / 2 by omega] at this
      rw [this] at he
      injection he with he
      omega
    exact hne hP
  · have eP := at_k (fun k => QJour.journal_Pages.mono (n : Int) k) hP
    have eF := at_k (fun k => QJour.journal_First.mono (n : Int) k) hF
    have eC := at_k (fun k => QJour.journal_copies.mono (n : Int) k) hcp
    have eP2 := at_k (fun k => QJour.aumbryref10_Pages.mono (n : Int) k) hP2
    have eF2 := at_k (fun k => QJour.aumbryref10_First.mono (n : Int) k) hF2
    have hpage : ∀ a, Ev (fun k => QJour.aumbryref10_Page.f k (n : Int) a) (pgF ((2 + (q + 127) / 128 + q : Nat) : Int) (q : Int) a) := fun a => ⟨3000, fun k hk => refpage_f (eF2 k hk) (eP2 k hk) (by omega) (by omega) (by omega) a⟩
    obtain ⟨K1, hK1⟩ := refmay_ev (N := (n : Int)) (m := (q : Int)) (pg := pgF ((2 + (q + 127) / 128 + q : Nat) : Int) (q : Int)) ⟨3000, eP2⟩ (by omega) hpage l
    have hlen : ∀ cp : Int, (l.length : Int) ≤ (q : Int) → (allW cp l (QJour.listS l) (QJour.topS l)).length ≤ 10000 ∧ (wrS cp l).length ≤ 10000 := by
      intro cp hq
      have hw : (wrS cp l).length ≤ 10000 := by
        have h5 := QJour.listS_length l
        unfold wrS
        rw [List.length_append, List.length_append, List.length_append, List.length_append, cpS_len, lsS_len, List.length_singleton, List.length_singleton]
        omega
      refine ⟨?_, hw⟩
      rw [← wrS_map, List.length_map]
      exact hw
    by_cases hz : mayS (q : Int) (pgF ((2 + (q + 127) / 128 + q : Nat) : Int) (q : Int)) l = 0
    · obtain ⟨hq, hs⟩ := mayS_zero hz
      obtain ⟨K2, hK2⟩ := QJour.top_ev l (by omega) hs
      obtain ⟨K3, hK3⟩ := writes_ev (N := (n : Int)) (q := (q : Int)) (r := (((q + 127) / 128 : Nat) : Int)) ⟨3000, eP2⟩ (rows_f q (by omega)) (by omega) (by omega) l (by omega) hs
      have ecp : (2 : Int) + (((q + 127) / 128 : Nat) : Int) = ((2 + (q + 127) / 128 : Nat) : Int) := by omega
      rw [ecp] at hK3
      have hL := hlen ((2 + (q + 127) / 128 : Nat) : Int) hq
      have hll := QJour.listS_length l
      refine ⟨(q : Int), _, ((2 + (q + 127) / 128 : Nat) : Int), 0, 3000 + K1 + K2 + K3, by omega, hm2, by omega, by omega, eP _ (by omega), fun a => page_f (eF _ (by omega)) (eP _ (by omega)) a, eC _ (by omega), fun _ => ⟨QJour.list_f l (by omega) _ (by omega), by omega, hK2 _ (by omega), by omega, by omega⟩, hK1 _ (by omega), fun _ => ⟨hK3 _ (by omega), ?_, ?_⟩⟩
      · split
        · exact Nat.zero_le _
        · omega
      · split
        · decide
        · omega
    · refine ⟨(q : Int), _, ((2 + (q + 127) / 128 : Nat) : Int), 0, 3000 + K1, by omega, hm2, by omega, by omega, eP _ (by omega), fun a => page_f (eF _ (by omega)) (eP _ (by omega)) a, eC _ (by omega), fun h => absurd h hz, hK1 _ (by omega), fun h => absurd h hz⟩
/-- Both sides do alike. -/
theorem commit_same (m cp : Int) (pg : Int → Bool) (l : List QJour.S62) (d : Dk) :
    (if mayS m pg l ≠ 0 then (d, mayS m pg l) else doW d ((if l.length = 0 then [] else wrS cp l).map pgOf)) = commitD m pg cp l (QJour.listS l) (QJour.topS l) d := by
  unfold commitD
  by_cases h : mayS m pg l = 0
  · rw [if_neg (fun h2 => h2 h)]
    by_cases h0 : l.length = 0
    · rw [if_pos h0, if_pos (Or.inr h0), h]
      rfl
    · rw [if_neg h0, if_neg (fun h2 => h2.elim (fun h3 => h3 h) h0), wrS_map]
  · rw [if_pos h, if_pos (Or.inl h)]
theorem RefIs.rd {w w' : World} {base g h : Nat} {ub ul : Value} {d : Dk} (hr : RefIs w base h ub ul d) (ho : ∀ k, Foot h ub ul k → ¬ FootOf g w k) (r : Rd g w w') : RefIs w' base h ub ul d := by
  refine ⟨hr.1, r.2.2.2.2.1 _ _ hr.2.1 rfl (ho _ (Or.inl rfl)), own_move hr.2.2.1 (fun k hk => ?_), own_move hr.2.2.2 (fun k hk => ?_)⟩
  · obtain ⟨c, hc⟩ := own_typed hr.2.2.1 k hk
    exact (r.2.2.2.2.1 _ _ hc rfl (ho _ (Or.inr (Or.inl hk)))).trans hc.symm
  · obtain ⟨c, hc⟩ := own_typed hr.2.2.2 k hk
    exact (r.2.2.2.2.1 _ _ hc rfl (ho _ (Or.inr (Or.inr hk)))).trans hc.symm
theorem JSame {w : World} {A A' : Option Addr} {c c' : Nat} {l : List QJour.S62} (h : Kd.C QJour.k62 w A l.length l) (hc : l.length ≤ c) (h' : Kd.C QJour.k62 w A' l.length l) (hc' : l.length ≤ c') (hl : l.length ≤ 1000000000000000000) :
    Calls Try.prog 18 #[.slice A l.length c, .slice A' l.length c'] w fun e w' => e = .returned (.bool true) ∧ Below w.heap.size w w' := by
  refine (QJour.aumbryref09_SamePages.calls (l.length + 1) A c l A' c' l true w h hc h' hc' ?_).mono ?_
  · unfold QJour.aumbryref09_SamePages.f
    rw [if_pos rfl]
    exact QJour.samepages_l0 l hl l.length _ 0 (by omega) (by omega)
  · rintro e w' ⟨rfl, ⟨nd, rfl⟩⟩
    exact ⟨rfl, pw_below_drewN (Below.refl _ _) _⟩
end Go.Proofs.Ytgageigcjeaenaa.Disk
namespace Go.Proofs.Ytgageigcjeaenaa.Disk
open Go.RowKit Go.Proofs.YtgageigcjeaenaaW.PrintWords Go.Proofs.YtgageigcjeaenaaW.PrintLast Go.Proofs.YtgageigcjeaenaaW.PrintMore Go.Proofs.Ytgageigcjeaenaa.MixBase Go.Proofs.Ytgageigcjeaenaa.MixPlain Go.Proofs.Ytgageigcjeaenaa.NumBase Go.Proofs.Ytgageigcjeaenaa.PadPlain
attribute [local go_sem] max2_int min2_int max_two min_two max_three min_three max_four min_four
set_option linter.unusedVariables false
set_option linter.unusedSimpArgs false
theorem C_moved {w w' : World} {S : Nat → Prop} {a : Option Addr} {n : Nat} {l : List QJour.S62} (h : Kd.C QJour.k62 w a n l) (hm : Moved w w' S) (hn : ∀ ad, a = some ad → ¬ S ad.block) : Kd.C QJour.k62 w' a n l :=
  ⟨h.1, h.2.1, fun hp => by
    obtain ⟨ad, e, hc⟩ := h.2.2 hp
    exact ⟨ad, e, fun j p hp => by
      obtain ⟨c, h1, h2, h3⟩ := hc j p hp
      exact ⟨c, h1, h2, fun i u hu => hm.cell (a := ad.add (j * 2 + i)) (h3 i u hu) (by rw [add_block]; exact hn ad e)⟩⟩⟩
/-- Both disks done, and both rows of pages as they were. -/
def Fin (W w : World) (g : Nat) (vb vl : Value) (h : Nat) (ub ul : Value) (D : Dk) (A3 A : Option Addr) (l : List QJour.S62) : Prop := St W w g vb vl D ∧ RSt W w h ub ul D ∧ Kd.C QJour.k62 w A3 l.length l ∧ Kd.C QJour.k62 w A l.length l
theorem Fin.below {W w w' : World} {g h : Nat} {vb vl ub ul : Value} {D : Dk} {A3 A : Option Addr} {l : List QJour.S62} (f : Fin W w g vb vl h ub ul D A3 A l) (hb : Below w.heap.size w w') : Fin W w' g vb vl h ub ul D A3 A l := ⟨f.1.below hb, f.2.1.below hb, Kd.C_below f.2.2.1 hb, Kd.C_below f.2.2.2 hb⟩
set_option maxRecDepth 100000 in
set_option maxHeartbeats 4000000 in
theorem JournalCommits_walk (a : Int) (A : Option Addr) (c : Nat) (l : List QJour.S62) (cut : Int) (W : World) (_ : (Lit.int .i64 a).wf = true) (hC : Kd.C QJour.k62 W A l.length l) (hc : l.length ≤ c) (hl : l.length * 24 ≤ 140737488351232) (_ : (Lit.int .i64 cut).wf = true) :
    Calls Try.prog 4 #[.int .i64 a, .slice A l.length c, .int .i64 cut] W fun e w' => e = .returned (.bool true) ∧ Below W.heap.size W w' := by
  have hu39 := Try.underlying39
  obtain ⟨n, h1, h2, hn⟩ := size_nat a
  obtain ⟨m, fi, cp, r0, k, hfi, hm, hcp0, hcp1, eP, ePg, eC, eX, eM, eW⟩ := ready n h1 (by omega) l
  have hcpy : QJour.aumbryref09_CopyPages.f l = some l := by
    unfold QJour.aumbryref09_CopyPages.f
    rw [if_pos (by show 0 + l.length < _; omega)]
    rfl
  obtain ⟨D0, hD0⟩ : ∃ D0, D0 = cutD (newD n) cut := ⟨_, rfl⟩
  have hDn : D0.blocks.length = n := by rw [hD0]; exact wk_len n
  have hDl : D0.log.length = 0 := by rw [hD0]; rfl
  obtain ⟨cm, hcm⟩ : ∃ cm, cm = commitD m (pgF fi m) cp l (QJour.listS l) (QJour.topS l) D0 := ⟨_, rfl⟩
  obtain ⟨ws, hws⟩ : ∃ ws, ws = (if l.length = 0 then [] else wrS cp l) := ⟨_, rfl⟩
  have hcl : cm.1.log.length ≤ 1000000 ∧ cm.1.blocks.length = n := by
    have hbl : ∀ (xs : List Pg) (d : Dk), (doW d xs).1.blocks.length = d.blocks.length := by
      intro xs
      induction xs with
      | nil => intro d; rfl
      | cons p xs ih =>
        intro d
        by_cases hc : (writeD d p.at_ p.data).2 = 0
        · have e1 : doW d (p :: xs) = doW (writeD d p.at_ p.data).1 xs := if_pos hc
          rw [e1, ih, (write_len d p.at_ p.data).2]
        · have e1 : doW d (p :: xs) = writeD d p.at_ p.data := if_neg hc
          rw [e1, (write_len d p.at_ p.data).2]
    rw [hcm]
    unfold commitD
    split
    · exact ⟨by rw [hDl]; exact Nat.zero_le _, hDn⟩
    · rename_i hnn
      have h0 : mayS m (pgF fi m) l = 0 := by
        rcases Int.decEq (mayS m (pgF fi m) l) 0 with e | e
        · exact absurd (Or.inl e) hnn
        · exact e
      have h5 := (eW h0).2.1
      have h6 := doW_log (allW cp l (QJour.listS l) (QJour.topS l)) D0
      have h7 : (allW cp l (QJour.listS l) (QJour.topS l)).length = (wrS cp l).length := by rw [← wrS_map, List.length_map]
      rw [if_neg (fun e => hnn (Or.inr e))] at h5
      exact ⟨by omega, by rw [hbl]; exact hDn⟩
  have HC := Aside0.mk hC
  have HCP := Aside0.mk hcpy
  have HN := Aside0.mk hn
  have HK := Aside0.mk (fun (W w : World) (g : Nat) (vb vl : Value) (A3 : Option Addr) (c3 : Nat) (h : St W w g vb vl D0) (hC : Kd.C QJour.k62 w A3 l.length l) (hlc : l.length ≤ c3) (hro : OffRow g w A3) =>
    Commit_calls (k := k) (m := m) (cp := cp) (pg := pgF fi m) (lst := QJour.listS l) (tp := QJour.topS l) h hC hlc hro (by omega) (by rw [hDn]; exact eP) (fun a => by rw [hDn]; exact ePg a) (fun a => pgF_wf hfi a) zW (by rw [hDn]; exact eC) hcp0 hcp1 (fun h3 _ => by rw [hDl]; exact eX h3))
  have HRK := Aside0.mk (fun (W w : World) (h : Nat) (ub ul : Value) (hs : RSt W w h ub ul D0) (hC : Kd.C QJour.k62 w A l.length l) =>
    RefCommit_calls (k := k) (c := c) (ws := ws) (r := mayS m (pgF fi m) l) hs hC hc (by rw [hDn]; exact eM) (fun h3 => by rw [hws, hDn, hDl]; exact eW h3))
  have HSM := Aside0.mk (commit_same m cp (pgF fi m) l D0)
  rw [← hws, ← hcm] at HSM
  rw [← hcm] at HK
  have HD0 := Aside0.mk hD0
  have HCL := Aside0.mk hcl
  have HL := Aside0.mk hl
  clear hC hcpy hn eP ePg eC eX eM eW hcm hws hDn hDl hcl hD0 hl hfi hm hcp0 hcp1
  go_enter Try.func4, Try.ntmps4
  go_wp2_with (first
    | (go_at_call 12; refine (jwakes_calls _).mono ?_; rintro e w1 ⟨rfl, hb⟩; have B1 := Aside0.mk hb; clear hb)
    | (go_at_call 13; refine (laid_nil a n w1 h1 h2 HN.out).mono ?_; rintro e w2 ⟨g, vb, h, ub, rfl, ht⟩; have T2 := Aside0.mk ht; clear ht)
    | (go_at_call 14; refine (Cut_two cut T2.out).mono ?_; rintro e w3 ⟨rfl, ht, _⟩; have T3 := Aside0.mk ht; clear ht T2)
    | (go_at_call 15; refine (RefCut_half cut T3.out).mono ?_; rintro e w4 ⟨rfl, ht⟩; rw [← HD0.out] at ht; have T4 := Aside0.mk ht; clear ht T3)
    | (go_at_call 20; refine (QJour.aumbryref09_CopyPages.calls A c l l _ (Kd.C_below HC.out (below_step B1.out T4.out.1.2)) hc HCP.out).mono ?_; rintro e w5 ⟨v, rfl, hR, hb⟩; obtain ⟨A3, c3, rfl, hc3, hC3⟩ := Kd.R_reads hR; have T5 := Aside0.mk (T4.out.below hb); have C5 := Aside0.mk hC3; have X5 := Aside0.mk (fun ad (e : A3 = some ad) => (by subst e; have q1 := ((Kd.R_bound hR).1 ad.block rfl).2; exact ⟨q1.1, q1.2.1⟩ : w4.heap.size ≤ ad.block ∧ ad.block < w5.heap.size)); clear hR hC3)
    | (go_at_call 21; refine (HK.out w1 w5 g vb (.slice none 0 0) A3 c3 T5.out.1 C5.out hc3 (fun ad e => ⟨fun hf => by have q1 := (T4.out.1.foot ((T5.out.1.1.footOf _).1 hf)).2; have q2 := (X5.out ad e).1; omega, (X5.out ad e).2⟩)).mono ?_; rintro e w6 ⟨vl', rfl, s1, s2, s3⟩; have S6 := Aside0.mk s1; have R6 : Aside0 (RSt w1 w6 h ub (.slice none 0 0) D0) := ⟨⟨T5.out.2.1.1.rd (fun k hk hf => T5.out.2.2 k ((T5.out.1.1.footOf k).1 hf) hk) s3, s1.2⟩⟩; have C6 := Aside0.mk (C_rd C5.out (fun ad e => ⟨fun hf => by have q1 := (T4.out.1.foot ((T5.out.1.1.footOf _).1 hf)).2; have q2 := (X5.out ad e).1; omega, (X5.out ad e).2⟩) s3); have P6 : Aside0 (∀ k, Foot g vb vl' k → ¬ Foot h ub (.slice none 0 0) k) := ⟨fun k hk hk' => by rcases s2 k hk with q | q; exact T5.out.2.2 k q hk'; have := (T5.out.2.1.foot hk').2; omega⟩; clear s1 s2 s3)
    | (go_at_call 22; refine (HRK.out w1 w6 h ub (.slice none 0 0) R6.out (Kd.C_below HC.out (below_step B1.out R6.out.2))).mono ?_; rintro e w7 ⟨ul', rfl, s1, s3⟩; rw [HSM.out] at s1 ⊢; have F7 : Aside0 (Fin w1 w7 g vb vl' h ub ul' cm.1 A3 A l) := ⟨⟨S6.out.moved s3 (fun k hk => P6.out k hk) (fun k _ hk => (R6.out.foot hk).1), s1, C_moved C6.out s3 (fun ad e hf => by have q1 := (T4.out.2.1.foot hf).2; have q2 := (X5.out ad e).1; omega), Kd.C_below HC.out (below_step B1.out s1.2)⟩⟩; clear s1 s3))
  obtain ⟨Au, cu, eu, _⟩ := own_slice F7.out.2.1.1.2.2.1
  obtain ⟨Al, cl, el, _⟩ := own_slice F7.out.2.1.1.2.2.2
  subst eu el
  have HLg : Aside0 (cm.1.log.length * 24 ≤ 140737488355328) := ⟨by have := HCL.out.1; omega⟩
  have HLg2 : Aside0 (cm.1.log.length ≤ 1000000000000000000) := ⟨by have := HCL.out.1; omega⟩
  have HBk : Aside0 (cm.1.blocks.length * 16 ≤ 140737488355328) := ⟨by rw [HCL.out.2]; omega⟩
  have HBk2 : Aside0 (cm.1.blocks.length ≤ 1000000000000000000) := ⟨by rw [HCL.out.2]; omega⟩
  have HLL : Aside0 (l.length ≤ 1000000000000000000) := ⟨by have := HL.out; omega⟩
  have T3 := Aside0.mk (F7.out.below (below_drew1 (Below.refl w7.heap.size w7)))
  have HC3 := Aside0.mk hc3
  have HCc := Aside0.mk hc
  clear F7 P6 C6 R6 S6 X5 C5 T5 T4 HSM HRK HK HD0 HCL HCP HN HL hc3 hc h1 h2
  go_wp2
  go_region_held3 (fun w' => w'.cell? ⟨h, 1, none⟩ = some (.slice Al cm.1.log.length cl) ∧ w'.cell? ⟨h, 0, none⟩ = some (.slice Au cm.1.blocks.length cu) ∧ w'.cell? ⟨h, 4, none⟩ = some (.bool cm.1.down)) (first | exact ⟨(blk_cell T3.out.2.1.1.2.1 1).trans rfl, (blk_cell T3.out.2.1.1.2.1 0).trans rfl, (blk_cell T3.out.2.1.1.2.1 4).trans rfl⟩) (first
    | (go_at_call 19; refine (Log_calls T3.out.1.1 HLg.out).mono ?_; rintro e w8 ⟨v1, rfl, ho, hb⟩; have HG := Aside0.mk ho; have n1 := Aside0.mk (T3.out.below hb); clear T3; have T3 := n1; clear n1 ho hb)
    | (go_at_call 18; have q0 := HG; refine (SamePages_true HG.out T3.out.2.1.1.2.2.2 HLg2.out).mono ?_; rintro e w9 ⟨rfl, hb⟩; have n1 := Aside0.mk (T3.out.below hb); clear T3; have T3 := n1; clear n1 hb q0 HG)
    | (go_at_call 18; refine (JSame T3.out.2.2.1 HC3.out T3.out.2.2.2 HCc.out HLL.out).mono ?_; rintro e w9 ⟨rfl, hb⟩; have n1 := Aside0.mk (T3.out.below hb); clear T3; have T3 := n1; clear n1 hb)
    | (go_at_call 24; refine (Image_calls T3.out.1.1 HBk.out).mono ?_; rintro e w6 ⟨v2, rfl, ho, hb⟩; have HI := Aside0.mk ho; have n1 := Aside0.mk (T3.out.below hb); clear T3; have T3 := n1; clear n1 ho hb)
    | (go_at_call 23; refine (Same_true HI.out T3.out.2.1.1.2.2.1 HBk2.out).mono ?_; rintro e w7 ⟨rfl, hb⟩; have n1 := Aside0.mk (T3.out.below hb); clear T3; have T3 := n1; clear n1 hb)
    | (go_at_call 25; refine (Down_calls T3.out.1.1).mono ?_; rintro e w7 ⟨rfl, hw⟩; obtain rfl := hw.symm))
  go_wp2
  go_ret
  exact ⟨by first | rfl | simp, below_step B1.out T3.out.1.2⟩
end Go.Proofs.Ytgageigcjeaenaa.Disk
namespace Go.Proofs.Ytgageigcjeaenaa.Disk
open Go.RowKit Go.Proofs.YtgageigcjeaenaaW.PrintWords Go.Proofs.YtgageigcjeaenaaW.PrintLast Go.Proofs.YtgageigcjeaenaaW.PrintMore Go.Proofs.Ytgageigcjeaenaa.MixBase Go.Proofs.Ytgageigcjeaenaa.MixPlain Go.Proofs.Ytgageigcjeaenaa.NumBase Go.Proofs.Ytgageigcjeaenaa.PadPlain
attribute [local go_sem] max2_int min2_int max_two min_two max_three min_three max_four min_four
set_option linter.unusedVariables false
set_option linter.unusedSimpArgs false
def blk (d : Dk) (j : Nat) : ByteArray := d.blocks.getD j ⟨#[]⟩
theorem read_blk {d : Dk} (hd : d.down = false) (j : Nat) (h : j < d.blocks.length) : readD d (j : Int) = (blk d j, 0) := by
  have hm : mayD d (j : Int) = 0 := by
    unfold mayD
    rw [hd, if_neg (by simp), if_neg (by omega)]
  unfold readD
  rw [if_pos hm]
  refine Prod.ext ?_ rfl
  show d.blocks.getD ((j : Int)).toNat ⟨#[]⟩ = _
  rw [show ((j : Int)).toNat = j by omega]
  rfl
theorem bytes_ext {a b : ByteArray} (h : a.toList = b.toList) : a = b := by
  rw [Go.ByteArray.toList_eq, Go.ByteArray.toList_eq] at h
  exact ByteArray.ext (Array.ext' h)
def outE (d : Dk) (cp i : Nat) : QJour.S62 := ⟨(getSpec (blk d (2 + i / 128)) (((i % 128) * 2 : Nat) : Int) 2).1, blk d (cp + i)⟩
def outS (d : Dk) (cp i : Nat) : List QJour.S62 := (List.range i).map (outE d cp)
theorem outS_succ (d : Dk) (cp i : Nat) : outS d cp (i + 1) = outS d cp i ++ [outE d cp i] := by unfold outS; rw [List.range_succ, List.map_append]; rfl
theorem outS_len (d : Dk) (cp i : Nat) : (outS d cp i).length = i := by unfold outS; rw [List.length_map, List.length_range]
def get2 (s : ByteArray) : Int := (getSpec s 4 2).1
/-- Does the list's part on the disk read as the list? -/
def listOk (d : Dk) (lst : List ByteArray) : Prop := ∀ i, i < lst.length → blk d (2 + i) = lst.getD i ⟨#[]⟩
open Classical in
/-- The group that the head tells. -/
noncomputable def toldS (m : Int) (pg : Int → Bool) (cp : Nat) (d : Dk) (s : ByteArray) (hp : Bool) : List QJour.S62 :=
  if hp = false ∨ get2 s < 1 ∨ get2 s > m then [] else
  if listOk d (QJour.listS (outS d cp (get2 s).toNat)) ∧ mayS m pg (outS d cp (get2 s).toNat) = 0 ∧ QJour.topS (outS d cp (get2 s).toNat) = s then outS d cp (get2 s).toNat else []
theorem rd_blk (d : Dk) (j : Nat) : rdOf ByteArray.empty d.blocks (j : Int) = blk d j := by
  unfold rdOf blk
  rw [show ((j : Int)).toNat = j by omega]
  rfl
theorem rdl (l : List ByteArray) (j : Nat) : rdOf ByteArray.empty l (j : Int) = l.getD j ⟨#[]⟩ := by
  unfold rdOf
  rw [show ((j : Int)).toNat = j by omega]
  rfl
open Classical in
theorem rtold_l1 {n : Nat} {m : Int} {pg : Int → Bool} {d : Dk} (hn : d.blocks.length = n) (hn1 : n ≤ 2048) (out : List QJour.S62) (lst : List ByteArray) (hl2 : 2 + lst.length ≤ n)
    (hM : Ev (fun k => QJour.aumbryref10_May.f k (n : Int) out) (mayS m pg out)) (hH : Ev (fun k => QJour.aumbryref10_Head.f k out) (QJour.topS out)) :
    ∀ e j, j + e = lst.length → (∀ t, t < j → blk d (2 + t) = lst.getD t ⟨#[]⟩) → Ev (fun k => QJour.aumbryref10_Told.l1 k d.blocks (n : Int) out lst (lst.length : Int) (j : Int)) (if listOk d lst ∧ mayS m pg out = 0 ∧ QJour.topS out = blk d 1 then out else [])
  | 0, j, h, hj => by
    obtain rfl : j = lst.length := by omega
    have hok : listOk d lst := hj
    refine Ev.step (fun k => ?_) (Ev.bind hM (f := fun k t240 => (if t240 = 0 then ((QJour.aumbryref10_Head.f k out).bind fun t241 => (if 1 < (d.blocks.length : Int) then (if t241.toList = (rdOf ByteArray.empty d.blocks 1).toList then (some out) else (some ([] : List QJour.S62))) else (none))) else (some ([] : List QJour.S62)))) ?_)
    · show QJour.aumbryref10_Told.l1 (k + 1) d.blocks _ _ _ _ _ = _
      rw [QJour.aumbryref10_Told.l1, if_neg (by omega)]
    · by_cases h0 : mayS m pg out = 0
      · have hz : ∀ k, (if mayS m pg out = 0 then ((QJour.aumbryref10_Head.f k out).bind fun t241 => (if 1 < (d.blocks.length : Int) then (if t241.toList = (rdOf ByteArray.empty d.blocks 1).toList then (some out) else (some ([] : List QJour.S62))) else (none))) else (some ([] : List QJour.S62))) = ((QJour.aumbryref10_Head.f k out).bind fun t241 => (if 1 < (d.blocks.length : Int) then (if t241.toList = (rdOf ByteArray.empty d.blocks 1).toList then (some out) else (some ([] : List QJour.S62))) else (none))) := fun k => if_pos h0
        refine Ev.congr hz (Ev.bind hH (f := fun k t241 => (if 1 < (d.blocks.length : Int) then (if t241.toList = (rdOf ByteArray.empty d.blocks 1).toList then (some out) else (some ([] : List QJour.S62))) else (none))) ?_)
        have e1 : rdOf ByteArray.empty d.blocks 1 = blk d 1 := rd_blk d 1
        rw [e1, if_pos (by omega)]
        by_cases h1 : QJour.topS out = blk d 1
        · rw [if_pos (by rw [h1]), if_pos ⟨hok, h0, h1⟩]
          exact Ev.now _
        · rw [if_neg (fun e => h1 (bytes_ext e)), if_neg (fun e => h1 e.2.2)]
          exact Ev.now _
      · rw [if_neg (fun e => h0 e.2.1)]
        refine Ev.congr (fun k => ?_) (Ev.now _)
        rw [if_neg h0]
  | e + 1, j, h, hj => by
    have hjl : j < lst.length := by omega
    have hs : ∀ k, QJour.aumbryref10_Told.l1 (k + 1) d.blocks (n : Int) out lst (lst.length : Int) (j : Int) = (if (blk d (2 + j)).toList = (lst.getD j ⟨#[]⟩).toList then (QJour.aumbryref10_Told.l1 k d.blocks (n : Int) out lst (lst.length : Int) ((j + 1 : Nat) : Int)) else (some ([] : List QJour.S62))) := by
      intro k
      rw [QJour.aumbryref10_Told.l1, if_pos (by omega), MixBase.wrap64_small (i := 2 + (j : Int)) (by omega) (by omega), if_pos (by omega), if_pos (by omega), if_pos (by omega), if_pos (by omega), MixBase.wrap64_small (i := (j : Int) + 1) (by omega) (by omega), show (2 : Int) + (j : Int) = ((2 + j : Nat) : Int) by omega, rd_blk, rdl]
      rfl
    by_cases hb : blk d (2 + j) = lst.getD j ⟨#[]⟩
    · have ih := rtold_l1 (m := m) (pg := pg) hn hn1 out lst hl2 hM hH e (j + 1) (by omega) (fun t ht => by
        rcases Nat.lt_or_ge t j with h1 | h1
        · exact hj t h1
        · obtain rfl : t = j := by omega
          exact hb)
      refine Ev.step (fun k => ?_) ih
      show QJour.aumbryref10_Told.l1 (k + 1) d.blocks _ _ _ _ _ = _
      rw [hs, if_pos (by rw [hb])]
    · rw [if_neg (fun h1 => hb (h1.1 j hjl))]
      refine Ev.step (f := fun _ => some []) (fun k => ?_) (Ev.now _)
      show QJour.aumbryref10_Told.l1 (k + 1) d.blocks _ _ _ _ _ = _
      rw [hs, if_neg (fun h1 => hb (bytes_ext h1))]
theorem idx1 (i : Nat) (h : i ≤ 4096) : wrap64 (2 + wrap64 (Int.tdiv (i : Int) 128)) = ((2 + i / 128 : Nat) : Int) := by
  rw [Int.tdiv_eq_ediv_of_nonneg (by omega), MixBase.wrap64_small (i := (i : Int) / 128) (by omega) (by omega), MixBase.wrap64_small (by omega) (by omega)]
  omega
theorem idx2 (i : Nat) : wrap64 (Int.tmod (i : Int) 128 * 2) = (((i % 128) * 2 : Nat) : Int) := by
  rw [Int.tmod_eq_emod_of_nonneg (by omega), MixBase.wrap64_small (by omega) (by omega)]
  omega
theorem idx3 (a i : Nat) (ha : a ≤ 4096) (hi : i ≤ 4096) : wrap64 (wrap64 (2 + (a : Int)) + (i : Int)) = ((2 + a + i : Nat) : Int) := by
  rw [MixBase.wrap64_small (i := 2 + (a : Int)) (by omega) (by omega), MixBase.wrap64_small (by omega) (by omega)]
  omega
theorem in_range {q cp n i : Nat} (hcpq : cp = 2 + (q + 127) / 128) (hneed : need q ≤ n) (hi : i < q) : cp + i < n ∧ 2 + i / 128 < n := by
  unfold need at hneed
  omega
theorem wrap_small {z : Int} (h : 0 ≤ z ∧ z < 65536) : wrap64 z = z := MixBase.wrap64_small (by omega) (by omega)
theorem rtold_l0 {n q cp N : Nat} {d : Dk} (hn : d.blocks.length = n) (hn1 : n ≤ 2048) (hq : q ≤ 1023) (hcpq : cp = 2 + (q + 127) / 128) (hneed : need q ≤ n) (hNq : N ≤ q) (hbs : ∀ j, (blk d j).size ≤ 100000) (hg : ∀ t a, 0 ≤ (getSpec t a 2).1 ∧ (getSpec t a 2).1 < 65536)
    (hG : ∀ (t : ByteArray) (a : Int) (k : Nat), 9 < k → (t.size : Int) ≤ 9223372036854775807 → QJour.aumbryref01_Get.f k t a 2 = some (getSpec t a 2)) {r : List QJour.S62}
    (hE : Ev (fun k => QJour.aumbryref10_Told.l1 k d.blocks (n : Int) (outS d cp N) (QJour.listS (outS d cp N)) ((QJour.listS (outS d cp N)).length : Int) 0) r) :
    ∀ e i, i + e = N → Ev (fun k => QJour.aumbryref10_Told.l0 k d.blocks (n : Int) (q : Int) (N : Int) (outS d cp i) (i : Int)) r
  | 0, i, h => by
    obtain rfl : i = N := by omega
    refine Ev.step (fun k => ?_) (Ev.bind (QJour.reflist_ev (outS d cp i) (by rw [outS_len]; omega)) (f := fun k t235 => QJour.aumbryref10_Told.l1 k d.blocks (n : Int) (outS d cp i) t235 (t235.length : Int) 0) hE)
    show QJour.aumbryref10_Told.l0 (k + 1) d.blocks _ _ _ _ _ = _
    rw [QJour.aumbryref10_Told.l0, if_neg (by omega)]
  | e + 1, i, h => by
    have ih := rtold_l0 hn hn1 hq hcpq hneed hNq hbs hg hG hE e (i + 1) (by omega)
    have hi : i < N := by omega
    have hiq : i < q := by omega
    have hi4 : i ≤ 4096 := by omega
    have hr := rows_f q (Nat.le_trans hq (by decide))
    obtain ⟨K, hK⟩ := ih
    refine ⟨K + 11, fun k hk => ?_⟩
    obtain ⟨k, rfl⟩ : ∃ j, k = j + 1 := ⟨k - 1, by omega⟩
    have hk9 : 9 < k := by omega
    have h2 := hK k (by omega)
    have hqq := in_range hcpq hneed hiq
    have t1 := idx1 i hi4
    have t2 := idx2 i
    have t3 := idx3 ((q + 127) / 128) i (Nat.le_trans (Nat.div_le_self _ _) (Nat.le_trans (Nat.add_le_add_right hq 127) (by decide))) hi4
    rw [← hcpq] at t3
    have b1 : (0 : Int) ≤ ((2 + i / 128 : Nat) : Int) := Int.natCast_nonneg _
    have b2 : ((2 + i / 128 : Nat) : Int) < (d.blocks.length : Int) := by rw [hn]; exact Int.ofNat_lt.2 hqq.2
    have b3 : (0 : Int) ≤ ((cp + i : Nat) : Int) := Int.natCast_nonneg _
    have b4 : ((cp + i : Nat) : Int) < (d.blocks.length : Int) := by rw [hn]; exact Int.ofNat_lt.2 hqq.1
    have b5 : (i : Int) < (N : Int) := Int.ofNat_lt.2 hi
    have b6 : (outS d cp i).length < 5864062014805 := by rw [outS_len]; exact Nat.lt_of_le_of_lt hi4 (by decide)
    have b7 : ((blk d (2 + i / 128)).size : Int) ≤ 9223372036854775807 := Int.le_trans (Int.ofNat_le.2 (hbs (2 + i / 128))) (by decide)
    have b8 : wrap64 ((i : Int) + 1) = ((i + 1 : Nat) : Int) := wrap_small ⟨Int.natCast_nonneg (i + 1), Int.ofNat_lt.2 (Nat.lt_of_le_of_lt (Nat.succ_le_succ hi4) (by decide : 4096 + 1 < 65536))⟩
    have b9 := wrap_small (hg (blk d (2 + i / 128)) (((i % 128) * 2 : Nat) : Int))
    show QJour.aumbryref10_Told.l0 (k + 1) d.blocks _ _ _ _ _ = _
    rw [QJour.aumbryref10_Told.l0, if_pos b5, t1, t2, if_pos b1, if_pos b2, rd_blk, hG _ _ k hk9 b7, Option.bind_some, hr, Option.bind_some, t3, if_pos b3, if_pos b4, if_pos b6, rd_blk, b9, b8]
    rw [outS_succ] at h2
    exact h2
open Classical in
set_option maxRecDepth 100000 in
set_option maxHeartbeats 600000 in
theorem told_calls {W w : World} {g k q n cp : Nat} {vb vl : Value} {d : Dk} {m : Int} {pg : Int → Bool} {s : ByteArray} {g2 : Int} {hp : Bool} (h : St W w g vb vl d) (hdn : d.down = false) (hn : d.blocks.length = n) (hn0 : 64 ≤ n) (hn1 : n ≤ 2048) (hm : m = (q : Int)) (hq : q ≤ 1023) (hcpq : cp = 2 + (q + 127) / 128) (hneed : need q ≤ n)
    (hP : QJour.journal_Pages.f k (n : Int) = some m) (hpg : ∀ a, QJour.journal_page.f k (n : Int) a = some (pg a)) (hwf : ∀ a, pg a = true → (Lit.int .i64 a).wf = true) (hC : QJour.journal_copies.f k (n : Int) = some (cp : Int))
    (hG : ∀ (t : ByteArray) (a : Int), (t.size : Int) ≤ 9223372036854775807 → QJour.num_Get.f k t a 2 = some (getSpec t a 2)) (hs : (s.size : Int) ≤ 9223372036854775807) (hbs : ∀ j, (blk d j).size ≤ 100000) (hH : QJour.strings_HasPrefix.f s ⟨#[106, 114, 110, 108]⟩ = some hp)
    (hL : ∀ l : List QJour.S62, l.length ≤ 4096 → QJour.journal_list.f k l = some (QJour.listS l)) (hT : ∀ i, i ≤ q → QJour.journal_top.f k (outS d cp i) = some (QJour.topS (outS d cp i))) (hg : ∀ t a, 0 ≤ (getSpec t a 2).1 ∧ (getSpec t a 2).1 < 65536) :
    Calls Try.prog 45 #[.pointer (some ⟨g, 0, none⟩), .string s] w fun e w' => ∃ v, e = .returned (.tuple #[v, .int .i64 0]) ∧ Kd.R QJour.k62 62 w' w.heap.size (fun _ => True) v (toldS m pg cp d s hp) ∧ Below w.heap.size w w' := by
  have H := Aside0.mk h
  have HG0 := Aside0.mk (hG s 4 hs)
  have HH := Aside0.mk hH
  have HP := Aside0.mk hP
  have HR := hg s 4
  obtain ⟨G, hGe⟩ : ∃ G, G = getSpec s 4 2 := ⟨_, rfl⟩
  rw [← hGe] at HG0 HR
  have hget : get2 s = G.1 := by unfold get2; rw [hGe]
  unfold toldS
  rw [hget]
  by_cases hb : hp = false ∨ G.1 < 1 ∨ G.1 > m
  · rw [if_pos hb]
    have hu : IntKind.u64.wrap m = m := by rw [IntKind.wrap_u64]; omega
    have HNe := Aside0.mk hn
    have HB0 : Aside0 (Kd.R QJour.k62 62 w w.heap.size (fun _ => True) (.slice none 0 0) ([] : List QJour.S62)) := ⟨Kd.R_nil _ _ _ _ _⟩
    cases hp with
    | false =>
      clear hb HR hpg hwf hC hG hL hT hg h hH hP hs hbs hneed hcpq hq hm hn hn0 hn1 hdn hget hGe
      go_enter Try.func45, Try.ntmps45
      go_wp2_with (first
        | (go_at_call 65; refine (QJour.num_Get.calls k s 4 2 G.1 G.2 _ HG0.out).mono ?_; rintro e w' ⟨rfl, ⟨nd, rfl⟩⟩)
        | (go_at_call 66; refine (QJour.strings_HasPrefix.calls s _ false _ HH.out).mono ?_; rintro e w' ⟨rfl, ⟨nd2, rfl⟩⟩))
      go_ret2
      exact ⟨_, rfl, Kd.R_drewN HB0.out _, pw_below_drewN (Below.refl _ _) _⟩
    | true =>
      by_cases h1 : G.1 < 1
      · have c1 : decide (G.1 < 1) = true := decide_eq_true h1
        clear hb HR hpg hwf hC hG hL hT hg h hH hP hs hbs hneed hcpq hq hm hn hn0 hn1 hdn hget hGe h1
        go_enter Try.func45, Try.ntmps45
        go_wp2_with (first
          | (go_at_call 65; refine (QJour.num_Get.calls k s 4 2 G.1 G.2 _ HG0.out).mono ?_; rintro e w' ⟨rfl, ⟨nd, rfl⟩⟩)
          | (go_at_call 66; refine (QJour.strings_HasPrefix.calls s _ true _ HH.out).mono ?_; rintro e w' ⟨rfl, ⟨nd2, rfl⟩⟩))
        go_ret2
        exact ⟨_, rfl, Kd.R_drewN HB0.out _, pw_below_drewN (Below.refl _ _) _⟩
      · have c1 : decide (G.1 < 1) = false := decide_eq_false h1
        have hgm : G.1 > m := by
          rcases hb with e | e | e
          · cases e
          · exact absurd e h1
          · exact e
        have c2 : decide (G.1 > m) = true := decide_eq_true hgm
        have c2' : decide (m < G.1) = true := decide_eq_true hgm
        clear hb HR hpg hwf hC hG hL hT hg h hH hP hs hbs hneed hcpq hq hm hn hn0 hn1 hdn hget hGe h1 hgm
        go_enter Try.func45, Try.ntmps45
        go_wp2_with (first
          | (go_at_call 65; refine (QJour.num_Get.calls k s 4 2 G.1 G.2 _ HG0.out).mono ?_; rintro e w' ⟨rfl, ⟨nd, rfl⟩⟩)
          | (go_at_call 66; refine (QJour.strings_HasPrefix.calls s _ true _ HH.out).mono ?_; rintro e w' ⟨rfl, ⟨nd2, rfl⟩⟩)
          | (go_at_call 34; refine (Len_calls (H.out.below (pw_below_drewN (Below.refl _ _) _)).1).mono ?_; rintro e w' ⟨rfl, hw⟩; obtain rfl := hw.symm; rw [HNe.out])
          | (go_at_call 39; refine (QJour.journal_Pages.calls k _ m _ HP.out).mono ?_; rintro e w' ⟨rfl, ⟨nd3, rfl⟩⟩))
        go_ret2
        exact ⟨_, rfl, Kd.R_drewN HB0.out _, pw_below_drewN (Below.refl _ _) _⟩
  · rw [if_neg hb]
    have hp1 : hp = true := by cases hp with | false => exact absurd (Or.inl rfl) hb | true => rfl
    subst hp1
    have hu : IntKind.u64.wrap m = m := by rw [IntKind.wrap_u64]; omega
    have h1 : ¬ G.1 < 1 := fun e => hb (Or.inr (Or.inl e))
    have h2 : ¬ G.1 > m := fun e => hb (Or.inr (Or.inr e))
    obtain ⟨N, hN⟩ : ∃ N : Nat, G.1 = (N : Int) := ⟨G.1.toNat, by omega⟩
    have hN1 : 1 ≤ N := by omega
    have hNq : N ≤ q := by omega
    have hNn : G.1.toNat = N := by omega
    rw [hNn]
    rw [hN] at h1 h2
    obtain ⟨OUT, hOUT⟩ : ∃ OUT, OUT = (if listOk d (QJour.listS (outS d cp N)) ∧ mayS m pg (outS d cp N) = 0 ∧ QJour.topS (outS d cp N) = s then outS d cp N else []) := ⟨_, rfl⟩
    rw [← hOUT]
    have HOUT := Aside0.mk hOUT
    clear hOUT
    have c1 : decide ((N : Int) < 1) = false := decide_eq_false h1
    have c2 : decide ((N : Int) > m) = false := decide_eq_false h2
    have c2' : decide (m < (N : Int)) = false := decide_eq_false h2
    have ci : IntKind.i64.wrap (N : Int) = (N : Int) := (i64_w _).trans (MixBase.wrap64_small (by omega) (by omega))
    have ci' : wrap64 (N : Int) = (N : Int) := MixBase.wrap64_small (by omega) (by omega)
    have HNe := Aside0.mk hn
    have HNQ := Aside0.mk hNq
    have HC := Aside0.mk hC
    have HG := Aside0.mk hG
    have HLs := Aside0.mk hL
    have HTp := Aside0.mk hT
    have HPG := Aside0.mk hpg
    have HWF := Aside0.mk hwf
    have HBS := Aside0.mk hbs
    have HGB := Aside0.mk hg
    have HDN := Aside0.mk hdn
    have HQ := Aside0.mk hq
    have HCP := Aside0.mk hcpq
    have HND := Aside0.mk hneed
    have HN1 := Aside0.mk hn1
    have HM := Aside0.mk hm
    have HG0' : Aside0 (QJour.num_Get.f k s 4 2 = some ((N : Int), G.2)) := ⟨by rw [HG0.out, ← hN]⟩
    clear hb HR hpg hwf hC hG hL hT hg h hH hP hs hbs hneed hcpq hq hm hn hn0 hn1 hdn hget hGe h1 h2 HG0 hNn hN1 hNq hN
    go_enter Try.func45, Try.ntmps45
    go_wp2_with (first
      | (go_at_call 65; refine (QJour.num_Get.calls k s 4 2 (N : Int) G.2 _ HG0'.out).mono ?_; rintro e w' ⟨rfl, ⟨nd, rfl⟩⟩)
      | (go_at_call 66; refine (QJour.strings_HasPrefix.calls s _ true _ HH.out).mono ?_; rintro e w' ⟨rfl, ⟨nd2, rfl⟩⟩)
      | (go_at_call 34; refine (Len_calls (H.out.below (pw_below_drewN (Below.refl _ _) _)).1).mono ?_; rintro e w' ⟨rfl, hw⟩; obtain rfl := hw.symm; rw [HNe.out])
      | (go_at_call 39; refine (QJour.journal_Pages.calls k _ m _ HP.out).mono ?_; rintro e w' ⟨rfl, ⟨nd3, rfl⟩⟩))
    go_loopg [8, 41] N (fun kq v8 v41 wr => ∃ (i : Nat), v41 = .int .i64 (i : Int) ∧ i ≤ N ∧ Aside0 (kq = N - i) ∧ Aside0 (Kd.R QJour.k62 62 wr w.heap.size (fun _ => True) v8 (outS d cp i)) ∧ Aside0 (Below w.heap.size w wr))
    case atStart => exact ⟨0, rfl, Nat.zero_le _, ⟨rfl⟩, ⟨Kd.R_nil _ _ _ _ _⟩, ⟨pw_below_drewN (Below.refl _ _) _⟩⟩
    case round =>
      clear c1 c2 c2' ci ci' hu
      obtain ⟨i, rfl, hi, hkq, HR, HB⟩ := hrel
      by_cases hil : i < N
      · have e1 : decide ((i : Int) < (N : Int)) = true := decide_eq_true (by omega)
        have e1' : ((i : Int) < (N : Int)) = True := eq_true (by omega)
        have hqq : (q + 127) / 128 ≤ 8 ∧ i < q ∧ cp + i < n ∧ 2 + i / 128 < n := by
          have a1 := HQ.out; have a2 := HNQ.out; have a3 := HCP.out; have a4 := HND.out; unfold need at a4
          omega
        have hiN : i ≤ 1023 := by have a1 := HQ.out; omega
        have t1 : Int.tdiv (i : Int) 128 = ((i / 128 : Nat) : Int) := by rw [Int.tdiv_eq_ediv_of_nonneg (by omega)]; rfl
        have t2 : Int.tmod (i : Int) 128 = ((i % 128 : Nat) : Int) := by rw [Int.tmod_eq_emod_of_nonneg (by omega)]; rfl
        have t3 : wrap64 (2 + ((i / 128 : Nat) : Int)) = ((2 + i / 128 : Nat) : Int) := by rw [MixBase.wrap64_small (by omega) (by omega)]; omega
        have t4 : wrap64 ((cp : Int) + (i : Int)) = ((cp + i : Nat) : Int) := by rw [MixBase.wrap64_small (by omega) (by have := HCP.out; omega)]; omega
        have t5 : wrap64 (((i % 128 : Nat) : Int) * 2) = (((i % 128) * 2 : Nat) : Int) := by rw [MixBase.wrap64_small (by omega) (by omega)]; omega
        have t6 : wrap64 ((i / 128 : Nat) : Int) = ((i / 128 : Nat) : Int) := MixBase.wrap64_small (by omega) (by omega)
        have R1 : Aside0 (readD d (2 + (i : Int) / 128) = (blk d (2 + i / 128), 0)) := ⟨by
          have h := read_blk HDN.out (2 + i / 128) (by rw [HNe.out]; exact hqq.2.2.2)
          rw [show ((2 + i / 128 : Nat) : Int) = 2 + (i : Int) / 128 by omega] at h
          exact h⟩
        have R2 : Aside0 (readD d ((cp : Int) + (i : Int)) = (blk d (cp + i), 0)) := ⟨by
          have h := read_blk HDN.out (cp + i) (by rw [HNe.out]; exact hqq.2.2.1)
          rw [show ((cp + i : Nat) : Int) = (cp : Int) + (i : Int) by omega] at h
          exact h⟩
        have G1 : Aside0 (QJour.num_Get.f k (blk d (2 + i / 128)) ((i : Int) % 128 * 2) 2 = some ((outE d cp i).f0, (getSpec (blk d (2 + i / 128)) ((i : Int) % 128 * 2) 2).2)) := ⟨by
          rw [HG.out (blk d (2 + i / 128)) ((i : Int) % 128 * 2) (by have := HBS.out (2 + i / 128); omega)]
          show some (getSpec _ _ 2) = some ((getSpec (blk d (2 + i / 128)) (((i % 128) * 2 : Nat) : Int) 2).1, _)
          rw [show (((i % 128) * 2 : Nat) : Int) = (i : Int) % 128 * 2 by omega]⟩
        have HV := HGB.out (blk d (2 + i / 128)) (((i % 128) * 2 : Nat) : Int)
        have hVi : wrap64 (outE d cp i).f0 = (outE d cp i).f0 := MixBase.wrap64_small (by show _ ≤ (getSpec _ _ 2).1; omega) (by show (getSpec _ _ 2).1 ≤ _; omega)
        have hVi' : IntKind.i64.wrap (outE d cp i).f0 = (outE d cp i).f0 := (i64_w _).trans hVi
        obtain ⟨E0, hE0⟩ : ∃ E0, E0 = (outE d cp i).f0 := ⟨_, rfl⟩
        have HE1 : Aside0 ((outE d cp i).f1 = blk d (cp + i)) := ⟨rfl⟩
        have HE0 := Aside0.mk hE0
        rw [← hE0] at G1 hVi hVi'
        have HI := Aside0.mk hi
        have HQQ := Aside0.mk hqq
        clear HV hE0 hqq
        go_wp2_with (first
          | (go_at_call 33; have q0 := R1; refine (Read_calls (2 + (i : Int) / 128) (H.out.below HB.out).1).mono ?_; rintro e w' ⟨rfl, hw⟩; obtain rfl := hw.symm; rw [R1.out]; clear q0 R1)
          | (go_at_call 34; refine (Len_calls (H.out.below HB.out).1).mono ?_; rintro e w' ⟨rfl, hw⟩; obtain rfl := hw.symm; rw [HNe.out])
          | (go_at_call 63; refine (QJour.journal_copies.calls k _ (cp : Int) _ HC.out).mono ?_; rintro e w' ⟨rfl, ⟨nd4, rfl⟩⟩; have HB4 : Aside0 (Below w.heap.size w (wr.drewN nd4)) := ⟨pw_below_drewN HB.out _⟩)
          | (go_at_call 33; refine (Read_calls ((cp : Int) + (i : Int)) (H.out.below HB4.out).1).mono ?_; rintro e w' ⟨rfl, hw⟩; obtain rfl := hw.symm; rw [R2.out])
          | (go_at_call 65; refine (QJour.num_Get.calls k _ _ 2 _ _ _ G1.out).mono ?_; rintro e w' ⟨rfl, ⟨nd5, rfl⟩⟩)
          | ((with_reducible refine gate_builtin (b := .append) (xs := #[.tmp 76, .tmp 81]) rfl ?_); at_builtin; refine Kd.R_append QJour.k62 (w0 := w) w.heap.size rfl (.tmp 76) (.tmp 81) 35 62 (.agg #[(.int .i64 0), (.string ⟨#[]⟩)]) 24 rfl Try.underlying35 info62 rfl (by decide) (by omega) u8 (outS d cp i) (⟨E0, blk d (cp + i)⟩ : QJour.S62) [.int .i64 E0, .string (blk d (cp + i))] (fun _ => True) (fun _ => False) rfl rfl (QJour.k62_mkM _ _ _ _) (fun _ hk => hk.elim) (fun _ _ => trivial) (Kd.R_drewN HR.out _) (pw_below_drewN HB.out _) (HB.out.size) (by rw [outS_len]; omega) ?_; intro v1 w1 ho hb hg hat; have HO2 := Aside0.mk ho; have HB2 := Aside0.mk hb; clear ho hb hg hat))
        go_roundg (N - (i + 1))
        case measure => have := hkq.out; omega
        case rel => exact ⟨i + 1, by first | rfl | (rw [MixBase.wrap64_small (by omega) (by omega)]; rfl), by omega, ⟨rfl⟩, ⟨by rw [outS_succ]; have h := HO2.out; rw [HE0.out] at h; exact h⟩, HB2⟩
      · obtain rfl : i = N := by omega
        have e1 : decide ((i : Int) < (i : Int)) = false := decide_eq_false (by omega)
        obtain ⟨A8, c8, rfl, hc8, hC8⟩ := Kd.R_reads HR.out
        have HC8 := Aside0.mk hC8
        have HCc := Aside0.mk hc8
        have HOL := Aside0.mk (outS_len d cp i)
        have HLL := Aside0.mk (HLs.out (outS d cp i) (by rw [outS_len]; have := HNQ.out; have := HQ.out; omega))
        clear hC8 hc8
        go_wp2_with (go_at_call 67; refine (QJour.journal_list.calls k A8 c8 (outS d cp i) _ _ HC8.out HCc.out HLL.out).mono ?_; rintro e w2 ⟨v2, rfl, hR2, hb2⟩; obtain ⟨A9, c9, rfl, hc9, hC9⟩ := Kd.R_reads hR2; have HC9 := Aside0.mk hC9; have HB2 := Aside0.mk hb2; clear hR2 hc9 hC9 hb2)
        have HBW := Aside0.mk (below_step HB.out HB2.out)
        have HLE := Aside0.mk (QJour.listS_length (outS d cp i))
        have HNI := Aside0.mk hi
        obtain ⟨lst, hlst⟩ : ∃ lst, lst = QJour.listS (outS d cp i) := ⟨_, rfl⟩
        have HLST := Aside0.mk hlst
        rw [← hlst] at HC9 HLE ⊢
        clear hlst e1 hi HLL hkq
        go_loopg [87] lst.length (fun kq v87 wx => ∃ (j : Nat), v87 = .int .i64 (j : Int) ∧ j ≤ lst.length ∧ Aside0 (kq = lst.length - j) ∧ Aside0 (∀ t, t < j → blk d (2 + t) = lst.getD t ⟨#[]⟩) ∧ wx = w2)
        case atStart => exact ⟨0, rfl, Nat.zero_le _, ⟨rfl⟩, ⟨fun t ht => absurd ht (Nat.not_lt_zero _)⟩, rfl⟩
        case round =>
          obtain ⟨j, rfl, hj, hkq, HJ, hw⟩ := hrel
          obtain rfl := hw.symm
          by_cases hjl : j < lst.length
          · have j1 : decide ((j : Int) < (lst.length : Int)) = true := decide_eq_true (by omega)
            have j1' : ((j : Int) < (lst.length : Int)) = True := eq_true (by omega)
            have j2 : ((0 : Int) ≤ (j : Int)) = True := eq_true (by omega)
            have j3 : (j < lst.length) = True := eq_true hjl
            have hjn : j ≤ 1000 ∧ 2 + j < n := by
              have a1 := HQ.out; have a2 := HNQ.out; have a3 := HCP.out; have a4 := HND.out; have a5 := HLE.out; rw [outS_len] at a5; unfold need at a4
              omega
            obtain ⟨ad, rfl, q0⟩ := Kd.at_string HC9.out (j : Int) (by omega) (by omega)
            have hrd : rdOf ByteArray.empty lst (j : Int) = lst.getD j ⟨#[]⟩ := by
              unfold rdOf
              rw [show ((j : Int)).toNat = j by omega]
              rfl
            rw [hrd, show ((j : Int)).toNat = j by omega] at q0
            have j4 : wrap64 (2 + (j : Int)) = 2 + (j : Int) := MixBase.wrap64_small (by omega) (by omega)
            have R1 : Aside0 (readD d (2 + (j : Int)) = (blk d (2 + j), 0)) := ⟨by
              have h := read_blk HDN.out (2 + j) (by rw [HNe.out]; exact hjn.2)
              rw [show ((2 + j : Nat) : Int) = 2 + (j : Int) by omega] at h
              exact h⟩
            obtain ⟨x, hx⟩ : ∃ x, x = lst.getD j ⟨#[]⟩ := ⟨_, rfl⟩
            have HX := Aside0.mk hx
            rw [← hx] at q0
            clear hx hrd
            by_cases hxb : blk d (2 + j) = x
            · have HXB := Aside0.mk hxb
              have RX : Aside0 (readD d (2 + (j : Int)) = (x, 0)) := ⟨by rw [R1.out, hxb]⟩
              have jj : wrap64 ((j : Int) + 1) = (j : Int) + 1 := MixBase.wrap64_small (by omega) (by omega)
              clear hxb R1
              go_wp2_with (go_at_call 33; refine (Read_calls (2 + (j : Int)) (H.out.below HBW.out).1).mono ?_; rintro e w' ⟨rfl, hw⟩; obtain rfl := hw.symm; rw [RX.out])
              go_roundg (lst.length - (j + 1))
              case measure => have := hkq.out; omega
              case rel => exact ⟨j + 1, by first | rfl | (rw [jj]; rfl), by omega, ⟨rfl⟩, ⟨fun t ht => by
                rcases Nat.lt_or_ge t j with h | h
                · exact HJ.out t h
                · obtain rfl : t = j := by omega
                  rw [HXB.out, HX.out]⟩, rfl⟩
            · have hb1 : ((blk d (2 + j)).toList != x.toList) = true := bne_iff_ne.2 (fun e => hxb (bytes_ext e))
              have hb3 : ((blk d (2 + j)).toList == x.toList) = false := beq_eq_false_iff_ne.2 (fun e => hxb (bytes_ext e))
              have HXB := Aside0.mk hxb
              clear hxb
              go_wp2_with (go_at_call 33; refine (Read_calls (2 + (j : Int)) (H.out.below HBW.out).1).mono ?_; rintro e w' ⟨rfl, hw⟩; obtain rfl := hw.symm; rw [R1.out])
              go_ret2
              have hno : ¬ (listOk d (QJour.listS (outS d cp i)) ∧ mayS m pg (outS d cp i) = 0 ∧ QJour.topS (outS d cp i) = s) := fun h => HXB.out (by rw [HX.out]; have := h.1 j (by rw [← HLST.out]; exact hjl); rw [← HLST.out] at this; exact this)
              refine ⟨_, rfl, ?_, HBW.out⟩
              rw [HOUT.out, if_neg hno]
              exact Kd.R_nil _ _ _ _ _
          · obtain rfl : j = lst.length := by omega
            have j1 : decide ((lst.length : Int) < (lst.length : Int)) = false := decide_eq_false (by omega)
            have HLO : Aside0 (listOk d lst) := ⟨HJ.out⟩
            have HC8' := Aside0.mk (Kd.C_below HC8.out HB2.out)
            have HMY := Aside0.mk (jmay_calls (w := w2) (A := A8) (c := c8) (k := k) (l := outS d cp i) (N := (n : Int)) (m := m) (pg := pg) HC8'.out (by rw [outS_len]; have := HQ.out; have := HNQ.out; omega) HP.out HPG.out HWF.out)
            have HTT := Aside0.mk (HTp.out i HNQ.out)
            by_cases hmz : mayS m pg (outS d cp i) = 0
            · have m1 : (mayS m pg (outS d cp i) != 0) = false := bne_eq_false_iff_eq.2 hmz
              have HMZ := Aside0.mk hmz
              clear hmz
              by_cases htp : QJour.topS (outS d cp i) = s
              · have HTS := Aside0.mk htp
                clear htp
                go_wp2_with (first
                  | (go_at_call 34; refine (Len_calls (H.out.below HBW.out).1).mono ?_; rintro e w' ⟨rfl, hw⟩; obtain rfl := hw.symm; rw [HNe.out])
                  | (go_at_call 51; refine HMY.out.mono ?_; rintro e w3 ⟨rfl, hb⟩; have HB3 := Aside0.mk hb; clear hb)
                  | (go_at_call 68; refine (QJour.journal_top.calls k A8 c8 (outS d cp i) _ _ (Kd.C_below HC8'.out HB3.out) HCc.out HTT.out).mono ?_; rintro e w4 ⟨rfl, hb⟩; rw [HTS.out]; have HB4 := Aside0.mk hb; clear hb))
                go_ret2
                refine ⟨_, rfl, ?_, below_step (below_step HBW.out HB3.out) HB4.out⟩
                rw [HOUT.out, if_pos ⟨by rw [← HLST.out]; exact HLO.out, HMZ.out, HTS.out⟩]
                exact Kd.R_below (Kd.R_below (Kd.R_below HR.out HB2.out) HB3.out) HB4.out
              · have m2 : ((QJour.topS (outS d cp i)).toList != s.toList) = true := bne_iff_ne.2 (fun e => htp (bytes_ext e))
                have m3 : ((QJour.topS (outS d cp i)).toList == s.toList) = false := beq_eq_false_iff_ne.2 (fun e => htp (bytes_ext e))
                have HTS := Aside0.mk htp
                clear htp
                go_wp2_with (first
                  | (go_at_call 34; refine (Len_calls (H.out.below HBW.out).1).mono ?_; rintro e w' ⟨rfl, hw⟩; obtain rfl := hw.symm; rw [HNe.out])
                  | (go_at_call 51; refine HMY.out.mono ?_; rintro e w3 ⟨rfl, hb⟩; have HB3 := Aside0.mk hb; clear hb)
                  | (go_at_call 68; refine (QJour.journal_top.calls k A8 c8 (outS d cp i) _ _ (Kd.C_below HC8'.out HB3.out) HCc.out HTT.out).mono ?_; rintro e w4 ⟨rfl, hb⟩; have HB4 := Aside0.mk hb; clear hb))
                go_ret2
                refine ⟨_, rfl, ?_, below_step (below_step HBW.out HB3.out) HB4.out⟩
                rw [HOUT.out, if_neg (fun h => HTS.out h.2.2)]
                exact Kd.R_nil _ _ _ _ _
            · have m1 : (mayS m pg (outS d cp i) != 0) = true := bne_iff_ne.2 hmz
              have HMZ := Aside0.mk hmz
              clear hmz
              go_wp2_with (first
                | (go_at_call 34; refine (Len_calls (H.out.below HBW.out).1).mono ?_; rintro e w' ⟨rfl, hw⟩; obtain rfl := hw.symm; rw [HNe.out])
                | (go_at_call 51; refine HMY.out.mono ?_; rintro e w3 ⟨rfl, hb⟩; have HB3 := Aside0.mk hb; clear hb))
              go_ret2
              refine ⟨_, rfl, ?_, below_step HBW.out HB3.out⟩
              rw [HOUT.out, if_neg (fun h => HMZ.out h.2.1)]
              exact Kd.R_nil _ _ _ _ _
end Go.Proofs.Ytgageigcjeaenaa.Disk
namespace Go.Proofs.Ytgageigcjeaenaa.Disk
open Go.RowKit Go.Proofs.YtgageigcjeaenaaW.PrintWords Go.Proofs.YtgageigcjeaenaaW.PrintLast Go.Proofs.YtgageigcjeaenaaW.PrintMore Go.Proofs.Ytgageigcjeaenaa.MixBase Go.Proofs.Ytgageigcjeaenaa.MixPlain Go.Proofs.Ytgageigcjeaenaa.NumBase Go.Proofs.Ytgageigcjeaenaa.PadPlain
attribute [local go_sem] max2_int min2_int max_two min_two max_three min_three max_four min_four
set_option linter.unusedVariables false
set_option linter.unusedSimpArgs false
/-- What the mending comes to. -/
def recD (d : Dk) (l : List QJour.S62) : Dk × Int × Int :=
  if l.length = 0 then (d, 0, 0) else if (doW d (homeW l)).2 = 0 then ((doW d (homeW l)).1, (l.length : Int), 0) else ((doW d (homeW l)).1, 0, (doW d (homeW l)).2)
set_option maxRecDepth 100000 in
set_option maxHeartbeats 1000000 in
theorem Recover_calls {W w : World} {g : Nat} {vb vl : Value} {d : Dk} {s : ByteArray} {l : List QJour.S62} (h : St W w g vb vl d) (hr : readD d 1 = (s, 0)) (hl : l.length ≤ 4096) (hlog : (d.log.length + (homeW l).length) * 24 ≤ 140737488355328)
    (hT : Calls Try.prog 45 #[.pointer (some ⟨g, 0, none⟩), .string s] w fun e w' => ∃ v, e = .returned (.tuple #[v, .int .i64 0]) ∧ Kd.R QJour.k62 62 w' w.heap.size (fun _ => True) v l ∧ Below w.heap.size w w') :
    Calls Try.prog 16 #[.pointer (some ⟨g, 0, none⟩)] w fun e w' => ∃ vl', e = .returned (.tuple #[.int .i64 (recD d l).2.1, .int .i64 (recD d l).2.2]) ∧ St W w' g vb vl' (recD d l).1 ∧ (∀ k, Foot g vb vl' k → Foot g vb vl k ∨ w.heap.size ≤ k) ∧ Rd g w w' := by
  have H := Aside0.mk h
  have HR := Aside0.mk hr
  have HT := Aside0.mk hT
  have HL := Aside0.mk hl
  have HLG := Aside0.mk hlog
  have hg : Aside0 (g < w.heap.size) := ⟨(h.foot (Or.inl rfl)).2⟩
  clear h hr hT hl hlog
  unfold recD
  by_cases h0 : l.length = 0
  · rw [if_pos h0]
    have c0 : ((l.length : Int) == 0) = true := beq_iff_eq.2 (by omega)
    clear h0
    go_enter Try.func16, Try.ntmps16
    go_wp2_with (first
      | (go_at_call 33; refine (Read_calls 1 H.out.1).mono ?_; rintro e w' ⟨rfl, hw⟩; obtain rfl := hw.symm; rw [HR.out])
      | (go_at_call 45; refine HT.out.mono ?_; rintro e w1 ⟨v, rfl, hR, hb⟩; obtain ⟨A, c, rfl, hc, hC⟩ := Kd.R_reads hR; have B1 := Aside0.mk hb; clear hR hC hb hc))
    go_ret2
    exact ⟨vl, rfl, H.out.below B1.out, fun k hk => Or.inl hk, Rd.of_below B1.out hg.out⟩
  · rw [if_neg h0]
    have c0 : ((l.length : Int) == 0) = false := beq_eq_false_iff_ne.2 (by omega)
    clear h0
    have prep : ∀ {Q : Ending → World → Prop}, True → True := fun _ => trivial
    by_cases he : (doW d (homeW l)).2 = 0
    · rw [if_pos he]
      have c1 : ((doW d (homeW l)).2 != 0) = false := bne_eq_false_iff_eq.2 he
      have HE := Aside0.mk he
      clear he
      go_enter Try.func16, Try.ntmps16
      go_wp2_with (first
        | (go_at_call 33; refine (Read_calls 1 H.out.1).mono ?_; rintro e w' ⟨rfl, hw⟩; obtain rfl := hw.symm; rw [HR.out])
        | (go_at_call 45; refine HT.out.mono ?_; rintro e w1 ⟨v, rfl, hR, hb⟩; obtain ⟨A, c, rfl, hc, hC⟩ := Kd.R_reads hR; have B1 := Aside0.mk hb; have C1 := Aside0.mk hC; have X1 : Aside0 (∀ ad, A = some ad → w.heap.size ≤ ad.block ∧ ad.block < w1.heap.size) := ⟨fun ad e => by subst e; have q1 := ((Kd.R_bound hR).1 ad.block rfl).2; exact ⟨q1.1, q1.2.1⟩⟩; clear hR hC hb hc)
        | (go_at_call 47; refine (home_calls A l.length c _).mono ?_; rintro e w2 ⟨b, rfl, hb1, hb2, hb3⟩; have B2 := Aside0.mk hb3; have P1 := Aside0.mk hb1; have P2 := Aside0.mk hb2; clear hb1 hb2 hb3)
        | (go_at_call 46; refine (write_calls ((H.out.below B1.out).below B2.out) (homeW l) (home_tells zW (Nat.lt_of_lt_of_le hg.out (Nat.le_trans B1.out.size B2.out.size)) P2.out (⟨fun hf => by have q := (H.out.foot ((((H.out.below B1.out).below B2.out).1.footOf _).1 hf)).2; have := P1.out; have := B1.out.size; omega, blk_lt P2.out⟩) (rowAt_of_C (Kd.C_below C1.out B2.out)) (fun ad e => ⟨fun hf => by have q := (H.out.foot ((((H.out.below B1.out).below B2.out).1.footOf _).1 hf)).2; have q2 := (X1.out ad e).1; omega, Nat.lt_of_lt_of_le (X1.out ad e).2 B2.out.size⟩) HL.out) (enters_of Try.func69 (by kernel_rfl) rfl) HLG.out).mono ?_; rintro e w3 ⟨vl', rfl, s1, s2, s3⟩; have S1 := Aside0.mk s1; have S2 := Aside0.mk s2; have S3 := Aside0.mk ((Rd.of_below B1.out hg.out).trans ((Rd.of_below B2.out (Nat.lt_of_lt_of_le hg.out B1.out.size)).trans s3)); clear s1 s2 s3))
      go_ret2
      exact ⟨vl', rfl, S1.out, fun k hk => (S2.out k hk).imp_right (fun hl => Nat.le_trans (Nat.le_trans B1.out.size B2.out.size) hl), S3.out⟩
    · rw [if_neg he]
      have c1 : ((doW d (homeW l)).2 != 0) = true := bne_iff_ne.2 he
      have HE := Aside0.mk he
      clear he
      go_enter Try.func16, Try.ntmps16
      go_wp2_with (first
        | (go_at_call 33; refine (Read_calls 1 H.out.1).mono ?_; rintro e w' ⟨rfl, hw⟩; obtain rfl := hw.symm; rw [HR.out])
        | (go_at_call 45; refine HT.out.mono ?_; rintro e w1 ⟨v, rfl, hR, hb⟩; obtain ⟨A, c, rfl, hc, hC⟩ := Kd.R_reads hR; have B1 := Aside0.mk hb; have C1 := Aside0.mk hC; have X1 : Aside0 (∀ ad, A = some ad → w.heap.size ≤ ad.block ∧ ad.block < w1.heap.size) := ⟨fun ad e => by subst e; have q1 := ((Kd.R_bound hR).1 ad.block rfl).2; exact ⟨q1.1, q1.2.1⟩⟩; clear hR hC hb hc)
        | (go_at_call 47; refine (home_calls A l.length c _).mono ?_; rintro e w2 ⟨b, rfl, hb1, hb2, hb3⟩; have B2 := Aside0.mk hb3; have P1 := Aside0.mk hb1; have P2 := Aside0.mk hb2; clear hb1 hb2 hb3)
        | (go_at_call 46; refine (write_calls ((H.out.below B1.out).below B2.out) (homeW l) (home_tells zW (Nat.lt_of_lt_of_le hg.out (Nat.le_trans B1.out.size B2.out.size)) P2.out (⟨fun hf => by have q := (H.out.foot ((((H.out.below B1.out).below B2.out).1.footOf _).1 hf)).2; have := P1.out; have := B1.out.size; omega, blk_lt P2.out⟩) (rowAt_of_C (Kd.C_below C1.out B2.out)) (fun ad e => ⟨fun hf => by have q := (H.out.foot ((((H.out.below B1.out).below B2.out).1.footOf _).1 hf)).2; have q2 := (X1.out ad e).1; omega, Nat.lt_of_lt_of_le (X1.out ad e).2 B2.out.size⟩) HL.out) (enters_of Try.func69 (by kernel_rfl) rfl) HLG.out).mono ?_; rintro e w3 ⟨vl', rfl, s1, s2, s3⟩; have S1 := Aside0.mk s1; have S2 := Aside0.mk s2; have S3 := Aside0.mk ((Rd.of_below B1.out hg.out).trans ((Rd.of_below B2.out (Nat.lt_of_lt_of_le hg.out B1.out.size)).trans s3)); clear s1 s2 s3))
      go_ret2
      exact ⟨vl', rfl, S1.out, fun k hk => (S2.out k hk).imp_right (fun hl => Nat.le_trans (Nat.le_trans B1.out.size B2.out.size) hl), S3.out⟩
set_option maxRecDepth 100000 in
set_option maxHeartbeats 1000000 in
theorem RefRecover_calls {W w : World} {g k : Nat} {vb vl : Value} {d : Dk} {s : ByteArray} {ml : List QJour.S62} (h : RSt W w g vb vl d) (hr : readD d 1 = (s, 0)) (hM : QJour.aumbryref10_Mends.f k d.blocks = some ml) (hl : ml.length ≤ 1000000) (hlog : (d.log.length + ml.length) * 24 ≤ 140737488355328) :
    Calls Try.prog 17 #[.pointer (some ⟨g, 0, none⟩)] w fun e w' => ∃ vl', e = .returned (.tuple #[.int .i64 (if (doW d (ml.map pgOf)).2 ≠ 0 then 0 else if ml.length = 0 then 0 else (ml.length : Int) - 1), .int .i64 (doW d (ml.map pgOf)).2]) ∧ RSt W w' g vb vl' (doW d (ml.map pgOf)).1 ∧ Moved w w' (Foot g vb vl) := by
  obtain ⟨Ab, cb, rfl, hcb, hCb⟩ := strs_C h.1.2.2.1
  have hu39 := Try.underlying39
  have z0 : w.cell? ⟨g, 0, none⟩ = some (.slice Ab d.blocks.length cb) := (blk_cell h.1.2.1 0).trans rfl
  have H := Aside0.mk h
  have HR := Aside0.mk hr
  have HMd := Aside0.mk hM
  have HL := Aside0.mk hl
  have HLG := Aside0.mk hlog
  have HCB := Aside0.mk hCb
  have HCC := Aside0.mk hcb
  clear h hr hM hl hlog hCb hcb
  have arm : True := trivial
  by_cases he : (doW d (ml.map pgOf)).2 = 0
  · have c1 : ((doW d (ml.map pgOf)).2 != 0) = false := bne_eq_false_iff_eq.2 he
    have HE := Aside0.mk he
    by_cases h0 : ml.length = 0
    · have c0 : ((ml.length : Int) == 0) = true := beq_iff_eq.2 (by omega)
      rw [if_neg (fun x => x he), if_pos h0]
      clear h0 he
      go_enter Try.func17, Try.ntmps17
      go_wp2_with (first
        | (go_at_call 48; refine (RefRead_calls 1 H.out.1).mono ?_; rintro e w' ⟨rfl, hw⟩; obtain rfl := hw.symm; rw [HR.out])
        | (go_at_call 49; refine (QJour.aumbryref10_Mends.calls k Ab cb d.blocks ml w HCB.out HCC.out HMd.out).mono ?_; rintro e w1 ⟨v, rfl, hR, hb⟩; obtain ⟨A, c, rfl, hc, hC⟩ := Kd.R_reads hR; have B1 := Aside0.mk hb; have C1 := Aside0.mk hC; have X1 : Aside0 (∀ ad, A = some ad → w.heap.size ≤ ad.block) := ⟨fun ad e => by subst e; exact ((Kd.R_bound hR).1 ad.block rfl).2.1⟩; clear hR hC hb hc)
        | (go_at_call 50; refine (Done_calls (H.out.below B1.out) C1.out (fun ad e hf => by have q1 := (H.out.foot hf).2; have q2 := X1.out ad e; omega) HL.out HLG.out).mono ?_; rintro e w2 ⟨vl', rfl, s1, s2, s3⟩; have S1 := Aside0.mk s1; have S3 := Aside0.mk ((Moved.of_below B1.out (Foot g (.slice Ab d.blocks.length cb) vl)).trans s3); clear s1 s2 s3))
      go_ret2
      exact ⟨vl', by rw [HE.out]; rfl, S1.out, S3.out⟩
    · have c0 : ((ml.length : Int) == 0) = false := beq_eq_false_iff_ne.2 (by omega)
      have cw : wrap64 ((ml.length : Int) - 1) = (ml.length : Int) - 1 := MixBase.wrap64_small (by omega) (by have := HL.out; omega)
      rw [if_neg (fun x => x he), if_neg h0]
      clear h0 he
      go_enter Try.func17, Try.ntmps17
      go_wp2_with (first
        | (go_at_call 48; refine (RefRead_calls 1 H.out.1).mono ?_; rintro e w' ⟨rfl, hw⟩; obtain rfl := hw.symm; rw [HR.out])
        | (go_at_call 49; refine (QJour.aumbryref10_Mends.calls k Ab cb d.blocks ml w HCB.out HCC.out HMd.out).mono ?_; rintro e w1 ⟨v, rfl, hR, hb⟩; obtain ⟨A, c, rfl, hc, hC⟩ := Kd.R_reads hR; have B1 := Aside0.mk hb; have C1 := Aside0.mk hC; have X1 : Aside0 (∀ ad, A = some ad → w.heap.size ≤ ad.block) := ⟨fun ad e => by subst e; exact ((Kd.R_bound hR).1 ad.block rfl).2.1⟩; clear hR hC hb hc)
        | (go_at_call 50; refine (Done_calls (H.out.below B1.out) C1.out (fun ad e hf => by have q1 := (H.out.foot hf).2; have q2 := X1.out ad e; omega) HL.out HLG.out).mono ?_; rintro e w2 ⟨vl', rfl, s1, s2, s3⟩; have S1 := Aside0.mk s1; have S3 := Aside0.mk ((Moved.of_below B1.out (Foot g (.slice Ab d.blocks.length cb) vl)).trans s3); clear s1 s2 s3))
      go_ret2
      exact ⟨vl', by rw [HE.out]; first | rfl | (rw [cw]; rfl), S1.out, S3.out⟩
  · have c1 : ((doW d (ml.map pgOf)).2 != 0) = true := bne_iff_ne.2 he
    rw [if_pos he]
    clear he
    go_enter Try.func17, Try.ntmps17
    go_wp2_with (first
      | (go_at_call 48; refine (RefRead_calls 1 H.out.1).mono ?_; rintro e w' ⟨rfl, hw⟩; obtain rfl := hw.symm; rw [HR.out])
      | (go_at_call 49; refine (QJour.aumbryref10_Mends.calls k Ab cb d.blocks ml w HCB.out HCC.out HMd.out).mono ?_; rintro e w1 ⟨v, rfl, hR, hb⟩; obtain ⟨A, c, rfl, hc, hC⟩ := Kd.R_reads hR; have B1 := Aside0.mk hb; have C1 := Aside0.mk hC; have X1 : Aside0 (∀ ad, A = some ad → w.heap.size ≤ ad.block) := ⟨fun ad e => by subst e; exact ((Kd.R_bound hR).1 ad.block rfl).2.1⟩; clear hR hC hb hc)
      | (go_at_call 50; refine (Done_calls (H.out.below B1.out) C1.out (fun ad e hf => by have q1 := (H.out.foot hf).2; have q2 := X1.out ad e; omega) HL.out HLG.out).mono ?_; rintro e w2 ⟨vl', rfl, s1, s2, s3⟩; have S1 := Aside0.mk s1; have S3 := Aside0.mk ((Moved.of_below B1.out (Foot g (.slice Ab d.blocks.length cb) vl)).trans s3); clear s1 s2 s3))
    go_ret2
    exact ⟨vl', rfl, S1.out, S3.out⟩
end Go.Proofs.Ytgageigcjeaenaa.Disk
namespace Go.Proofs.Ytgageigcjeaenaa.Disk
open Go.RowKit Go.Proofs.YtgageigcjeaenaaW.PrintWords Go.Proofs.YtgageigcjeaenaaW.PrintLast Go.Proofs.YtgageigcjeaenaaW.PrintMore Go.Proofs.Ytgageigcjeaenaa.MixBase Go.Proofs.Ytgageigcjeaenaa.MixPlain Go.Proofs.Ytgageigcjeaenaa.NumBase Go.Proofs.Ytgageigcjeaenaa.PadPlain
attribute [local go_sem] max2_int min2_int max_two min_two max_three min_three max_four min_four
set_option linter.unusedVariables false
set_option linter.unusedSimpArgs false
theorem lawblock_f (s : ByteArray) (h : s.size ≤ 140737488351232) : QJour.aumbrylaw10_block.f s = some (blockS s) := by
  unfold QJour.aumbrylaw10_block.f blockS
  by_cases h1 : s.size > 256
  · rw [if_pos (by omega), if_pos (by omega), if_pos (by omega), if_pos h1]
  · rw [if_neg (by omega), if_neg h1, MixBase.wrap64_small (by omega) (by omega), show (256 : Int) - (s.size : Int) = ((256 - s.size : Nat) : Int) by omega, QJour.ref_zeros_f _ (by omega), Option.bind_some, if_pos (by rw [zeros_size]; omega)]
def layI (n : Nat) (p : QJour.S62) : Nat := (IntKind.u64.wrap p.f0 % (n : Int)).toNat
def layAll (n : Nat) (l : List QJour.S62) : List ByteArray := l.foldl (fun b p => b.set (layI n p) (blockS p.f1)) (newD n).blocks
def layD (n : Nat) (l : List QJour.S62) : Dk := ⟨layAll n l, [], 0, false, false⟩
theorem layAll_take (n : Nat) (l : List QJour.S62) (i : Nat) (h : i < l.length) : layAll n (l.take (i + 1)) = (layAll n (l.take i)).set (layI n l[i]) (blockS l[i].f1) := by
  unfold layAll
  rw [List.take_add_one, List.getElem?_eq_getElem h]
  show List.foldl _ _ (l.take i ++ [l[i]]) = _
  rw [List.foldl_append]
  rfl
theorem layAll_facts (n : Nat) : ∀ (l : List QJour.S62) (b : List ByteArray), b.length = n → (∀ x, x ∈ b → x.size = 256) → (l.foldl (fun b p => b.set (layI n p) (blockS p.f1)) b).length = n ∧ ∀ x, x ∈ (l.foldl (fun b p => b.set (layI n p) (blockS p.f1)) b) → x.size = 256
  | [], b, h1, h2 => ⟨h1, h2⟩
  | p :: l, b, h1, h2 => layAll_facts n l (b.set (layI n p) (blockS p.f1)) (by rw [List.length_set]; exact h1) (fun x hx => by
    rcases List.mem_or_eq_of_mem_set hx with h | h
    · exact h2 x h
    · rw [h]; exact blockS_size _)
theorem new_facts (n : Nat) : (newD n).blocks.length = n ∧ ∀ x, x ∈ (newD n).blocks → x.size = 256 := ⟨wk_len n, fun x hx => by rw [List.eq_of_mem_replicate hx]; exact zeros_size 256⟩
theorem lay_ok (n : Nat) (l : List QJour.S62) : (layAll n l).length = n ∧ ∀ x, x ∈ layAll n l → x.size = 256 := layAll_facts n l _ (new_facts n).1 (new_facts n).2
theorem slice_inj {bb bb' n cb cb' : Nat} (h : Value.slice (some ⟨bb, 0, none⟩) n cb = .slice (some ⟨bb', 0, none⟩) n cb') : bb = bb' ∧ cb = cb' := by
  injection h with h1 _ h3
  injection h1 with h1
  injection h1 with h1
  exact ⟨h1, h3⟩
theorem emod_nat (a : Int) (n : Nat) (h : 0 < n) : ∃ x : Nat, x < n ∧ a % (n : Int) = (x : Int) := by
  obtain ⟨x, hx⟩ := Int.eq_ofNat_of_zero_le (Int.emod_nonneg a (show (n : Int) ≠ 0 by omega))
  refine ⟨x, ?_, hx⟩
  have := Int.emod_lt_of_pos a (show (0 : Int) < (n : Int) by omega)
  rw [hx] at this
  exact Int.ofNat_lt.1 this
theorem u64_small (n : Nat) (h : n ≤ 363) : IntKind.u64.wrap (n : Int) = (n : Int) := by rw [IntKind.wrap_u64]; omega
theorem i64_small (x n : Nat) (h : x < n) (h2 : n ≤ 363) : wrap64 (x : Int) = (x : Int) := MixBase.wrap64_small (by omega) (by omega)
theorem nat_ne (n : Nat) (h : 64 ≤ n) : ((n : Int)) ≠ 0 := by omega
theorem block_step {W wd : World} {h : Nat} {vb vl : Value} {d : Dk} {A0 A1 A2 : Addr} {v0 v1 v2 : Value} {s r : ByteArray} (T : RSt W wd h vb vl d) (q0 : wd.cell? A0 = some v0) (q1 : wd.cell? A1 = some v1) (q2 : wd.cell? A2 = some v2) (hs : QJour.aumbrylaw10_block.f s = some r) :
    Calls Try.prog 43 #[.string s] wd fun e w' => e = .returned (.string r) ∧ RSt W w' h vb vl d ∧ w'.cell? A0 = some v0 ∧ w'.cell? A1 = some v1 ∧ w'.cell? A2 = some v2 :=
  (QJour.aumbrylaw10_block.calls _ _ _ hs).mono fun e w' ⟨h1, hb⟩ => ⟨h1, T.below hb, (hb.cell (World.block_lt_of_cell? _ _ q0)).trans q0, (hb.cell (World.block_lt_of_cell? _ _ q1)).trans q1, (hb.cell (World.block_lt_of_cell? _ _ q2)).trans q2⟩
theorem store_step {W w : World} {h bb n cb x : Nat} {l l' : List ByteArray} {A1 A2 : Addr} {v1 v2 : Value} {u : ByteArray} (T : RSt W w h (.slice (some ⟨bb, 0, none⟩) n cb) (.slice none 0 0) ⟨l, [], 0, false, false⟩) (hn : l.length = n) (hx : x < n) (hW1 : A1.block < W.heap.size) (hW2 : A2.block < W.heap.size) (q1 : w.cell? A1 = some v1) (q2 : w.cell? A2 = some v2) (hl : l' = l.set x u) :
    (∃ v, w.cell? ⟨bb, x, none⟩ = some v) ∧ w.frozen? ⟨bb, x, none⟩ = false ∧ (w.setCell ⟨bb, x, none⟩ (.string u)).cell? ⟨h, 0, none⟩ = some (.slice (some ⟨bb, 0, none⟩) n cb) ∧ (w.setCell ⟨bb, x, none⟩ (.string u)).cell? A1 = some v1 ∧ (w.setCell ⟨bb, x, none⟩ (.string u)).cell? A2 = some v2 ∧ RSt W (w.setCell ⟨bb, x, none⟩ (.string u)) h (.slice (some ⟨bb, 0, none⟩) n cb) (.slice none 0 0) ⟨l', [], 0, false, false⟩ := by
  obtain ⟨bb', cb', cur, eub, hbb, hcur, hncb, hat⟩ := own_form T.1.2.2.1 (by show 0 < l.length; omega)
  have hlb : (⟨l, [], 0, false, false⟩ : Dk).blocks.length = n := hn
  rw [hlb] at eub hat
  obtain ⟨e1, e2⟩ := slice_inj eub
  subst e1 e2
  have hgb : bb ≠ h := own_ne T.1.2.2.1 T.1.2.1 (by decide) bb rfl
  refine ⟨⟨_, (blk_cell hcur x).trans ((hat x (by omega)).trans (strs_at l x (by omega)))⟩, blk_frozen hcur x, ?_, ?_, ?_, ?_, ?_⟩
  · exact (World.cell?_setCell_other _ _ _ _ (fun e => hgb (congrArg Addr.block e))).trans ((blk_cell T.1.2.1 0).trans rfl)
  · exact (World.cell?_setCell_other _ _ _ _ (fun e => by rw [← e] at hW1; exact Nat.lt_irrefl _ (Nat.lt_of_lt_of_le hW1 hbb))).trans q1
  · exact (World.cell?_setCell_other _ _ _ _ (fun e => by rw [← e] at hW2; exact Nat.lt_irrefl _ (Nat.lt_of_lt_of_le hW2 hbb))).trans q2
  · have := T.1.setBlock x u
    rw [hl]
    exact this
  · exact T.2.setCell hbb _
set_option maxRecDepth 100000 in
set_option maxHeartbeats 1000000 in
theorem laid_calls (a : Int) (n : Nat) (W : World) (A : Option Addr) (c : Nat) (l : List QJour.S62) (h1 : 64 ≤ n) (h2 : n ≤ 363) (hn : wrap64 (64 + (wrap64 (Int.tmod (IntKind.u64.wrap a) 300))) = (n : Int)) (hC : Kd.C QJour.k62 W A l.length l) (hl : l.length ≤ 5864062014805) (hsz : ∀ p, p ∈ l → p.f1.size ≤ 140737488351232) :
    Calls Try.prog 13 #[.int .i64 a, .slice A l.length c] W fun e w' => ∃ g vb h ub, e = .returned (.tuple #[.pointer (some ⟨g, 0, none⟩), .pointer (some ⟨h, 0, none⟩)]) ∧ Two W w' g vb (.slice none 0 0) h ub (.slice none 0 0) (layD n l) := by
  have hu39 := Try.underlying39
  have HN := Aside0.mk hn
  have HR := Aside0.mk (rowAt_of_C hC)
  have HL := Aside0.mk hl
  have HSZ := Aside0.mk hsz
  have hu75 := Try.underlying75
  clear hC hl hsz
  go_enter Try.func13, Try.ntmps13
  go_wp2_with (first
    | (go_at_call 44; refine (size_calls a _).mono ?_; rintro e w1 ⟨rfl, hb⟩; rw [HN.out]; have B1 := Aside0.mk hb; clear hb)
    | (go_at_call 28; refine (RefNew_calls n h1 (by omega) _).mono ?_; rintro e w2 ⟨h, ub, rfl, hr, hb⟩; have R2 : Aside0 (RSt W w2 h ub (.slice none 0 0) (newD n)) := ⟨⟨Nat.le_trans B1.out.size hr.1, hr.2.1, own_less hr.2.2.1 B1.out.size, own_less hr.2.2.2 B1.out.size⟩, below_step B1.out hb⟩; clear hr hb))
  obtain ⟨bb, cb, cur0, rfl, _, _, _, _⟩ := own_form R2.out.1.2.2.1 (by rw [wk_len]; omega)
  rw [wk_len] at R2
  go_loopg [15] l.length (fun kq v15 wr => ∃ (i : Nat), v15 = .int .i64 (i : Int) ∧ i ≤ l.length ∧ Aside0 (kq = l.length - i) ∧ Aside0 (RSt W wr h (.slice (some ⟨bb, 0, none⟩) n cb) (.slice none 0 0) (layD n (l.take i))))
  case atStart => exact ⟨0, rfl, Nat.zero_le _, ⟨rfl⟩, R2⟩
  case round =>
    clear R2
    obtain ⟨i, rfl, hi, hkq, HS⟩ := hrel
    have hlen : (layAll n (l.take i)).length = n := (lay_ok n _).1
    by_cases hil : i < l.length
    · obtain ⟨ad, rfl, q0, q1⟩ := HR.out i hil
      have hw0 := World.block_lt_of_cell? _ _ q0
      have hw1 := World.block_lt_of_cell? _ _ q1
      replace q0 := (HS.out.2.cell (World.block_lt_of_cell? _ _ q0)).trans q0
      replace q1 := (HS.out.2.cell (World.block_lt_of_cell? _ _ q1)).trans q1
      have HT := Aside0.mk (layAll_take n l i hil)
      have HSP := Aside0.mk (HSZ.out l[i] (List.getElem_mem hil))
      obtain ⟨S, hS⟩ : ∃ S, S = l[i] := ⟨_, rfl⟩
      rw [← hS] at q0 q1 HT HSP
      clear hS
      obtain ⟨bb', cb', cur, eub, hbb, hcur, hncb, hat⟩ := own_form HS.out.1.2.2.1 (by show 0 < (layAll n (l.take i)).length; omega)
      have hlb : (layD n (l.take i)).blocks.length = n := hlen
      rw [hlb] at eub hat
      obtain ⟨e1, e2⟩ := slice_inj eub
      subst e1 e2
      clear eub
      have hur := QJour.u64_range S.f0
      obtain ⟨x, hxn, hx⟩ := emod_nat (IntKind.u64.wrap S.f0) n (Nat.lt_of_lt_of_le (by decide) h1)
      have hlx : layI n S = x := by unfold layI; rw [hx]; rfl
      have hun : IntKind.u64.wrap (n : Int) = (n : Int) := u64_small n h2
      have hxt : Int.tmod (IntKind.u64.wrap S.f0) (n : Int) = (x : Int) := by rw [Int.tmod_eq_emod_of_nonneg hur.1]; exact hx
      have hix' : wrap64 (x : Int) = (x : Int) := i64_small x n hxn h2
      have hix : IntKind.i64.wrap (x : Int) = (x : Int) := (i64_w _).trans hix'
      have hne : ((n : Int) = 0) = False := eq_false (nat_ne n h1)
      have hnN : (n = 0) = False := eq_false (fun e => nat_ne n h1 (by rw [e]; rfl))
      have hnz : ((n : Int) == 0) = false := beq_eq_false_iff_ne.2 (nat_ne n h1)
      have y1 : ((x : Int) < (n : Int)) = True := eq_true (Int.ofNat_lt.2 hxn)
      have y2 : ((0 : Int) ≤ (x : Int)) = True := eq_true (Int.natCast_nonneg x)
      have y3 : (x < n) = True := eq_true hxn
      have T3 : Aside0 (RSt W wr.drew h (.slice (some ⟨bb, 0, none⟩) n cb) (.slice none 0 0) (layD n (l.take i))) := ⟨HS.out.below (below_drew1 (Below.refl wr.heap.size wr))⟩
      have c1 : ((i : Int) < (l.length : Int)) = True := eq_true (Int.ofNat_lt.2 hil)
      have c2 : ((0 : Int) ≤ (i : Int)) = True := eq_true (Int.natCast_nonneg i)
      have c3 : (i < l.length) = True := eq_true hil
      have HLX := Aside0.mk hlx
      have d0 : wr.drew.cell? (ad.add (i * 2)) = some (.int .i64 S.f0) := q0
      have d1 : wr.drew.cell? ⟨(ad.add (i * 2)).block, (ad.add (i * 2)).off + 1, none⟩ = some (.string S.f1) := q1
      have dh : wr.drew.cell? ⟨h, 0, none⟩ = some (.slice (some ⟨bb, 0, none⟩) n cb) := (blk_cell T3.out.1.2.1 0).trans rfl
      have HC := Aside0.mk (block_step T3.out dh d0 d1 (lawblock_f S.f1 HSP.out))
      have HQ0 := Aside0.mk d0
      have HQ1 := Aside0.mk d1
      have HQH := Aside0.mk dh
      have HLB := Aside0.mk hlen
      have hwi : wrap64 ((i : Int) + 1) = ((i + 1 : Nat) : Int) := by rw [MixBase.wrap64_small (by have := HL.out; omega) (by have := HL.out; omega)]; rfl
      have HWI := Aside0.mk hwi
      clear hwi
      have HW0 := Aside0.mk hw0
      have HW1 := Aside0.mk hw1
      have HLT : Aside0 (layAll n (l.take (i + 1)) = (layAll n (l.take i)).set x (blockS S.f1)) := ⟨by rw [← hlx]; exact HT.out⟩
      clear hlx hbb hcur hncb hat hlb hlen q0 q1 d0 d1 dh hur hx hw0 hw1
      go_wp2
      go_region_held3 (fun w' => w'.cell? ⟨h, 0, none⟩ = some (.slice (some ⟨bb, 0, none⟩) n cb) ∧ w'.cell? (ad.add (i * 2)) = some (.int .i64 S.f0) ∧ w'.cell? ⟨(ad.add (i * 2)).block, (ad.add (i * 2)).off + 1, none⟩ = some (.string S.f1)) (first | exact S25.out | exact ⟨HQH.out, HQ0.out, HQ1.out⟩) (first
        | (go_at_call 43; refine HC.out.mono ?_; rintro e w4 ⟨rfl, n1, n2, n3, n4⟩; clear HC T3 HQ0 HQ1 HQH; have T3 := Aside0.mk n1; have HQ0 := Aside0.mk n3; have HQ1 := Aside0.mk n4; have HQH := Aside0.mk n2; obtain ⟨⟨vx, m1⟩, m2, m3, m4, m5, m6⟩ := store_step (A1 := ad.add (i * 2)) (A2 := ⟨(ad.add (i * 2)).block, (ad.add (i * 2)).off + 1, none⟩) n1 HLB.out hxn HW0.out HW1.out n3 n4 HLT.out; have S25 := Aside0.mk (And.intro m3 (And.intro m4 m5)); have T25 := Aside0.mk m6; clear n1 n2 n3 n4 m3 m4 m5 m6))
      all_goals
        go_wp2
        go_roundg (l.length - (i + 1))
        case measure => have := hkq.out; omega
        case rel => exact ⟨i + 1, by rw [HWI.out], by omega, ⟨rfl⟩, T25⟩
    · obtain rfl : i = l.length := by omega
      rw [List.take_length] at HS
      clear hlen
      have hil' : ((l.length : Int) < (l.length : Int)) = False := eq_false (Int.lt_irrefl _)
      have hlen : (layD n l).blocks.length = n := (lay_ok n l).1
      have hob := HS.out.1.2.2.1
      obtain ⟨Ab, cb', hub, hcb, hCb⟩ := strs_C hob
      rw [hlen] at hub hCb
      injection hub with hA _ hcc
      subst hA hcc
      obtain ⟨w3, hw3⟩ : ∃ w3, wr.alloc (.cells #[] 9) = w3 := ⟨_, rfl⟩
      have hb3 : Below wr.heap.size wr w3 := by rw [← hw3]; exact (Below.refl _ wr).alloc (Nat.le_refl _) _
      have h93 : w3.heap[wr.heap.size]? = some (.cells #[] 9 (0, 0)) := by rw [← hw3]; exact World.alloc_heap_new wr _
      have HO3 : Aside0 (w3.ownsRow wr.heap.size 9 1 (.slice (some ⟨wr.heap.size, 0, none⟩) 0 0) ([] : List ByteArray).length (encs Value.string ([] : List ByteArray))) := ⟨⟨rfl, Or.inr ⟨_, 0, #[], rfl, Nat.le_refl _, h93, Nat.le_refl _, by decide, rfl, rfl⟩⟩⟩
      have z0 : w3.cell? ⟨h, 0, none⟩ = some (.slice (some ⟨bb, 0, none⟩) n cb) := by
        exact (blk_cell (blk_below HS.out.1.2.1 hb3) 0).trans rfl
      have HRd : Aside0 (ReadsOf Value.string ByteArray.empty w3 (some ⟨bb, 0, none⟩) n (layD n l).blocks) := ⟨Kd.reads_of_C (h1 := fun _ => rfl) (Kd.C_below (d := Kd.string) hCb hb3)⟩
      have B3 := Aside0.mk hb3
      have HOB := Aside0.mk hob
      have HOF : Aside0 (ofErr (layD n l).blocks = 0) := ⟨by
        unfold ofErr
        rw [hlen, if_pos (by omega), if_pos]
        rw [List.all_eq_true]
        intro x hx
        exact beq_iff_eq.2 ((lay_ok n l).2 x hx)⟩
      clear hb3 h93 hob hcb hCb hlen
      go_wp2_with (first
        | ((with_reducible refine gate_builtin (b := .append) (xs := #[.tmp 45, .tmp 49]) rfl ?_); at_builtin; refine print_append_row_of (w0 := w3) Value.string ByteArray.empty wr.heap.size rfl (.tmp 45) (.tmp 49) 37 9 (.string ⟨#[]⟩) 16 rfl Try.underlying37 info9 rfl (by decide) (fun _ => rfl) (.slice (some ⟨wr.heap.size, 0, none⟩) 0 0) [] (layD n l).blocks (some ⟨bb, 0, none⟩) n cb rfl rfl HO3.out HRd.out (Below.refl _ _) (B3.out.size) (by show (0 + n) * 16 ≤ _; omega) ?_; intro v4 w4 ho hb hg hat; have HO4 : Aside0 (w4.ownsRow wr.heap.size 9 1 v4 (layD n l).blocks.length (strs (layD n l).blocks)) := ⟨ho⟩; have B4 := Aside0.mk hb; clear ho hb hg hat)
        | (go_at_call 35; refine (Of_good (layD n l).blocks HO4.out HOF.out).mono ?_; rintro e w5 ⟨g, vb, rfl, hd, hb⟩; have D5 := Aside0.mk hd; have B5 := Aside0.mk hb; clear hd hb))
      go_ret2
      have b25 : Below wr.heap.size wr w5 := (B3.out.trans B4.out).trans (B5.out.mono (Nat.le_trans B3.out.size B4.out.size))
      have bWwr : Below W.heap.size W wr := HS.out.2
      have hs14 : wr.heap.size ≤ w4.heap.size := Nat.le_trans B3.out.size B4.out.size
      have HSw := HS.out.below b25
      refine ⟨g, vb, h, _, rfl, ⟨D5.out.lower (Nat.le_trans bWwr.size hs14), below_step bWwr b25⟩, HSw, ?_⟩
      intro k hk hk'
      have h5 := (D5.out.foot_lt hk).1
      have h6 := (HS.out.foot hk').2
      omega
end Go.Proofs.Ytgageigcjeaenaa.Disk
namespace Go.Proofs.Ytgageigcjeaenaa.Disk
open Go.RowKit Go.Proofs.YtgageigcjeaenaaW.PrintWords Go.Proofs.YtgageigcjeaenaaW.PrintLast Go.Proofs.YtgageigcjeaenaaW.PrintMore Go.Proofs.Ytgageigcjeaenaa.MixBase Go.Proofs.Ytgageigcjeaenaa.MixPlain Go.Proofs.Ytgageigcjeaenaa.NumBase Go.Proofs.Ytgageigcjeaenaa.PadPlain
attribute [local go_sem] max2_int min2_int max_two min_two max_three min_three max_four min_four
set_option linter.unusedVariables false
set_option linter.unusedSimpArgs false
theorem get2_bt (s : ByteArray) (h : s.size = 256) : get2 s = bt s 4 * 256 + bt s 5 := by
  unfold get2 getSpec
  have h1 : ((4 : Int)).toNat = 4 := rfl
  rw [if_neg (by omega), if_neg (by omega)]
  show valFrom 0 ((List.drop (4 : Int).toNat (bytesOf s)).take (1 + 1)) = _
  rw [take_drop_cons s 4 1 (by omega) (by omega), show (4 : Int) + 1 = 5 from rfl]
  show valFrom 0 (bt s 4 :: (List.drop (5 : Int).toNat (bytesOf s)).take (0 + 1)) = _
  rw [take_drop_cons s 5 0 (by omega) (by omega), List.take_zero, valFrom_cons, valFrom_cons, valFrom_nil]
  omega
theorem get_range (t : ByteArray) (a : Int) : 0 ≤ (getSpec t a 2).1 ∧ (getSpec t a 2).1 < 65536 := by
  unfold getSpec
  rw [if_neg (by omega)]
  by_cases h : a < 0 ∨ (t.size : Int) - 2 < a
  · rw [if_pos h]
    exact ⟨Int.le_refl _, by decide⟩
  · rw [if_neg h]
    show 0 ≤ valFrom 0 ((List.drop a.toNat (bytesOf t)).take (1 + 1)) ∧ valFrom 0 ((List.drop a.toNat (bytesOf t)).take (1 + 1)) < 65536
    rw [take_drop_cons t a 1 (by omega) (by omega)]
    show 0 ≤ valFrom 0 (bt t a :: (List.drop (a + 1).toNat (bytesOf t)).take (0 + 1)) ∧ valFrom 0 (bt t a :: (List.drop (a + 1).toNat (bytesOf t)).take (0 + 1)) < 65536
    rw [take_drop_cons t (a + 1) 0 (by omega) (by omega), List.take_zero, valFrom_cons, valFrom_cons, valFrom_nil]
    have b1 := bt_range t a
    have b2 := bt_range t (a + 1)
    omega
/-- Does a block begin with the mark? -/
def marked (s : ByteArray) : Bool := (s.extract 0 4).toList == ([106, 114, 110, 108] : List UInt8)
theorem hasprefix_f (s : ByteArray) (h : s.size = 256) : QJour.strings_HasPrefix.f s ⟨#[106, 114, 110, 108]⟩ = some (marked s) := by
  unfold QJour.strings_HasPrefix.f QJour.stringslite_HasPrefix.f
  have e : ((⟨#[106, 114, 110, 108]⟩ : ByteArray).size : Int) = 4 := rfl
  have e2 : (⟨#[106, 114, 110, 108]⟩ : ByteArray).toList = [106, 114, 110, 108] := by rw [Go.ByteArray.toList_eq]
  rw [e, if_pos (by omega), if_pos (by decide), if_pos (by omega), e2]
  rfl
theorem outS_small (d : Dk) (hbs : ∀ j, (blk d j).size ≤ 100000) (cp i : Nat) : QJour.Small ((outS d cp i).map QJour.S62.f1) := by
  intro x hx
  obtain ⟨p, hp, rfl⟩ := List.mem_map.1 hx
  unfold outS at hp
  obtain ⟨j, _, rfl⟩ := List.mem_map.1 hp
  exact hbs (cp + j)
open Classical in
theorem told_ev {n q cp : Nat} {d : Dk} {pg : Int → Bool} (hn : d.blocks.length = n) (hn0 : 64 ≤ n) (hn1 : n ≤ 2048) (hq : q ≤ 1023) (hcpq : cp = 2 + (q + 127) / 128) (hneed : need q ≤ n) (hbs : ∀ j, (blk d j).size ≤ 100000) (hb1 : (blk d 1).size = 256)
    (hP : Ev (fun k => QJour.aumbryref10_Pages.f k (n : Int)) (q : Int)) (hpg : ∀ a, Ev (fun k => QJour.aumbryref10_Page.f k (n : Int) a) (pg a)) :
    Ev (fun k => QJour.aumbryref10_Told.f k d.blocks) (toldS (q : Int) pg cp d (blk d 1) (marked (blk d 1))) := by
  have e1 : rdOf ByteArray.empty d.blocks 1 = blk d 1 := rd_blk d 1
  have hg2 := get2_bt (blk d 1) hb1
  have c4 := bt_range (blk d 1) 4
  have c5 := bt_range (blk d 1) 5
  have hK : wrap64 ((wrap64 ((wrap64 (bt (blk d 1) 4)) * 256)) + (wrap64 (bt (blk d 1) 5))) = get2 (blk d 1) := by
    rw [hg2, MixBase.wrap64_small (i := bt (blk d 1) 4) (by omega) (by omega), MixBase.wrap64_small (i := bt (blk d 1) 5) (by omega) (by omega), MixBase.wrap64_small (i := bt (blk d 1) 4 * 256) (by omega) (by omega), MixBase.wrap64_small (by omega) (by omega)]
  have hf : ∀ k, QJour.aumbryref10_Told.f k d.blocks = (QJour.aumbryref10_Pages.f k (n : Int)).bind fun t223 => (if marked (blk d 1) = true then (if get2 (blk d 1) < 1 then (QJour.aumbryref10_Told.j0 k d.blocks (n : Int) t223 (get2 (blk d 1)) true) else (QJour.aumbryref10_Told.j0 k d.blocks (n : Int) t223 (get2 (blk d 1)) (decide (get2 (blk d 1) > t223)))) else (QJour.aumbryref10_Told.j0 k d.blocks (n : Int) t223 (get2 (blk d 1)) true)) := by
    intro k
    unfold QJour.aumbryref10_Told.f
    rw [hn]
    congr 1
    funext t
    rw [e1, hK, if_pos (by omega), if_pos (by omega), if_pos (by omega), if_pos (by omega), if_pos (by omega)]
    congr 1
    unfold marked
    exact propext beq_iff_eq.symm
  refine Ev.congr hf (Ev.bind hP (f := fun k t223 => (if marked (blk d 1) = true then (if get2 (blk d 1) < 1 then (QJour.aumbryref10_Told.j0 k d.blocks (n : Int) t223 (get2 (blk d 1)) true) else (QJour.aumbryref10_Told.j0 k d.blocks (n : Int) t223 (get2 (blk d 1)) (decide (get2 (blk d 1) > t223)))) else (QJour.aumbryref10_Told.j0 k d.blocks (n : Int) t223 (get2 (blk d 1)) true))) ?_)
  have hj : ∀ K : Int, Ev (fun k => QJour.aumbryref10_Told.j0 k d.blocks (n : Int) (q : Int) K true) ([] : List QJour.S62) := fun K => Ev.step (f := fun _ => some []) (fun k => rfl) (Ev.now _)
  unfold toldS
  by_cases hm : marked (blk d 1) = true
  · by_cases h1 : get2 (blk d 1) < 1
    · rw [if_pos (Or.inr (Or.inl h1))]
      refine Ev.congr (fun k => ?_) (hj (get2 (blk d 1)))
      show (if marked (blk d 1) = true then _ else _) = _
      rw [if_pos hm, if_pos h1]
    · by_cases h2 : get2 (blk d 1) > (q : Int)
      · rw [if_pos (Or.inr (Or.inr h2))]
        refine Ev.congr (fun k => ?_) (hj (get2 (blk d 1)))
        show (if marked (blk d 1) = true then _ else _) = _
        rw [if_pos hm, if_neg h1, decide_eq_true h2]
      · rw [if_neg (by rintro (h | h | h); · rw [hm] at h; cases h
                       · exact h1 h
                       · exact h2 h)]
        obtain ⟨N, hN⟩ : ∃ N : Nat, get2 (blk d 1) = (N : Int) := ⟨(get2 (blk d 1)).toNat, by omega⟩
        rw [hN] at h1 h2 ⊢
        have hNq : N ≤ q := by omega
        rw [Int.toNat_natCast]
        have hs := outS_small d hbs cp N
        have hl : (outS d cp N).length ≤ 4096 := by rw [outS_len]; omega
        have hl2 : 2 + (QJour.listS (outS d cp N)).length ≤ n := by
          rw [QJour.listS_length, outS_len]
          unfold need at hneed
          omega
        have hE := rtold_l1 (m := (q : Int)) (pg := pg) hn hn1 (outS d cp N) (QJour.listS (outS d cp N)) hl2 (refmay_ev hP (by omega) hpg (outS d cp N)) (QJour.head_ev (outS d cp N) hl hs) _ 0 (Nat.zero_add _) (fun t ht => absurd ht (Nat.not_lt_zero _))
        have hL := rtold_l0 hn hn1 hq hcpq hneed hNq hbs get_range (fun t a k hk ht => QJour.ref_get_f t ht a 2 k hk) hE N 0 (Nat.zero_add _)
        refine Ev.congr (fun k => ?_) (Ev.step (g := fun k => QJour.aumbryref10_Told.j0 k d.blocks (n : Int) (q : Int) (N : Int) false) (fun k => rfl) hL)
        show (if marked (blk d 1) = true then _ else _) = _
        rw [if_pos hm, if_neg h1, decide_eq_false h2]
  · rw [if_pos (Or.inl (Bool.eq_false_iff.2 hm))]
    refine Ev.congr (fun k => ?_) (hj (get2 (blk d 1)))
    show (if marked (blk d 1) = true then _ else _) = _
    rw [if_neg hm]
theorem zRef : QJour.aumbryref10_block.f ⟨#[]⟩ = some (zeros 256) := by kernel_rfl
theorem mends_ev {bs : List ByteArray} {l : List QJour.S62} (h : Ev (fun k => QJour.aumbryref10_Told.f k bs) l) (hl : l.length ≤ 4096) : Ev (fun k => QJour.aumbryref10_Mends.f k bs) (if l.length = 0 then [] else l ++ [⟨1, zeros 256⟩]) := by
  refine Ev.bind h (f := fun k t243 => (if (t243.length : Int) = 0 then (some ([] : List QJour.S62)) else ((QJour.aumbryref10_block.f (⟨#[]⟩ : ByteArray)).bind fun t246 => (if t243.length < 5864062014805 then (some (t243 ++ [(⟨1, t246⟩ : QJour.S62)])) else (none))))) ?_
  by_cases h0 : l.length = 0
  · rw [if_pos h0]
    refine Ev.congr (fun k => ?_) (Ev.now _)
    show (if (l.length : Int) = 0 then _ else _) = _
    rw [if_pos (by omega)]
  · rw [if_neg h0]
    refine Ev.congr (fun k => ?_) (Ev.now _)
    show (if (l.length : Int) = 0 then _ else _) = _
    rw [if_neg (by omega), zRef, Option.bind_some, if_pos (by omega)]
theorem rooms_q (n : Nat) (h0 : 64 ≤ n) (h1 : n ≤ 2048) : ∃ q : Nat, q ≤ 1023 ∧ need q ≤ n ∧ QJour.journal_Pages.f 3000 (n : Int) = some (q : Int) ∧ QJour.journal_First.f 3000 (n : Int) = some ((2 + (q + 127) / 128 + q : Nat) : Int) ∧ QJour.aumbryref10_Pages.f 3000 (n : Int) = some (q : Int) ∧ QJour.aumbryref10_First.f 3000 (n : Int) = some ((2 + (q + 127) / 128 + q : Nat) : Int) ∧ QJour.journal_copies.f 3000 (n : Int) = some ((2 + (q + 127) / 128 : Nat) : Int) := by
  obtain ⟨m, fi, hP, hF, hP2, hF2, hc⟩ := rooms (n : Int) 3000 (Nat.le_refl _)
  rcases hc with ⟨rfl, rfl⟩ | ⟨hm1, hm2, q, rfl, rfl, hn1, hn2, hneed, hcp⟩
  · exfalso
    obtain ⟨q, h1', h2', h3, h4⟩ := pages_ex n h0 993 (by unfold need; omega)
    have hne : QJour.journal_Pages.f 3000 (n : Int) ≠ some 0 := by
      intro he
      unfold QJour.journal_Pages.f at he
      rw [if_neg (by omega), decide_eq_false (by omega), show (3000 : Nat) = 2999 + 1 from rfl, pj_false, MixBase.wrap64_small (i := (n : Int) - 1) (by omega) (by omega), Int.tdiv_eq_ediv_of_nonneg (by omega), MixBase.wrap64_small (by omega) (by omega)] at he
      have hq : q ≤ (n - 1) / 2 := by unfold need at h3; omega
      have := pages_down n q (2998 - ((n - 1) / 2 - q)) h3 h4 (by omega) ((n - 1) / 2 - q) (by omega)
      rw [show 2998 - ((n - 1) / 2 - q) + ((n - 1) / 2 - q) + 1 = 2999 by omega, show ((q + ((n - 1) / 2 - q) : Nat) : Int) = ((n : Int) - 1) / 2 by omega] at this
      rw [this] at he
      injection he with he
      omega
    exact hne hP
  · exact ⟨q, by omega, by exact_mod_cast hneed, hP, hF, hP2, hF2, hcp⟩
theorem ev_all {α : Type} {g : Nat → Nat → Option α} {r : Nat → α} : ∀ q : Nat, (∀ i, i ≤ q → Ev (g i) (r i)) → ∃ K, ∀ k, K ≤ k → ∀ i, i ≤ q → g i k = some (r i)
  | 0, h => by
    obtain ⟨K, hK⟩ := h 0 (Nat.le_refl _)
    exact ⟨K, fun k hk i hi => by obtain rfl : i = 0 := by omega
                                  exact hK k hk⟩
  | q + 1, h => by
    obtain ⟨K1, h1⟩ := ev_all q (fun i hi => h i (by omega))
    obtain ⟨K2, h2⟩ := h (q + 1) (Nat.le_refl _)
    exact ⟨K1 + K2, fun k hk i hi => by
      rcases Nat.lt_or_ge i (q + 1) with h3 | h3
      · exact h1 k (by omega) i (by omega)
      · obtain rfl : i = q + 1 := by omega
        exact h2 k (by omega)⟩
theorem told_len {m : Int} {pg : Int → Bool} {cp q : Nat} {d : Dk} {s : ByteArray} {hp : Bool} (hm : m = (q : Int)) : (toldS m pg cp d s hp).length ≤ q := by
  unfold toldS
  split
  · exact Nat.zero_le _
  · rename_i h
    split
    · rw [outS_len]
      omega
    · exact Nat.zero_le _
/-- What is told of a disk's blocks: alike by the journal and by the document. -/
theorem rec_ready (n : Nat) (h0 : 64 ≤ n) (h1 : n ≤ 2048) (d : Dk) (hn : d.blocks.length = n) (hb : ∀ x, x ∈ d.blocks → x.size = 256) (hdn : d.down = false) :
    ∃ (l : List QJour.S62) (k : Nat), l.length ≤ 1023 ∧ QJour.aumbryref10_Mends.f k d.blocks = some (if l.length = 0 then [] else l ++ [⟨1, zeros 256⟩]) ∧
      ∀ (W w : World) (g : Nat) (vb vl : Value), St W w g vb vl d → Calls Try.prog 45 #[.pointer (some ⟨g, 0, none⟩), .string (blk d 1)] w fun e w' => ∃ v, e = .returned (.tuple #[v, .int .i64 0]) ∧ Kd.R QJour.k62 62 w' w.heap.size (fun _ => True) v l ∧ Below w.heap.size w w' := by
  obtain ⟨q, hq, hneed, hP, hF, hP2, hF2, hcp⟩ := rooms_q n h0 h1
  have eP := at_k (fun k => QJour.journal_Pages.mono (n : Int) k) hP
  have eF := at_k (fun k => QJour.journal_First.mono (n : Int) k) hF
  have eC := at_k (fun k => QJour.journal_copies.mono (n : Int) k) hcp
  have eP2 := at_k (fun k => QJour.aumbryref10_Pages.mono (n : Int) k) hP2
  have eF2 := at_k (fun k => QJour.aumbryref10_First.mono (n : Int) k) hF2
  have hpage : ∀ a, Ev (fun k => QJour.aumbryref10_Page.f k (n : Int) a) (pgF ((2 + (q + 127) / 128 + q : Nat) : Int) (q : Int) a) := fun a => ⟨3000, fun k hk => refpage_f (eF2 k hk) (eP2 k hk) (by omega) (by omega) (by omega) a⟩
  have hbl : ∀ j, j < n → (blk d j).size = 256 := by
    intro j hj
    unfold blk
    rw [List.getD_eq_getElem?_getD, List.getElem?_eq_getElem (by omega)]
    exact hb _ (List.getElem_mem _)
  have hbs : ∀ j, (blk d j).size ≤ 100000 := by
    intro j
    rcases Nat.lt_or_ge j n with h | h
    · rw [hbl j h]; decide
    · unfold blk
      rw [List.getD_eq_getElem?_getD, List.getElem?_eq_none (by omega)]
      exact Nat.zero_le _
  have hb1 := hbl 1 (by omega)
  have hT := told_ev (pg := pgF ((2 + (q + 127) / 128 + q : Nat) : Int) (q : Int)) hn h0 h1 hq rfl hneed hbs hb1 ⟨3000, eP2⟩ hpage
  have hlen : (toldS (q : Int) (pgF ((2 + (q + 127) / 128 + q : Nat) : Int) (q : Int)) (2 + (q + 127) / 128) d (blk d 1) (marked (blk d 1))).length ≤ q := told_len rfl
  obtain ⟨K1, hK1⟩ := mends_ev hT (by omega)
  obtain ⟨K2, hK2⟩ := ev_all (g := fun i k => QJour.journal_top.f k (outS d (2 + (q + 127) / 128) i)) (r := fun i => QJour.topS (outS d (2 + (q + 127) / 128) i)) q (fun i hi => QJour.top_ev _ (by rw [outS_len]; omega) (outS_small d hbs _ i))
  refine ⟨_, 3000 + K1 + K2, Nat.le_trans hlen hq, hK1 _ (by omega), fun W w g vb vl hS => ?_⟩
  exact told_calls (g2 := 0) (k := 3000 + K1 + K2) hS hdn hn h0 h1 rfl hq rfl hneed (eP _ (by omega)) (fun a => page_f (eF _ (by omega)) (eP _ (by omega)) a) (fun a => pgF_wf (by omega) a) (eC _ (by omega)) (fun t a ht => QJour.num_get_f t ht a 2 _ (by omega)) (by omega) hbs (hasprefix_f _ hb1) (fun l hl => QJour.list_f l hl _ (by omega)) (fun i hi => hK2 _ (by omega) i hi) get_range
/-- Both sides mend alike. -/
theorem rec_same (d : Dk) (l : List QJour.S62) : doW d ((if l.length = 0 then [] else l ++ [(⟨1, zeros 256⟩ : QJour.S62)]).map pgOf) = ((recD d l).1, (recD d l).2.2) ∧
    (if (doW d ((if l.length = 0 then [] else l ++ [(⟨1, zeros 256⟩ : QJour.S62)]).map pgOf)).2 ≠ 0 then (0 : Int) else if (if l.length = 0 then [] else l ++ [(⟨1, zeros 256⟩ : QJour.S62)]).length = 0 then 0 else ((if l.length = 0 then [] else l ++ [(⟨1, zeros 256⟩ : QJour.S62)]).length : Int) - 1) = (recD d l).2.1 := by
  unfold recD
  by_cases h0 : l.length = 0
  · rw [if_pos h0, if_pos h0]
    exact ⟨rfl, rfl⟩
  · rw [if_neg h0, if_neg h0]
    have e : (l ++ [(⟨1, zeros 256⟩ : QJour.S62)]).map pgOf = homeW l := by unfold homeW; rw [List.map_append]; rfl
    rw [e]
    by_cases h1 : (doW d (homeW l)).2 = 0
    · rw [if_pos h1, if_neg (fun x => x h1)]
      refine ⟨Prod.ext rfl h1, ?_⟩
      rw [List.length_append, List.length_singleton, if_neg (by omega)]
      show ((l.length + 1 : Nat) : Int) - 1 = (l.length : Int)
      omega
    · rw [if_neg h1, if_pos h1]
      exact ⟨rfl, rfl⟩
end Go.Proofs.Ytgageigcjeaenaa.Disk
namespace Go.Proofs.Ytgageigcjeaenaa.Disk
open Go.RowKit Go.Proofs.YtgageigcjeaenaaW.PrintWords Go.Proofs.YtgageigcjeaenaaW.PrintLast Go.Proofs.YtgageigcjeaenaaW.PrintMore Go.Proofs.Ytgageigcjeaenaa.MixBase Go.Proofs.Ytgageigcjeaenaa.MixPlain Go.Proofs.Ytgageigcjeaenaa.NumBase Go.Proofs.Ytgageigcjeaenaa.PadPlain
attribute [local go_sem] max2_int min2_int max_two min_two max_three min_three max_four min_four
set_option linter.unusedVariables false
set_option linter.unusedSimpArgs false
/-- Both disks as they are then. -/
def Pair (W w : World) (g : Nat) (vb vl : Value) (h : Nat) (ub ul : Value) (D : Dk) : Prop := St W w g vb vl D ∧ RSt W w h ub ul D
theorem Pair.below {W w w' : World} {g h : Nat} {vb vl ub ul : Value} {D : Dk} (f : Pair W w g vb vl h ub ul D) (hb : Below w.heap.size w w') : Pair W w' g vb vl h ub ul D := ⟨f.1.below hb, f.2.below hb⟩
set_option maxRecDepth 100000 in
set_option maxHeartbeats 1000000 in
theorem JournalRecovers_walk (a : Int) (A : Option Addr) (c : Nat) (l : List QJour.S62) (cut : Int) (W : World) (_ : (Lit.int .i64 a).wf = true) (hC : Kd.C QJour.k62 W A l.length l ∧ ∀ p, p ∈ l → p.f1.size ≤ 140737488351232) (hc : l.length ≤ c) (hl : l.length * 24 ≤ 140737488351232) (_ : (Lit.int .i64 cut).wf = true) :
    Calls Try.prog 3 #[.int .i64 a, .slice A l.length c, .int .i64 cut] W fun e w' => e = .returned (.bool true) ∧ Below W.heap.size W w' := by
  obtain ⟨hC, hsz⟩ := hC
  have hu39 := Try.underlying39
  obtain ⟨n, h1, h2, hn⟩ := size_nat a
  obtain ⟨D0, hD0⟩ : ∃ D0, D0 = cutD (layD n l) cut := ⟨_, rfl⟩
  have hDn : D0.blocks.length = n := by rw [hD0]; exact (lay_ok n l).1
  have hDb : ∀ x, x ∈ D0.blocks → x.size = 256 := by rw [hD0]; exact (lay_ok n l).2
  have hDl : D0.log.length = 0 := by rw [hD0]; rfl
  have hDd : D0.down = false := by rw [hD0]; rfl
  have hrd : readD D0 1 = (blk D0 1, 0) := read_blk hDd 1 (by omega)
  obtain ⟨tl, k, htl, hM, hT⟩ := rec_ready n h1 (by omega) D0 hDn hDb hDd
  have hS := rec_same D0 tl
  obtain ⟨ml, hml⟩ : ∃ ml, ml = (if tl.length = 0 then [] else tl ++ [(⟨1, zeros 256⟩ : QJour.S62)]) := ⟨_, rfl⟩
  rw [← hml] at hM hS
  have hmll : ml.length ≤ 1024 := by
    rw [hml]
    split
    · exact Nat.zero_le _
    · rw [List.length_append, List.length_singleton]; omega
  have hhl : (homeW tl).length ≤ 1024 := by
    unfold homeW
    rw [List.length_append, List.length_map, List.length_singleton]; omega
  obtain ⟨R, hR⟩ : ∃ R, R = recD D0 tl := ⟨_, rfl⟩
  have hRl : R.1.log.length ≤ 1000000 := by
    have h6 := doW_log (ml.map pgOf) D0
    rw [List.length_map] at h6
    have h7 : (doW D0 (ml.map pgOf)).1 = R.1 := by rw [hS.1, hR]
    rw [h7] at h6
    omega
  have HK := Aside0.mk (fun (W w : World) (g : Nat) (vb vl : Value) (h : St W w g vb vl D0) =>
    Recover_calls (l := tl) h hrd (by omega) (by omega) (hT W w g vb vl h))
  have HRK := Aside0.mk (fun (W w : World) (h : Nat) (ub ul : Value) (hs : RSt W w h ub ul D0) =>
    RefRecover_calls (ml := ml) hs hrd hM (by omega) (by omega))
  rw [hS.2, hS.1] at HRK
  rw [← hR] at HK HRK
  have HN := Aside0.mk hn
  have HC := Aside0.mk hC
  have HSZ := Aside0.mk hsz
  have HD0 := Aside0.mk hD0
  have HRL := Aside0.mk hRl
  have HL : Aside0 (l.length ≤ 5864062014805) := ⟨by omega⟩
  clear hC hsz hn hDn hDb hDl hDd hrd htl hM hT hS hml hmll hhl hR hRl hD0 hl
  obtain ⟨D, m, f⟩ := R
  have e1 : (m == m) = true := beq_self_eq_true m
  have e2 : (f == f) = true := beq_self_eq_true f
  go_enter Try.func3, Try.ntmps3
  go_wp2_with (first
    | (go_at_call 12; refine (jwakes_calls _).mono ?_; rintro e w1 ⟨rfl, hb⟩; have B1 := Aside0.mk hb; clear hb)
    | (go_at_call 13; refine (laid_calls a n w1 A c l h1 h2 HN.out (Kd.C_below HC.out B1.out) HL.out HSZ.out).mono ?_; rintro e w2 ⟨g, vb, h, ub, rfl, ht⟩; have T2 := Aside0.mk ht; clear ht)
    | (go_at_call 14; refine (Cut_two cut T2.out).mono ?_; rintro e w3 ⟨rfl, ht, _⟩; have T3 := Aside0.mk ht; clear ht T2)
    | (go_at_call 15; refine (RefCut_half cut T3.out).mono ?_; rintro e w4 ⟨rfl, ht⟩; rw [← HD0.out] at ht; have T4 := Aside0.mk ht; clear ht T3)
    | (go_at_call 16; refine (HK.out w1 w4 g vb (.slice none 0 0) T4.out.1).mono ?_; rintro e w6 ⟨vl', rfl, s1, s2, s3⟩; have S6 := Aside0.mk s1; have R6 : Aside0 (RSt w1 w6 h ub (.slice none 0 0) D0) := ⟨⟨T4.out.2.1.1.rd (fun k hk hf => T4.out.2.2 k ((T4.out.1.1.footOf k).1 hf) hk) s3, s1.2⟩⟩; have P6 : Aside0 (∀ k, Foot g vb vl' k → ¬ Foot h ub (.slice none 0 0) k) := ⟨fun k hk hk' => by rcases s2 k hk with q | q; exact T4.out.2.2 k q hk'; have := (T4.out.2.1.foot hk').2; omega⟩; clear s1 s2 s3)
    | (go_at_call 17; refine (HRK.out w1 w6 h ub (.slice none 0 0) R6.out).mono ?_; rintro e w7 ⟨ul', rfl, s1, s3⟩; have F7 : Aside0 (Pair w1 w7 g vb vl' h ub ul' D) := ⟨⟨S6.out.moved s3 (fun k hk => P6.out k hk) (fun k _ hk => (R6.out.foot hk).1), s1⟩⟩; clear s1 s3))
  obtain ⟨Al, cl, el, _⟩ := own_slice F7.out.2.1.2.2.2
  subst el
  have HLg : Aside0 (D.log.length * 24 ≤ 140737488355328) := ⟨by have : D.log.length ≤ 1000000 := HRL.out; omega⟩
  have HLg2 : Aside0 (D.log.length ≤ 1000000000000000000) := ⟨by have : D.log.length ≤ 1000000 := HRL.out; omega⟩
  have T3 := Aside0.mk (F7.out.below (below_drew1 (Below.refl w7.heap.size w7)))
  have HCc := Aside0.mk hc
  clear F7 P6 R6 S6 T4 HRK HK HD0 HRL HN HL hc h1 h2
  go_wp2
  go_region_held3 (fun w' => w'.cell? ⟨h, 1, none⟩ = some (.slice Al D.log.length cl)) (first | exact (blk_cell T3.out.2.1.2.1 1).trans rfl) (first
    | (go_at_call 19; refine (Log_calls T3.out.1.1 HLg.out).mono ?_; rintro e w8 ⟨v1, rfl, ho, hb⟩; have HG := Aside0.mk ho; have n1 := Aside0.mk (T3.out.below hb); clear T3; have T3 := n1; clear n1 ho hb)
    | (go_at_call 18; have q0 := HG; refine (SamePages_true HG.out T3.out.2.1.2.2.2 HLg2.out).mono ?_; rintro e w9 ⟨rfl, hb⟩; have n1 := Aside0.mk (T3.out.below hb); clear T3; have T3 := n1; clear n1 hb q0 HG))
  go_wp2
  go_ret
  exact ⟨by first | rfl | simp, below_step B1.out T3.out.1.2⟩
end Go.Proofs.Ytgageigcjeaenaa.Disk
namespace Go.Proofs.Ytgageigcjeaenaa.Disk
open Go.RowKit Go.Proofs.YtgageigcjeaenaaW.PrintWords Go.Proofs.YtgageigcjeaenaaW.PrintLast Go.Proofs.YtgageigcjeaenaaW.PrintMore Go.Proofs.Ytgageigcjeaenaa.MixBase Go.Proofs.Ytgageigcjeaenaa.MixPlain Go.Proofs.Ytgageigcjeaenaa.NumBase Go.Proofs.Ytgageigcjeaenaa.PadPlain
attribute [local go_sem] max2_int min2_int max_two min_two max_three min_three max_four min_four
set_option linter.unusedVariables false
set_option linter.unusedSimpArgs false
section
open Go.ChangeShapes Go.WideShapes Go.Deep
variable {H : Type} {enc : TypeId × Value → H} {w : World}
/-- Every weight of a datum is within reach. -/
def LightJ (t : TypeId) (d : DataW H) : Prop := ∀ n ∈ d.weights Try.prog t, n ≤ reachBytes
theorem lightJ_arg {ts : List TypeId} {ds : List (DataW H)} (h : (DataW.weightsEach Try.prog ts ds).all (· ≤ reachBytes) = true) {j : Nat} {t : TypeId} {d : DataW H} (ht : ts[j]? = some t) (hd : ds[j]? = some d) : LightJ t d := fun n hn => by
  have := List.all_eq_true.1 h _ (DataW.weights_mem_each ht hd n hn)
  simpa using this
theorem lightJ_field {t : TypeId} {fs : Array Field} {parts : List (DataW H)} (hu : Try.prog.underlying t = some (.struct fs)) (h : LightJ t (.agg parts)) {j : Nat} {f : Field} {d : DataW H} (hf : fs[j]? = some f) (hd : parts[j]? = some d) : LightJ f.type d := fun n hn => h n (by
  simp only [DataW.weights, hu]
  exact DataW.weights_mem_each (j := j) (t := f.type) (by rw [List.getElem?_map, Array.getElem?_toList, hf]; rfl) hd n hn)
theorem weightsAllJ_mem {P : Program} {e : TypeId} : ∀ {l : List (DataW H)} {d : DataW H}, d ∈ l → ∀ n ∈ d.weights P e, n ∈ DataW.weightsAll P e l
  | x :: l, d, hd, n, hn => by
    simp only [DataW.weightsAll, List.mem_append]
    rcases List.mem_cons.1 hd with rfl | hd
    · exact Or.inl hn
    · exact Or.inr (weightsAllJ_mem hd n hn)
theorem lightJ_elem {t e : TypeId} {elems spare : List (DataW H)} (hu : Try.prog.underlying t = some (.slice e)) (h : LightJ t (.slice elems spare)) {d : DataW H} (hd : d ∈ elems) : LightJ e d := fun n hn => h n (by
  simp only [DataW.weights, hu]
  exact List.mem_cons_of_mem _ (List.mem_append.2 (Or.inl (weightsAllJ_mem hd n hn))))
/-- A slice of what is laid on a disk, that came in. -/
theorem open_lays {ts : List TypeId} {ds : List (DataW H)} {j : Nat} {a : Option Addr} {len cap : Nat} {d : DataW H} {ps : List MemPlace}
    (hsz : (DataW.weightsEach Try.prog ts ds).all (· ≤ reachBytes) = true) (htj : ts[j]? = some 22) (hdj : ds[j]? = some d)
    (h : DataW.Trod enc Try.prog w 0 (fun _ => true) true 22 (.slice a len cap) d ps) :
    ∃ l : List QJour.S62, l.length = len ∧ len ≤ cap ∧ (Kd.C QJour.k62 w a len l ∧ ∀ p, p ∈ l → p.f1.size ≤ 140737488351232) ∧ len * 24 ≤ 140737488351232 := by
  obtain ⟨fuel, hf⟩ := h
  have hli0 := lightJ_arg hsz htj hdj
  rcases open_slice_fieldsJ Try.underlying22 Try.underlying75 (by kernel_rfl) (by kernel_rfl) hf with ⟨hcs, _⟩ | ⟨x, l, c, m, D, Pl, hcs, _, hl, hm, hmm, hx, hel⟩
  · simp [Value.cells] at hcs
    obtain ⟨rfl, rfl, rfl⟩ := hcs
    exact ⟨[], rfl, Nat.le_refl _, ⟨⟨rfl, by decide, fun h => absurd h (by decide)⟩, fun p hp => absurd hp List.not_mem_nil⟩, by omega⟩
  · simp [Value.cells] at hcs
    obtain ⟨rfl, rfl, rfl⟩ := hcs
    simp only [if_true] at hmm
    obtain ⟨hx, _⟩ := Prod.mk.inj hx
    subst hx
    have z := sized_slice hsz htj hdj Try.underlying22
    rw [show Try.prog.bytesOf 75 = 24 from by kernel_rfl] at z
    simp only [List.length_map, List.length_range] at z
    have hz : (len + (m - len)) * 24 ≤ 140737488351232 := z
    have hent : ∀ i, i < len → ∃ e : QJour.S62, e.f1.size ≤ 140737488351232 ∧ w.cell? (x.add (i * 2)) = some (.int .i64 e.f0) ∧ w.cell? ⟨(x.add (i * 2)).block, (x.add (i * 2)).off + 1, none⟩ = some (.string e.f1) := by
      intro i hi
      obtain ⟨ys, n, hD, _, _, hfs⟩ := hel i (by omega)
      have hli : LightJ 75 (.agg (ys.map (·.1)) : DataW H) := by
        rw [← hD]
        exact lightJ_elem Try.underlying22 hli0 (List.mem_map.2 ⟨i, List.mem_range.2 hi, rfl⟩)
      obtain ⟨v0, y0, hc0, _, ht0⟩ := hfs 0 _ rfl
      obtain ⟨v1, y1, hc1, hy1, ht1⟩ := hfs 1 _ rfl
      obtain ⟨a0, e0, _, _⟩ := DataW.trod_int Try.underlying3 ht0
      obtain ⟨a1, e1, x1, _⟩ := DataW.trod_string Try.underlying9 ht1
      have l1 : LightJ 9 y1.1 := lightJ_field (j := 1) Try.underlying75 hli rfl (by rw [List.getElem?_map, hy1]; rfl)
      simp only [List.cons.injEq, and_true] at e0 e1
      subst e0 e1
      rw [x1] at l1
      have s1 : a1.size ≤ 140737488351232 := l1 a1.size (by rw [DataW.weights]; exact List.mem_singleton.2 (Lib.size_eq a1))
      exact ⟨⟨a0, a1⟩, s1, by simpa using hc0, by rw [← add_field _ _ 1 (by omega)]; exact hc1⟩
    have key : ∀ n, n ≤ len → ∃ l : List QJour.S62, l.length = n ∧ (∀ p, p ∈ l → p.f1.size ≤ 140737488351232) ∧ ∀ i e, l[i]? = some e → w.cell? (x.add (i * 2)) = some (.int .i64 e.f0) ∧ w.cell? ⟨(x.add (i * 2)).block, (x.add (i * 2)).off + 1, none⟩ = some (.string e.f1) := by
      intro n
      induction n with
      | zero => intro _; exact ⟨[], rfl, fun p hp => absurd hp List.not_mem_nil, fun i e h => by simp at h⟩
      | succ n ih =>
        intro hn
        obtain ⟨l, h1, h3, h2⟩ := ih (by omega)
        obtain ⟨e, hes, he⟩ := hent n (by omega)
        refine ⟨l ++ [e], by rw [List.length_append, h1]; rfl, fun p hp => ?_, fun i e' hi => ?_⟩
        · rcases List.mem_append.1 hp with hp | hp
          · exact h3 p hp
          · rw [List.mem_singleton.1 hp]; exact hes
        · rcases Nat.lt_or_ge i l.length with h3 | h3
          · rw [List.getElem?_append_left h3] at hi
            exact h2 i e' hi
          · have h4 := (List.getElem?_eq_some_iff.1 hi).1
            rw [List.length_append, List.length_singleton] at h4
            obtain rfl : i = l.length := by omega
            simp at hi
            subst hi
            rw [h1]
            exact he
    obtain ⟨l, hll, hls, hle⟩ := key len (Nat.le_refl _)
    refine ⟨l, hll, hl, ⟨⟨hll, by omega, fun _ => ⟨x, rfl, fun i p hp => ⟨[.int .i64 p.f0, .string p.f1], rfl, ⟨[.int .i64 p.f0], [.string p.f1], rfl, rfl, rfl⟩, ?_⟩⟩⟩, hls⟩, by omega⟩
    intro q u hu
    have h1 := hle i p hp
    match q, hu with
    | 0, hu => cases hu; exact h1.1
    | 1, hu =>
      cases hu
      rw [← add_field _ _ 1 (by omega)] at h1
      exact h1.2
end
end Go.Proofs.Ytgageigcjeaenaa.Disk
