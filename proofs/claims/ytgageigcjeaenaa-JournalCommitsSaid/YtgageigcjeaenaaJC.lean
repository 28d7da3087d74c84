/- Disks: contracts and laws, walked by hand. No condition beside those that each theorem names. -/
import Derived.Test.YtgageigcjeaenaaJA
import Derived.Test.YtgageigcjeaenaaJB
import Derived.Test.YtgageigcjeaenaaDiskF
namespace Go.Proofs.Ytgageigcjeaenaa.Disk
open Go.RowKit Go.Proofs.YtgageigcjeaenaaW.PrintWords Go.Proofs.YtgageigcjeaenaaW.PrintLast Go.Proofs.YtgageigcjeaenaaW.PrintMore Go.Proofs.Ytgageigcjeaenaa.MixBase Go.Proofs.Ytgageigcjeaenaa.MixPlain Go.Proofs.Ytgageigcjeaenaa.NumBase Go.Proofs.Ytgageigcjeaenaa.PadPlain
attribute [local go_sem] max2_int min2_int max_two min_two max_three min_three max_four min_four
set_option linter.unusedVariables false
set_option linter.unusedSimpArgs false
theorem ifc {p q : Prop} [Decidable p] [Decidable q] {α : Type} {a b : α} (h : p ↔ q) : (if p then a else b) = if q then a else b := by
  by_cases hp : p
  · rw [if_pos hp, if_pos (h.1 hp)]
  · rw [if_neg hp, if_neg (fun x => hp (h.2 x))]
theorem rd_get (l : List QJour.S62) (i : Nat) (h : i < l.length) : QJour.rd_T62 l (i : Int) = l[i] := by
  show l.getD _ _ = _
  rw [List.getD_eq_getElem?_getD, show ((i : Int)).toNat = i by omega, List.getElem?_eq_getElem h]
  rfl
theorem refpage_f {k : Nat} {N fi m : Int} (hF : QJour.aumbryref10_First.f k N = some fi) (hP : QJour.aumbryref10_Pages.f k N = some m) (h0 : 0 ≤ fi) (h1 : 0 ≤ m) (h2 : fi + m ≤ 100000) (a : Int) : QJour.aumbryref10_Page.f k N a = some (pgF fi m a) := by
  unfold QJour.aumbryref10_Page.f pgF
  by_cases ha : a = 0
  · rw [if_pos ha, if_pos ha]
  · rw [if_neg ha, if_neg ha, hF, Option.bind_some]
    by_cases hb : a ≥ fi
    · rw [if_pos hb, if_pos hb, hP, Option.bind_some, Option.bind_some, MixBase.wrap64_small (i := fi + m) (by omega) (by omega), MixBase.wrap64_small (i := fi + m - 2) (by omega) (by omega), MixBase.wrap64_small (i := fi + m - 1) (by omega) (by omega)]
      refine congrArg some ?_
      exact decide_eq_decide.2 (by omega)
    · rw [if_neg hb, if_neg hb]
theorem take_drop_mem (l : List QJour.S62) (i j : Nat) (hj : j < i) (hi : i ≤ l.length) : ((l.take i).drop j) = l[j]'(by omega) :: (l.take i).drop (j + 1) := by
  rw [List.drop_eq_getElem_cons (by rw [List.length_take]; omega), List.getElem_take]
theorem rmay_l1 {N : Int} (l : List QJour.S62) (hl : l.length ≤ 4096) (i : Nat) (hi : i < l.length) {r : Int} (hE : Ev (fun k => QJour.aumbryref10_May.l0 k N l (l.length : Int) ((i + 1 : Nat) : Int)) r) : ∀ d j, j + d = i → Ev (fun k => QJour.aumbryref10_May.l1 k N l (i : Int) (j : Int) (l.length : Int) (i : Int)) (if l[i].f0 ∈ ((l.take i).drop j).map QJour.S62.f0 then 9 else r)
  | 0, j, h => by
    rw [List.drop_eq_nil_of_le (by rw [List.length_take]; omega), if_neg (by simp)]
    refine Ev.step (fun k => ?_) hE
    show QJour.aumbryref10_May.l1 (k + 1) N l _ _ _ _ = _
    rw [QJour.aumbryref10_May.l1, if_neg (by omega), MixBase.wrap64_small (i := (i : Int) + 1) (by omega) (by omega)]
    rfl
  | d + 1, j, h => by
    have ih := rmay_l1 l hl i hi hE d (j + 1) (by omega)
    rw [take_drop_mem l i j (by omega) (by omega), List.map_cons]
    have hj : j < l.length := by omega
    by_cases he : l[j].f0 = l[i].f0
    · rw [if_pos (by rw [he]; exact List.mem_cons_self ..)]
      refine Ev.step (f := fun _ => some 9) (fun k => ?_) (Ev.now _)
      show QJour.aumbryref10_May.l1 (k + 1) N l _ _ _ _ = _
      rw [QJour.aumbryref10_May.l1, if_pos (by omega), if_pos (by omega), if_pos (by omega), if_pos (by omega), if_pos (by omega), rd_get l j hj, rd_get l i hi, if_pos he]
    · have e2 : (l[i].f0 ∈ l[j].f0 :: List.map QJour.S62.f0 (List.drop (j + 1) (List.take i l))) ↔ (l[i].f0 ∈ List.map QJour.S62.f0 (List.drop (j + 1) (List.take i l))) := by
        rw [List.mem_cons]
        exact ⟨fun h => h.elim (fun h => absurd h.symm he) id, Or.inr⟩
      rw [ifc e2]
      refine Ev.step (fun k => ?_) ih
      show QJour.aumbryref10_May.l1 (k + 1) N l _ _ _ _ = _
      rw [QJour.aumbryref10_May.l1, if_pos (by omega), if_pos (by omega), if_pos (by omega), if_pos (by omega), if_pos (by omega), rd_get l j hj, rd_get l i hi, if_neg he, MixBase.wrap64_small (i := (j : Int) + 1) (by omega) (by omega)]
      rfl
theorem rmay_l0 {N : Int} {pg : Int → Bool} (hpg : ∀ a, Ev (fun k => QJour.aumbryref10_Page.f k N a) (pg a)) (l : List QJour.S62) (hl : l.length ≤ 4096) : ∀ d i, i + d = l.length → Ev (fun k => QJour.aumbryref10_May.l0 k N l (l.length : Int) (i : Int)) (mayL pg ((l.take i).map QJour.S62.f0).reverse (l.drop i))
  | 0, i, h => by
    rw [List.drop_eq_nil_of_le (by omega)]
    refine Ev.step (f := fun _ => some 0) (fun k => ?_) (Ev.now _)
    show QJour.aumbryref10_May.l0 (k + 1) N l _ _ = _
    rw [QJour.aumbryref10_May.l0, if_neg (by omega)]
  | d + 1, i, h => by
    have hi : i < l.length := by omega
    have ih := rmay_l0 hpg l hl d (i + 1) (by omega)
    rw [List.take_add_one, List.getElem?_eq_getElem hi] at ih
    have e1 : (List.map QJour.S62.f0 (List.take i l ++ (some l[i]).toList)).reverse = l[i].f0 :: (List.map QJour.S62.f0 (List.take i l)).reverse := by
      show (List.map QJour.S62.f0 (List.take i l ++ [l[i]])).reverse = _
      rw [List.map_append, List.reverse_append]
      rfl
    rw [e1] at ih
    have h1 := rmay_l1 l hl i hi ih i 0 (by omega)
    rw [List.drop_zero] at h1
    have hM : mayL pg ((l.take i).map QJour.S62.f0).reverse (l.drop i) = (if pg l[i].f0 = true then (if l[i].f1.size = 256 then (if l[i].f0 ∈ (l.take i).map QJour.S62.f0 then 9 else mayL pg (l[i].f0 :: ((l.take i).map QJour.S62.f0).reverse) (l.drop (i + 1))) else 3) else 1) := by
      rw [List.drop_eq_getElem_cons hi]
      show (if pg l[i].f0 = true then (if l[i].f1.size = 256 then (if l[i].f0 ∈ ((l.take i).map QJour.S62.f0).reverse then 9 else _) else 3) else 1) = _
      rw [ifc List.mem_reverse]
    rw [hM]
    by_cases hp : pg l[i].f0 = true
    · have hpe := hpg l[i].f0
      rw [hp] at hpe
      rw [if_pos hp]
      by_cases hz : l[i].f1.size = 256
      · rw [if_pos hz]
        refine Ev.step (fun k => ?_) (Ev.bind hpe (f := fun k t157 => if t157 = true then QJour.aumbryref10_May.l1 k N l (i : Int) 0 (l.length : Int) (i : Int) else some 1) ?_)
        · show QJour.aumbryref10_May.l0 (k + 1) N l _ _ = _
          rw [QJour.aumbryref10_May.l0, if_pos (by omega), if_pos (by omega), if_pos (by omega), rd_get l i hi, if_pos (show (l[i].f1.size : Int) = 256 by omega)]
        · exact h1
      · rw [if_neg hz]
        refine Ev.step (fun k => ?_) (Ev.bind hpe (f := fun k t157 => if t157 = true then some (3 : Int) else some 1) (Ev.now _))
        show QJour.aumbryref10_May.l0 (k + 1) N l _ _ = _
        rw [QJour.aumbryref10_May.l0, if_pos (by omega), if_pos (by omega), if_pos (by omega), rd_get l i hi, if_neg (show ¬ (l[i].f1.size : Int) = 256 by omega)]
    · have hpe := hpg l[i].f0
      rw [Bool.eq_false_iff.2 hp] at hpe
      rw [if_neg hp]
      refine Ev.step (fun k => ?_) (Ev.bind hpe (f := fun k t157 => if t157 = true then (if (l[i].f1.size : Int) = 256 then QJour.aumbryref10_May.l1 k N l (i : Int) 0 (l.length : Int) (i : Int) else some 3) else some 1) (Ev.now _))
      show QJour.aumbryref10_May.l0 (k + 1) N l _ _ = _
      rw [QJour.aumbryref10_May.l0, if_pos (by omega), if_pos (by omega), if_pos (by omega), rd_get l i hi]
theorem refmay_ev {N m : Int} {pg : Int → Bool} (hP : Ev (fun k => QJour.aumbryref10_Pages.f k N) m) (hm : m ≤ 4096) (hpg : ∀ a, Ev (fun k => QJour.aumbryref10_Page.f k N a) (pg a)) (l : List QJour.S62) : Ev (fun k => QJour.aumbryref10_May.f k N l) (mayS m pg l) := by
  refine Ev.bind hP (f := fun k t155 => (if (l.length : Int) > t155 then (some 10) else (QJour.aumbryref10_May.l0 k N l (l.length : Int) 0))) ?_
  unfold mayS
  by_cases h : (l.length : Int) > m
  · simp only [if_pos h]
    exact Ev.now _
  · simp only [if_neg h]
    have := rmay_l0 hpg l (by omega) l.length 0 (by omega)
    rw [List.take_zero, List.drop_zero] at this
    exact this
def cpS (cp : Int) (l : List QJour.S62) (n : Nat) : List QJour.S62 := (List.range n).map (fun j : Nat => ⟨cp + (j : Int), (QJour.rd_T62 l (j : Int)).f1⟩)
def lsS (lst : List ByteArray) (n : Nat) : List QJour.S62 := (List.range n).map (fun j : Nat => ⟨2 + (j : Int), rdOf ByteArray.empty lst (j : Int)⟩)
/-- What a group writes. -/
def wrS (cp : Int) (l : List QJour.S62) : List QJour.S62 := ((cpS cp l l.length ++ lsS (QJour.listS l) (QJour.listS l).length) ++ [⟨1, QJour.topS l⟩] ++ l) ++ [⟨1, zeros 256⟩]
theorem cpS_succ (cp : Int) (l : List QJour.S62) (n : Nat) : cpS cp l (n + 1) = cpS cp l n ++ [⟨cp + (n : Int), (QJour.rd_T62 l (n : Int)).f1⟩] := by unfold cpS; rw [List.range_succ, List.map_append]; rfl
theorem lsS_succ (l : List ByteArray) (n : Nat) : lsS l (n + 1) = lsS l n ++ [⟨2 + (n : Int), rdOf ByteArray.empty l (n : Int)⟩] := by unfold lsS; rw [List.range_succ, List.map_append]; rfl
theorem cpS_len (cp : Int) (l : List QJour.S62) (n : Nat) : (cpS cp l n).length = n := by unfold cpS; rw [List.length_map, List.length_range]
theorem lsS_len (l : List ByteArray) (n : Nat) : (lsS l n).length = n := by unfold lsS; rw [List.length_map, List.length_range]
theorem padB_none : QJour.padB ⟨#[]⟩ = zeros 256 := by
  unfold QJour.padB
  show ByteArray.empty ++ zeros 256 = _
  exact ByteArray.empty_append
theorem wrS_map (cp : Int) (l : List QJour.S62) : (wrS cp l).map pgOf = allW cp l (QJour.listS l) (QJour.topS l) := by
  unfold wrS allW homeW
  rw [List.map_append, List.map_append, List.map_append, List.map_append]
  have h1 : (cpS cp l l.length).map pgOf = upto (cpF cp l) l.length := by
    unfold cpS upto
    rw [List.map_map]
    refine List.map_congr_left (fun j hj => ?_)
    show (⟨cp + (j : Int), (QJour.rd_T62 l (j : Int)).f1⟩ : Pg) = ⟨cp + (j : Int), (l.getD j zS).f1⟩
    show (⟨cp + (j : Int), (l.getD ((j : Int)).toNat QJour.z62).f1⟩ : Pg) = ⟨cp + (j : Int), (l.getD j zS).f1⟩
    rw [show ((j : Int)).toNat = j by omega]
    rfl
  have h2 : (lsS (QJour.listS l) (QJour.listS l).length).map pgOf = upto (lsF (QJour.listS l)) (QJour.listS l).length := by
    unfold lsS upto
    rw [List.map_map]
    refine List.map_congr_left (fun j hj => ?_)
    show (⟨2 + (j : Int), rdOf ByteArray.empty (QJour.listS l) (j : Int)⟩ : Pg) = ⟨2 + (j : Int), (QJour.listS l).getD j ⟨#[]⟩⟩
    unfold rdOf
    rw [show ((j : Int)).toNat = j by omega]
    rfl
  rw [h1, h2]
  simp only [List.append_assoc, List.map_cons, List.map_nil, List.cons_append, List.nil_append]
  rfl
theorem wr_l1 (cp : Int) (l : List QJour.S62) (hl : l.length ≤ 4096) (hs : QJour.Small (l.map QJour.S62.f1)) : ∀ d i, i + d = (QJour.listS l).length → Ev (fun k => QJour.aumbryref10_Writes.l1 k l (cpS cp l l.length ++ lsS (QJour.listS l) i) (QJour.listS l) ((QJour.listS l).length : Int) (i : Int)) (wrS cp l)
  | 0, i, h => by
    have hll := QJour.listS_length l
    have hlen : (cpS cp l l.length ++ lsS (QJour.listS l) i).length ≤ 10000 := by rw [List.length_append, cpS_len, lsS_len]; omega
    have hb := QJour.refblock_f ⟨#[]⟩ (Nat.zero_le _)
    obtain rfl : i = (QJour.listS l).length := by omega
    obtain ⟨K, hK⟩ := QJour.head_ev l hl hs
    refine ⟨K + 1, fun k hk => ?_⟩
    obtain ⟨k, rfl⟩ : ∃ j, k = j + 1 := ⟨k - 1, by omega⟩
    have hK := hK k (by omega)
    show QJour.aumbryref10_Writes.l1 (k + 1) l _ _ _ _ = _
    simp only at hK
    rw [QJour.aumbryref10_Writes.l1, if_neg (by omega), hK, Option.bind_some, if_pos (by omega), Option.bind_some, if_pos (by rw [List.length_append, List.length_singleton]; omega), Option.bind_some, hb, Option.bind_some, if_pos (by rw [List.length_append, List.length_append, List.length_singleton]; omega), padB_none]
    rfl
  | d + 1, i, h => by
    have hll := QJour.listS_length l
    have ih := wr_l1 cp l hl hs d (i + 1) (by omega)
    rw [lsS_succ, ← List.append_assoc] at ih
    refine Ev.step (fun k => ?_) ih
    show QJour.aumbryref10_Writes.l1 (k + 1) l _ _ _ _ = _
    rw [QJour.aumbryref10_Writes.l1, if_pos (by omega), if_pos (by omega), if_pos (by omega), if_pos (by rw [List.length_append, cpS_len, lsS_len]; omega), MixBase.wrap64_small (i := 2 + (i : Int)) (by omega) (by omega), MixBase.wrap64_small (i := (i : Int) + 1) (by omega) (by omega)]
    rfl
theorem wr_l0 {N q r : Int} (hP : Ev (fun k => QJour.aumbryref10_Pages.f k N) q) (hr : QJour.aumbryref10_Rows.f q = some r) (h0 : 0 ≤ r) (h1 : r ≤ 4096) (l : List QJour.S62) (hl : l.length ≤ 4096) (hs : QJour.Small (l.map QJour.S62.f1)) : ∀ d i, i + d = l.length → Ev (fun k => QJour.aumbryref10_Writes.l0 k N l (cpS (2 + r) l i) (l.length : Int) (i : Int)) (wrS (2 + r) l)
  | 0, i, h => by
    obtain rfl : i = l.length := by omega
    have h2 := wr_l1 (2 + r) l hl hs (QJour.listS l).length 0 (by omega)
    rw [show lsS (QJour.listS l) 0 = [] from rfl, List.append_nil] at h2
    refine Ev.step (fun k => ?_) (Ev.bind (QJour.reflist_ev l hl) (f := fun k t197 => QJour.aumbryref10_Writes.l1 k l (cpS (2 + r) l l.length) t197 (t197.length : Int) 0) h2)
    show QJour.aumbryref10_Writes.l0 (k + 1) N l _ _ _ = _
    rw [QJour.aumbryref10_Writes.l0, if_neg (by omega)]
  | d + 1, i, h => by
    have ih := wr_l0 hP hr h0 h1 l hl hs d (i + 1) (by omega)
    rw [cpS_succ] at ih
    refine Ev.step (fun k => ?_) (Ev.bind hP (f := fun k t191 => (QJour.aumbryref10_Rows.f t191).bind fun t192 => (if 0 ≤ (i : Int) then (if (i : Int) < (l.length : Int) then (if (cpS (2 + r) l i).length < 5864062014805 then (QJour.aumbryref10_Writes.l0 k N l (cpS (2 + r) l i ++ [(⟨wrap64 ((wrap64 (2 + t192)) + (i : Int)), (QJour.rd_T62 l (i : Int)).f1⟩ : QJour.S62)]) (l.length : Int) (wrap64 ((i : Int) + 1))) else (none)) else (none)) else (none))) ?_)
    · show QJour.aumbryref10_Writes.l0 (k + 1) N l _ _ _ = _
      rw [QJour.aumbryref10_Writes.l0, if_pos (by omega)]
    · simp only [hr, Option.bind_some]
      refine Ev.congr (fun k => ?_) ih
      rw [if_pos (by omega), if_pos (by omega), if_pos (by rw [cpS_len]; omega), MixBase.wrap64_small (i := 2 + r) (by omega) (by omega), MixBase.wrap64_small (i := 2 + r + (i : Int)) (by omega) (by omega), MixBase.wrap64_small (i := (i : Int) + 1) (by omega) (by omega)]
      rfl
theorem writes_ev {N q r : Int} (hP : Ev (fun k => QJour.aumbryref10_Pages.f k N) q) (hr : QJour.aumbryref10_Rows.f q = some r) (h0 : 0 ≤ r) (h1 : r ≤ 4096) (l : List QJour.S62) (hl : l.length ≤ 4096) (hs : QJour.Small (l.map QJour.S62.f1)) : Ev (fun k => QJour.aumbryref10_Writes.f k N l) (if l.length = 0 then [] else wrS (2 + r) l) := by
  by_cases h : l.length = 0
  · rw [if_pos h]
    refine Ev.congr (fun k => ?_) (Ev.now _)
    unfold QJour.aumbryref10_Writes.f
    rw [if_pos (by omega)]
  · rw [if_neg h]
    refine Ev.congr (fun k => ?_) (wr_l0 hP hr h0 h1 l hl hs l.length 0 (by omega))
    unfold QJour.aumbryref10_Writes.f
    rw [if_neg (by omega)]
    rfl
end Go.Proofs.Ytgageigcjeaenaa.Disk
namespace Go.Proofs.Ytgageigcjeaenaa.Disk
open Go.RowKit Go.Proofs.YtgageigcjeaenaaW.PrintWords Go.Proofs.YtgageigcjeaenaaW.PrintLast Go.Proofs.YtgageigcjeaenaaW.PrintMore Go.Proofs.Ytgageigcjeaenaa.MixBase Go.Proofs.Ytgageigcjeaenaa.MixPlain Go.Proofs.Ytgageigcjeaenaa.NumBase Go.Proofs.Ytgageigcjeaenaa.PadPlain
attribute [local go_sem] max2_int min2_int max_two min_two max_three min_three max_four min_four
set_option linter.unusedVariables false
set_option linter.unusedSimpArgs false
theorem RSt.below {W w w' : World} {g : Nat} {vb vl : Value} {d : Dk} (h : RSt W w g vb vl d) (hb : Below w.heap.size w w') : RSt W w' g vb vl d := h.moved (Moved.of_below hb (fun _ => False)) (fun _ _ h => h) (fun _ _ h => h.elim)
theorem RefWrite_st {W w : World} {g : Nat} {vb vl : Value} {d : Dk} (a : Int) (s : ByteArray) (h : RSt W w g vb vl d) (hlog : (d.log.length + 1) * 24 ≤ 140737488355328) : Calls Try.prog 58 #[.pointer (some ⟨g, 0, none⟩), .int .i64 a, .string s] w fun e w' => ∃ vl', e = .returned (.int .i64 (writeD d a s).2) ∧ RSt W w' g vb vl' (writeD d a s).1 ∧ (∀ k, Foot g vb vl' k → Foot g vb vl k ∨ w.heap.size ≤ k) ∧ Moved w w' (Foot g vb vl) :=
  (RefWrite_calls a s h.1 hlog).mono fun e w' ⟨vl', h1, h2, h3, h4⟩ => ⟨vl', h1, ⟨h2, h4.below h.2 h.2.size (fun k _ hk => (h.foot hk).1)⟩, fun k hk => by
    rcases hk with hk | hk | hk
    · exact Or.inl (Or.inl hk)
    · exact Or.inl (Or.inr (Or.inl hk))
    · rcases h3 with e | ⟨b, e, hb⟩
      · exact Or.inl (Or.inr (Or.inr (e ▸ hk)))
      · rw [e] at hk
        injection hk with hk
        exact Or.inr (hk ▸ hb), h4⟩
theorem Moved.cell {w w' : World} {S : Nat → Prop} (h : Moved w w' S) {a : Addr} {v : Value} (hc : w.cell? a = some v) (hn : ¬ S a.block) : w'.cell? a = some v := (World.cell?_of_block (h.2.2.2.2 _ (World.block_lt_of_cell? _ _ hc) hn)).trans hc
theorem Moved.step2 {w a b c : World} {g : Nat} {vb vl vl' : Value} (h : Moved w a (Foot g vb vl)) (hb : Moved a b (fun _ => False)) (hc : Moved b c (Foot g vb vl')) (hf : ∀ k, Foot g vb vl' k → Foot g vb vl k ∨ w.heap.size ≤ k) : Moved w c (Foot g vb vl) :=
  ⟨hc.1.trans (hb.1.trans h.1), hc.2.1.trans (hb.2.1.trans h.2.1), hc.2.2.1.trans (hb.2.2.1.trans h.2.2.1), Nat.le_trans h.2.2.2.1 (Nat.le_trans hb.2.2.2.1 hc.2.2.2.1),
   fun i hi hn => (hc.2.2.2.2 i (Nat.lt_of_lt_of_le hi (Nat.le_trans h.2.2.2.1 hb.2.2.2.1)) (fun hk => (hf i hk).elim hn (fun hl => by omega))).trans ((hb.2.2.2.2 i (Nat.lt_of_lt_of_le hi h.2.2.2.1) (fun h => h)).trans (h.2.2.2.2 i hi hn))⟩
theorem doW_take (l : List QJour.S62) (d : Dk) (i : Nat) (h : i < l.length) (h0 : (doW d ((l.map pgOf).take i)).2 = 0) : doW d ((l.map pgOf).take (i + 1)) = writeD (doW d ((l.map pgOf).take i)).1 l[i].f0 l[i].f1 := by
  rw [homeW_take l i h]
  exact doW_snoc _ _ d h0
set_option maxRecDepth 100000 in
set_option maxHeartbeats 2000000 in
theorem Done_calls {W w : World} {g : Nat} {vb vl : Value} {d : Dk} {A : Option Addr} {c : Nat} {l : List QJour.S62} (h : RSt W w g vb vl d) (hC : Kd.C QJour.k62 w A l.length l) (hof : ∀ ad, A = some ad → ¬ Foot g vb vl ad.block) (hl : l.length ≤ 1000000) (hlog : (d.log.length + l.length) * 24 ≤ 140737488355328) :
    Calls Try.prog 50 #[.pointer (some ⟨g, 0, none⟩), .slice A l.length c] w fun e w' => ∃ vl', e = .returned (.int .i64 (doW d (l.map pgOf)).2) ∧ RSt W w' g vb vl' (doW d (l.map pgOf)).1 ∧ (∀ k, Foot g vb vl' k → Foot g vb vl k ∨ w.heap.size ≤ k) ∧ Moved w w' (Foot g vb vl) := by
  have hR := rowAt_of_C hC
  have H := Aside0.mk h
  have HR := Aside0.mk hR
  have HO := Aside0.mk hof
  have HL := Aside0.mk hl
  have HG := Aside0.mk hlog
  have hu62 := Try.underlying62
  clear h hC hR hof hl hlog
  go_enter Try.func50, Try.ntmps50
  go_wp2
  go_loopg [9] l.length (fun kq v9 wr => ∃ (i : Nat) (vl' : Value), v9 = .int .i64 (i : Int) ∧ i ≤ l.length ∧ Aside0 (kq = l.length - i) ∧ Aside0 ((doW d ((l.map pgOf).take i)).2 = 0) ∧ Aside0 (RSt W wr g vb vl' (doW d ((l.map pgOf).take i)).1) ∧ Aside0 (∀ k, Foot g vb vl' k → Foot g vb vl k ∨ w.heap.size ≤ k) ∧ Aside0 (Moved w wr (Foot g vb vl)))
  case atStart => exact ⟨0, vl, rfl, Nat.zero_le _, ⟨rfl⟩, ⟨rfl⟩, H, ⟨fun k hk => Or.inl hk⟩, ⟨Moved.refl _ _⟩⟩
  case round =>
    obtain ⟨i, vl', rfl, hi, hkq, HZ, HS, HF, HM⟩ := hrel
    by_cases hil : i < l.length
    · obtain ⟨ad, rfl, q0, q1⟩ := HR.out i hil
      replace q0 := HM.out.cell (a := ad.add (i * 2)) q0 (by rw [add_block]; exact HO.out ad rfl)
      replace q1 := HM.out.cell (a := ⟨(ad.add (i * 2)).block, (ad.add (i * 2)).off + 1, none⟩) q1 (by show ¬ Foot g vb vl (ad.add (i * 2)).block; rw [add_block]; exact HO.out ad rfl)
      have HW := Aside0.mk (doW_take l d i hil HZ.out)
      have HLG : Aside0 (((doW d ((l.map pgOf).take i)).1.log.length + 1) * 24 ≤ 140737488355328) := ⟨by
        have := doW_log ((l.map pgOf).take i) d
        have h2 : ((l.map pgOf).take i).length ≤ i := List.length_take_le _ _
        have := HG.out
        omega⟩
      obtain ⟨S, hS⟩ : ∃ S, S = l[i] := ⟨_, rfl⟩
      rw [← hS] at q0 q1 HW
      obtain ⟨D, hD⟩ : ∃ D, D = (doW d ((l.map pgOf).take i)).1 := ⟨_, rfl⟩
      rw [← hD] at HS HW HLG
      have q0' : wr.drew.cell? (ad.add (i * 2)) = some (.int .i64 S.f0) := q0
      have q1' : wr.drew.cell? ⟨(ad.add (i * 2)).block, (ad.add (i * 2)).off + 1, none⟩ = some (.string S.f1) := q1
      have HS2 := Aside0.mk (HS.out.below (below_drew1 (Below.refl wr.heap.size wr)))
      have c1 : ((i : Int) < (l.length : Int)) = True := eq_true (by omega)
      have c2 : ((0 : Int) ≤ (i : Int)) = True := eq_true (by omega)
      have c3 : (i < l.length) = True := eq_true hil
      clear hS hD
      go_wp2
      go_region_with (go_at_call 58; refine (RefWrite_st S.f0 S.f1 HS2.out HLG.out).mono ?_; rintro e w2 ⟨vl2, rfl, hs, hf, hm⟩; have R2 := Aside0.mk hs; have F2 := Aside0.mk hf; have M2 := Aside0.mk hm; clear hs hf hm)
      all_goals (refine (‹∀ (a : Act) (w : World), Code.wp Try.prog _ _ a w → _›) _ _ ?_)
      all_goals (
        have FX := Aside0.mk (fun k hk => (F2.out k hk).elim (fun h => HF.out k h) (fun h => Or.inr (Nat.le_trans HM.out.2.2.2.1 h)))
        have MX : Aside0 (Moved w w2 (Foot g vb vl)) := ⟨Moved.step2 HM.out (Moved.of_below (below_drew1 (Below.refl wr.heap.size wr)) (fun _ => False)) M2.out HF.out⟩
        clear q0 q1 q0' q1'
        by_cases he : (writeD D S.f0 S.f1).2 = 0
        · have cne : ((writeD D S.f0 S.f1).2 != 0) = false := bne_eq_false_iff_eq.2 he
          have HE := Aside0.mk he
          clear he
          go_wp2
          go_roundg (l.length - (i + 1))
          case measure => have := hkq.out; omega
          case rel => exact ⟨i + 1, vl2, by have := HL.out; rw [MixBase.wrap64_small (by omega) (by omega)]; rfl, by omega, ⟨rfl⟩, ⟨by rw [HW.out]; exact HE.out⟩, ⟨by rw [HW.out]; exact R2.out⟩, FX, MX⟩
        · have cne : ((writeD D S.f0 S.f1).2 != 0) = true := bne_iff_ne.2 he
          have HE := Aside0.mk he
          clear he
          have hall : doW d (l.map pgOf) = writeD D S.f0 S.f1 := by
            rw [← HW.out]
            have h1 := doW_stop ((l.map pgOf).take (i + 1)) d ((l.map pgOf).drop (i + 1)) (by rw [HW.out]; exact HE.out)
            rw [List.take_append_drop] at h1
            exact h1
          have HA := Aside0.mk hall
          clear hall
          go_wp2
          go_ret
          exact ⟨vl2, by rw [HA.out]; rfl, by rw [HA.out]; exact R2.out, FX.out, MX.out⟩)
    · have c1 : ((i : Int) < (l.length : Int)) = False := eq_false (by omega)
      have ei : (l.map pgOf).take i = l.map pgOf := List.take_of_length_le (by rw [List.length_map]; omega)
      rw [ei] at HZ HS
      go_wp2
      go_ret
      exact ⟨vl', by rw [HZ.out]; rfl, HS.out, HF.out, HM.out⟩
set_option maxRecDepth 100000 in
set_option maxHeartbeats 2000000 in
theorem RefCommit_calls {W w : World} {g k : Nat} {vb vl : Value} {d : Dk} {A : Option Addr} {c : Nat} {l ws : List QJour.S62} {r : Int} (h : RSt W w g vb vl d) (hC : Kd.C QJour.k62 w A l.length l) (hlc : l.length ≤ c)
    (hM : QJour.aumbryref10_May.f k (d.blocks.length : Int) l = some r) (hW : r = 0 → QJour.aumbryref10_Writes.f k (d.blocks.length : Int) l = some ws ∧ ws.length ≤ 1000000 ∧ (d.log.length + ws.length) * 24 ≤ 140737488355328) :
    Calls Try.prog 22 #[.pointer (some ⟨g, 0, none⟩), .slice A l.length c] w fun e w' => ∃ vl', e = .returned (.int .i64 (if r ≠ 0 then (d, r) else doW d (ws.map pgOf)).2) ∧ RSt W w' g vb vl' (if r ≠ 0 then (d, r) else doW d (ws.map pgOf)).1 ∧ Moved w w' (Foot g vb vl) := by
  obtain ⟨Ab, cb, rfl, hmx⟩ := own_slice h.1.2.2.1
  have hu39 := Try.underlying39
  have z0 : w.cell? ⟨g, 0, none⟩ = some (.slice Ab d.blocks.length cb) := (blk_cell h.1.2.1 0).trans rfl
  have H := Aside0.mk h
  have HC := Aside0.mk hC
  have HM := Aside0.mk hM
  have HWr := Aside0.mk hW
  clear h hC hM hW
  by_cases hr : r = 0
  · subst hr
    obtain ⟨hw1, hw2, hw3⟩ := HWr.out rfl
    have HW1 := Aside0.mk hw1
    have HW2 := Aside0.mk hw2
    have HW3 := Aside0.mk hw3
    clear hw1 hw2 hw3 HWr
    rw [if_neg (by simp)]
    go_enter Try.func22, Try.ntmps22
    go_wp2_with (first
      | (go_at_call 53; refine (QJour.aumbryref10_May.calls k (d.blocks.length : Int) A c l 0 _ HC.out hlc HM.out).mono ?_; rintro e w1 ⟨rfl, ⟨nd, rfl⟩⟩)
      | (go_at_call 54; refine (QJour.aumbryref10_Writes.calls k (d.blocks.length : Int) A c l ws _ (Kd.C_drewN HC.out _) hlc HW1.out).mono ?_; rintro e w2 ⟨v, rfl, hR, hb⟩; have HRR := Aside0.mk hR; have HB := Aside0.mk hb; clear hR hb))
    obtain ⟨A', c', rfl, hc', hC'⟩ := Kd.R_reads HRR.out
    have hbw : Below w.heap.size w w2 := below_step (pw_below_drewN (Below.refl _ _) nd) HB.out
    have hof : ∀ ad, A' = some ad → ¬ Foot g (.slice Ab d.blocks.length cb) vl ad.block := by
      rintro ad rfl hf
      have h1 := ((Kd.R_bound HRR.out).1 ad.block rfl).2.1
      have h2 := (H.out.foot hf).2
      have h3 : w.heap.size ≤ ad.block := h1
      omega
    refine (Done_calls (H.out.below hbw) hC' hof HW2.out HW3.out).mono ?_
    rintro e w3 ⟨vl', rfl, t1, t2, t3⟩
    have T1 := Aside0.mk t1
    have T3 := Aside0.mk ((Moved.of_below hbw (Foot g (.slice Ab d.blocks.length cb) vl)).trans t3)
    clear t1 t2 t3 hof hbw hC'
    go_wp2
    go_ret
    exact ⟨vl', rfl, T1.out, T3.out⟩
  · have cne : (r != 0) = true := bne_iff_ne.2 hr
    rw [if_pos hr]
    have HR := Aside0.mk hr
    clear hr
    go_enter Try.func22, Try.ntmps22
    go_wp2_with (go_at_call 53; refine (QJour.aumbryref10_May.calls k (d.blocks.length : Int) A c l r _ HC.out hlc HM.out).mono ?_; rintro e w1 ⟨rfl, ⟨nd, rfl⟩⟩)
    go_ret
    exact ⟨vl, rfl, H.out.below (pw_below_drewN (Below.refl _ _) _), Moved.of_below (pw_below_drewN (Below.refl _ _) _) _⟩
theorem size_calls (a : Int) (w : World) : Calls Try.prog 44 #[.int .i64 a] w fun e w' => e = .returned (.int .i64 (wrap64 (64 + (wrap64 (Int.tmod (IntKind.u64.wrap a) 300))))) ∧ Below w.heap.size w w' :=
  (QJour.aumbrylaw10_size.calls a _ w rfl).mono fun e w' ⟨h, hd⟩ => ⟨h, by first | exact hd.below | (obtain ⟨n, rfl⟩ := hd; exact pw_below_drewN (Below.refl _ _) _)⟩
theorem size_nat (a : Int) : ∃ n : Nat, 64 ≤ n ∧ n ≤ 363 ∧ wrap64 (64 + (wrap64 (Int.tmod (IntKind.u64.wrap a) 300))) = (n : Int) := by
  have h := QJour.u64_range a
  have h1 : Int.tmod (IntKind.u64.wrap a) 300 = (IntKind.u64.wrap a) % 300 := Int.tmod_eq_emod_of_nonneg h.1
  rw [h1, MixBase.wrap64_small (i := IntKind.u64.wrap a % 300) (by omega) (by omega), MixBase.wrap64_small (by omega) (by omega)]
  exact ⟨(64 + IntKind.u64.wrap a % 300).toNat, by omega, by omega, by omega⟩
set_option maxRecDepth 100000 in
set_option maxHeartbeats 2000000 in
theorem laid_nil (a : Int) (n : Nat) (W : World) (h1 : 64 ≤ n) (h2 : n ≤ 363) (hn : wrap64 (64 + (wrap64 (Int.tmod (IntKind.u64.wrap a) 300))) = (n : Int)) :
    Calls Try.prog 13 #[.int .i64 a, .slice none 0 0] W fun e w' => ∃ g vb h ub, e = .returned (.tuple #[.pointer (some ⟨g, 0, none⟩), .pointer (some ⟨h, 0, none⟩)]) ∧ Two W w' g vb (.slice none 0 0) h ub (.slice none 0 0) (newD n) := by
  have hu39 := Try.underlying39
  have HN := Aside0.mk hn
  go_enter Try.func13, Try.ntmps13
  go_wp2_with (first
    | (go_at_call 44; refine (size_calls a _).mono ?_; rintro e w1 ⟨rfl, hb⟩; rw [HN.out]; have B1 := Aside0.mk hb; clear hb)
    | (go_at_call 28; refine (RefNew_calls n h1 (by omega) _).mono ?_; rintro e w2 ⟨h, ub, rfl, hr, hb⟩; have R2 := Aside0.mk hr; have B2 := Aside0.mk hb; clear hr hb))
  go_loopg [15] 0 (fun kq v15 wr => v15 = .int .i64 0 ∧ wr = w2)
  case atStart => exact ⟨rfl, rfl⟩
  case round =>
    obtain ⟨rfl, hw⟩ := hrel
    obtain rfl := hw.symm
    have hlen : (newD n).blocks.length = n := wk_len n
    have hob := R2.out.2.2.1
    obtain ⟨Ab, cb, hub, hcb, hCb⟩ := strs_C hob
    rw [hlen] at hub hCb
    obtain ⟨w3, hw3⟩ : ∃ w3, w2.alloc (.cells #[] 9) = w3 := ⟨_, rfl⟩
    have hb3 : Below w2.heap.size w2 w3 := by rw [← hw3]; exact (Below.refl _ w2).alloc (Nat.le_refl _) _
    have h93 : w3.heap[w2.heap.size]? = some (.cells #[] 9 (0, 0)) := by rw [← hw3]; exact World.alloc_heap_new w2 _
    have HO3 : Aside0 (w3.ownsRow w2.heap.size 9 1 (.slice (some ⟨w2.heap.size, 0, none⟩) 0 0) ([] : List ByteArray).length (encs Value.string ([] : List ByteArray))) := ⟨⟨rfl, Or.inr ⟨_, 0, #[], rfl, Nat.le_refl _, h93, Nat.le_refl _, by decide, rfl, rfl⟩⟩⟩
    have z0 : w3.cell? ⟨h, 0, none⟩ = some (.slice Ab n cb) := by
      have := (blk_cell (blk_below R2.out.2.1 hb3) 0).trans (rfl : _ = some ub)
      rw [hub] at this
      exact this
    have HRd : Aside0 (ReadsOf Value.string ByteArray.empty w3 Ab n (newD n).blocks) := ⟨Kd.reads_of_C (h1 := fun _ => rfl) (Kd.C_below (d := Kd.string) hCb hb3)⟩
    have B3 := Aside0.mk hb3
    have HOB := Aside0.mk hob
    have HUB := Aside0.mk hub
    have HOF : Aside0 (ofErr (newD n).blocks = 0) := ⟨by
      unfold ofErr
      rw [hlen, if_pos (by omega), if_pos]
      rw [List.all_eq_true]
      intro x hx
      rw [List.eq_of_mem_replicate hx]
      exact beq_iff_eq.2 (zeros_size 256)⟩
    clear hb3 h93 hob hub hcb hCb hlen
    go_wp2_with (first
      | ((with_reducible refine gate_builtin (b := .append) (xs := #[.tmp 45, .tmp 49]) rfl ?_); at_builtin; refine print_append_row_of (w0 := w3) Value.string ByteArray.empty w2.heap.size rfl (.tmp 45) (.tmp 49) 37 9 (.string ⟨#[]⟩) 16 rfl Try.underlying37 info9 rfl (by decide) (fun _ => rfl) (.slice (some ⟨w2.heap.size, 0, none⟩) 0 0) [] (newD n).blocks Ab n cb rfl rfl HO3.out HRd.out (Below.refl _ _) (B3.out.size) (by show (0 + n) * 16 ≤ _; omega) ?_; intro v4 w4 ho hb hg hat; have HO4 : Aside0 (w4.ownsRow w2.heap.size 9 1 v4 (newD n).blocks.length (strs (newD n).blocks)) := ⟨ho⟩; have B4 := Aside0.mk hb; clear ho hb hg hat)
      | (go_at_call 35; refine (Of_good (newD n).blocks HO4.out HOF.out).mono ?_; rintro e w5 ⟨g, vb, rfl, hd, hb⟩; have D5 := Aside0.mk hd; have B5 := Aside0.mk hb; clear hd hb))
    go_ret2
    have b25 : Below w2.heap.size w2 w5 := (B3.out.trans B4.out).trans (B5.out.mono (Nat.le_trans B3.out.size B4.out.size))
    have bW2 : Below W.heap.size W w2 := below_step B1.out B2.out
    have hs14 : w2.heap.size ≤ w4.heap.size := Nat.le_trans B3.out.size B4.out.size
    refine ⟨g, vb, h, ub, rfl, ⟨D5.out.lower (Nat.le_trans bW2.size hs14), below_step bW2 b25⟩, ⟨?_, below_step bW2 b25⟩, ?_⟩
    · have hr : RefIs w5 w1.heap.size h ub (.slice none 0 0) (newD n) := R2.out.moved (Moved.of_below b25 (fun _ => False)) (fun _ _ h => h)
      exact ⟨Nat.le_trans B1.out.size hr.1, hr.2.1, own_less hr.2.2.1 B1.out.size, own_less hr.2.2.2 B1.out.size⟩
    · intro k hk hk'
      have h5 := (D5.out.foot_lt hk).1
      have h6 := (R2.out.foot_lt hk').2
      omega
end Go.Proofs.Ytgageigcjeaenaa.Disk
namespace Go.Proofs.Ytgageigcjeaenaa.Disk
open Go.RowKit Go.Proofs.YtgageigcjeaenaaW.PrintWords Go.Proofs.YtgageigcjeaenaaW.PrintLast Go.Proofs.YtgageigcjeaenaaW.PrintMore Go.Proofs.Ytgageigcjeaenaa.MixBase Go.Proofs.Ytgageigcjeaenaa.MixPlain Go.Proofs.Ytgageigcjeaenaa.NumBase Go.Proofs.Ytgageigcjeaenaa.PadPlain
attribute [local go_sem] max2_int min2_int max_two min_two max_three min_three max_four min_four
set_option linter.unusedVariables false
set_option linter.unusedSimpArgs false
theorem mayL_zero (pg : Int → Bool) : ∀ (l : List QJour.S62) (seen : List Int), mayL pg seen l = 0 → ∀ p, p ∈ l → p.f1.size = 256
  | [], _, _, p, hp => by cases hp
  | q :: l, seen, h, p, hp => by
    unfold mayL at h
    by_cases h1 : pg q.f0 = true
    · rw [if_pos h1] at h
      by_cases h2 : q.f1.size = 256
      · rw [if_pos h2] at h
        by_cases h3 : q.f0 ∈ seen
        · rw [if_pos h3] at h; cases h
        · rw [if_neg h3] at h
          rcases List.mem_cons.1 hp with e | e
          · rw [e]; exact h2
          · exact mayL_zero pg l _ h p e
      · rw [if_neg h2] at h; cases h
    · rw [if_neg h1] at h; cases h
theorem mayS_zero {m : Int} {pg : Int → Bool} {l : List QJour.S62} (h : mayS m pg l = 0) : (l.length : Int) ≤ m ∧ QJour.Small (l.map QJour.S62.f1) := by
  unfold mayS at h
  by_cases h1 : (l.length : Int) > m
  · rw [if_pos h1] at h; cases h
  · rw [if_neg h1] at h
    refine ⟨by omega, ?_⟩
    intro x hx
    obtain ⟨p, hp, rfl⟩ := List.mem_map.1 hx
    have := mayL_zero pg l [] h p hp
    omega
theorem at_k {α : Type} {g : Nat → Option α} {r : α} (hg : ∀ k, LeO (g k) (g (k + 1))) (h : g 3000 = some r) : ∀ k, 3000 ≤ k → g k = some r := fun k hk => at_rounds hg hk h
/-- What the journal answers of a group, with enough rounds. -/
theorem ready (n : Nat) (h0 : 64 ≤ n) (h1 : n ≤ 2048) (l : List QJour.S62) : ∃ (m fi cp r : Int) (k : Nat), 0 ≤ fi ∧ m ≤ 1023 ∧ 0 ≤ cp ∧ cp ≤ 100000 ∧ QJour.journal_Pages.f k (n : Int) = some m ∧ (∀ a, QJour.journal_page.f k (n : Int) a = some (pgF fi m a)) ∧ QJour.journal_copies.f k (n : Int) = some cp ∧
    (mayS m (pgF fi m) l = 0 → QJour.journal_list.f k l = some (QJour.listS l) ∧ (QJour.listS l).length ≤ 4096 ∧ QJour.journal_top.f k l = some (QJour.topS l) ∧ l.length ≤ 4096 ∧ (0 + (allW cp l (QJour.listS l) (QJour.topS l)).length) * 24 ≤ 140737488355328) ∧
    QJour.aumbryref10_May.f k (n : Int) l = some (mayS m (pgF fi m) l) ∧
    (mayS m (pgF fi m) l = 0 → QJour.aumbryref10_Writes.f k (n : Int) l = some (if l.length = 0 then [] else wrS cp l) ∧ (if l.length = 0 then [] else wrS cp l).length ≤ 1000000 ∧ (0 + (if l.length = 0 then [] else wrS cp l).length) * 24 ≤ 140737488355328) := by
  obtain ⟨m, fi, hP, hF, hP2, hF2, hc⟩ := rooms (n : Int) 3000 (Nat.le_refl _)
  rcases hc with ⟨rfl, rfl⟩ | ⟨hm1, hm2, q, rfl, rfl, hn1, hn2, hneed, hcp⟩
  · exfalso
    obtain ⟨q, h1', h2', h3, h4⟩ := pages_ex n h0 993 (by unfold need; omega)
    have hne : QJour.journal_Pages.f 3000 (n : Int) ≠ some 0 := by
      intro he
      unfold QJour.journal_Pages.f at he
      rw [if_neg (by omega), decide_eq_false (by omega), show (3000 : Nat) = 2999 + 1 from rfl, pj_false, MixBase.wrap64_small (i := (n : Int) - 1) (by omega) (by omega), Int.tdiv_eq_ediv_of_nonneg (by omega), MixBase.wrap64_small (by omega) (by omega)] at he
      have hq : q ≤ (n - 1) / 2 := by unfold need at h3; omega
      have := pages_down n q (2998 - ((n - 1) / 2 - q)) h3 h4 (by omega) ((n - 1) / 2 - q) (by omega)
      rw [show 2998 - ((n - 1) / 2 - q) + ((n - 1) / 2 - q) + 1 = 2999 by omega, show ((q + ((n - 1) / 2 - q) : Nat) : Int) = ((n : Int) - 1) / 2 by omega] at this
      rw [this] at he
      injection he with he
      omega
    exact hne hP
  · have eP := at_k (fun k => QJour.journal_Pages.mono (n : Int) k) hP
    have eF := at_k (fun k => QJour.journal_First.mono (n : Int) k) hF
    have eC := at_k (fun k => QJour.journal_copies.mono (n : Int) k) hcp
    have eP2 := at_k (fun k => QJour.aumbryref10_Pages.mono (n : Int) k) hP2
    have eF2 := at_k (fun k => QJour.aumbryref10_First.mono (n : Int) k) hF2
    have hpage : ∀ a, Ev (fun k => QJour.aumbryref10_Page.f k (n : Int) a) (pgF ((2 + (q + 127) / 128 + q : Nat) : Int) (q : Int) a) := fun a => ⟨3000, fun k hk => refpage_f (eF2 k hk) (eP2 k hk) (by omega) (by omega) (by omega) a⟩
    obtain ⟨K1, hK1⟩ := refmay_ev (N := (n : Int)) (m := (q : Int)) (pg := pgF ((2 + (q + 127) / 128 + q : Nat) : Int) (q : Int)) ⟨3000, eP2⟩ (by omega) hpage l
    have hlen : ∀ cp : Int, (l.length : Int) ≤ (q : Int) → (allW cp l (QJour.listS l) (QJour.topS l)).length ≤ 10000 ∧ (wrS cp l).length ≤ 10000 := by
      intro cp hq
      have hw : (wrS cp l).length ≤ 10000 := by
        have h5 := QJour.listS_length l
        unfold wrS
        rw [List.length_append, List.length_append, List.length_append, List.length_append, cpS_len, lsS_len, List.length_singleton, List.length_singleton]
        omega
      refine ⟨?_, hw⟩
      rw [← wrS_map, List.length_map]
      exact hw
    by_cases hz : mayS (q : Int) (pgF ((2 + (q + 127) / 128 + q : Nat) : Int) (q : Int)) l = 0
    · obtain ⟨hq, hs⟩ := mayS_zero hz
      obtain ⟨K2, hK2⟩ := QJour.top_ev l (by omega) hs
      obtain ⟨K3, hK3⟩ := writes_ev (N := (n : Int)) (q := (q : Int)) (r := (((q + 127) / 128 : Nat) : Int)) ⟨3000, eP2⟩ (rows_f q (by omega)) (by omega) (by omega) l (by omega) hs
      have ecp : (2 : Int) + (((q + 127) / 128 : Nat) : Int) = ((2 + (q + 127) / 128 : Nat) : Int) := by omega
      rw [ecp] at hK3
      have hL := hlen ((2 + (q + 127) / 128 : Nat) : Int) hq
      have hll := QJour.listS_length l
      refine ⟨(q : Int), _, ((2 + (q + 127) / 128 : Nat) : Int), 0, 3000 + K1 + K2 + K3, by omega, hm2, by omega, by omega, eP _ (by omega), fun a => page_f (eF _ (by omega)) (eP _ (by omega)) a, eC _ (by omega), fun _ => ⟨QJour.list_f l (by omega) _ (by omega), by omega, hK2 _ (by omega), by omega, by omega⟩, hK1 _ (by omega), fun _ => ⟨hK3 _ (by omega), ?_, ?_⟩⟩
      · split
        · exact Nat.zero_le _
        · omega
      · split
        · decide
        · omega
    · refine ⟨(q : Int), _, ((2 + (q + 127) / 128 : Nat) : Int), 0, 3000 + K1, by omega, hm2, by omega, by omega, eP _ (by omega), fun a => page_f (eF _ (by omega)) (eP _ (by omega)) a, eC _ (by omega), fun h => absurd h hz, hK1 _ (by omega), fun h => absurd h hz⟩
/-- Both sides do alike. -/
theorem commit_same (m cp : Int) (pg : Int → Bool) (l : List QJour.S62) (d : Dk) :
    (if mayS m pg l ≠ 0 then (d, mayS m pg l) else doW d ((if l.length = 0 then [] else wrS cp l).map pgOf)) = commitD m pg cp l (QJour.listS l) (QJour.topS l) d := by
  unfold commitD
  by_cases h : mayS m pg l = 0
  · rw [if_neg (fun h2 => h2 h)]
    by_cases h0 : l.length = 0
    · rw [if_pos h0, if_pos (Or.inr h0), h]
      rfl
    · rw [if_neg h0, if_neg (fun h2 => h2.elim (fun h3 => h3 h) h0), wrS_map]
  · rw [if_pos h, if_pos (Or.inl h)]
theorem RefIs.rd {w w' : World} {base g h : Nat} {ub ul : Value} {d : Dk} (hr : RefIs w base h ub ul d) (ho : ∀ k, Foot h ub ul k → ¬ FootOf g w k) (r : Rd g w w') : RefIs w' base h ub ul d := by
  refine ⟨hr.1, r.2.2.2.2.1 _ _ hr.2.1 rfl (ho _ (Or.inl rfl)), own_move hr.2.2.1 (fun k hk => ?_), own_move hr.2.2.2 (fun k hk => ?_)⟩
  · obtain ⟨c, hc⟩ := own_typed hr.2.2.1 k hk
    exact (r.2.2.2.2.1 _ _ hc rfl (ho _ (Or.inr (Or.inl hk)))).trans hc.symm
  · obtain ⟨c, hc⟩ := own_typed hr.2.2.2 k hk
    exact (r.2.2.2.2.1 _ _ hc rfl (ho _ (Or.inr (Or.inr hk)))).trans hc.symm
theorem JSame {w : World} {A A' : Option Addr} {c c' : Nat} {l : List QJour.S62} (h : Kd.C QJour.k62 w A l.length l) (hc : l.length ≤ c) (h' : Kd.C QJour.k62 w A' l.length l) (hc' : l.length ≤ c') (hl : l.length ≤ 1000000000000000000) :
    Calls Try.prog 18 #[.slice A l.length c, .slice A' l.length c'] w fun e w' => e = .returned (.bool true) ∧ Below w.heap.size w w' := by
  refine (QJour.aumbryref09_SamePages.calls (l.length + 1) A c l A' c' l true w h hc h' hc' ?_).mono ?_
  · unfold QJour.aumbryref09_SamePages.f
    rw [if_pos rfl]
    exact QJour.samepages_l0 l hl l.length _ 0 (by omega) (by omega)
  · rintro e w' ⟨rfl, ⟨nd, rfl⟩⟩
    exact ⟨rfl, pw_below_drewN (Below.refl _ _) _⟩
end Go.Proofs.Ytgageigcjeaenaa.Disk
namespace Go.Proofs.Ytgageigcjeaenaa.Disk
open Go.RowKit Go.Proofs.YtgageigcjeaenaaW.PrintWords Go.Proofs.YtgageigcjeaenaaW.PrintLast Go.Proofs.YtgageigcjeaenaaW.PrintMore Go.Proofs.Ytgageigcjeaenaa.MixBase Go.Proofs.Ytgageigcjeaenaa.MixPlain Go.Proofs.Ytgageigcjeaenaa.NumBase Go.Proofs.Ytgageigcjeaenaa.PadPlain
attribute [local go_sem] max2_int min2_int max_two min_two max_three min_three max_four min_four
set_option linter.unusedVariables false
set_option linter.unusedSimpArgs false
theorem C_moved {w w' : World} {S : Nat → Prop} {a : Option Addr} {n : Nat} {l : List QJour.S62} (h : Kd.C QJour.k62 w a n l) (hm : Moved w w' S) (hn : ∀ ad, a = some ad → ¬ S ad.block) : Kd.C QJour.k62 w' a n l :=
  ⟨h.1, h.2.1, fun hp => by
    obtain ⟨ad, e, hc⟩ := h.2.2 hp
    exact ⟨ad, e, fun j p hp => by
      obtain ⟨c, h1, h2, h3⟩ := hc j p hp
      exact ⟨c, h1, h2, fun i u hu => hm.cell (a := ad.add (j * 2 + i)) (h3 i u hu) (by rw [add_block]; exact hn ad e)⟩⟩⟩
/-- Both disks done, and both rows of pages as they were. -/
def Fin (W w : World) (g : Nat) (vb vl : Value) (h : Nat) (ub ul : Value) (D : Dk) (A3 A : Option Addr) (l : List QJour.S62) : Prop := St W w g vb vl D ∧ RSt W w h ub ul D ∧ Kd.C QJour.k62 w A3 l.length l ∧ Kd.C QJour.k62 w A l.length l
theorem Fin.below {W w w' : World} {g h : Nat} {vb vl ub ul : Value} {D : Dk} {A3 A : Option Addr} {l : List QJour.S62} (f : Fin W w g vb vl h ub ul D A3 A l) (hb : Below w.heap.size w w') : Fin W w' g vb vl h ub ul D A3 A l := ⟨f.1.below hb, f.2.1.below hb, Kd.C_below f.2.2.1 hb, Kd.C_below f.2.2.2 hb⟩
set_option maxRecDepth 100000 in
set_option maxHeartbeats 4000000 in
theorem JournalCommits_walk (a : Int) (A : Option Addr) (c : Nat) (l : List QJour.S62) (cut : Int) (W : World) (_ : (Lit.int .i64 a).wf = true) (hC : Kd.C QJour.k62 W A l.length l) (hc : l.length ≤ c) (hl : l.length * 24 ≤ 140737488351232) (_ : (Lit.int .i64 cut).wf = true) :
    Calls Try.prog 4 #[.int .i64 a, .slice A l.length c, .int .i64 cut] W fun e w' => e = .returned (.bool true) ∧ Below W.heap.size W w' := by
  have hu39 := Try.underlying39
  obtain ⟨n, h1, h2, hn⟩ := size_nat a
  obtain ⟨m, fi, cp, r0, k, hfi, hm, hcp0, hcp1, eP, ePg, eC, eX, eM, eW⟩ := ready n h1 (by omega) l
  have hcpy : QJour.aumbryref09_CopyPages.f l = some l := by
    unfold QJour.aumbryref09_CopyPages.f
    rw [if_pos (by show 0 + l.length < _; omega)]
    rfl
  obtain ⟨D0, hD0⟩ : ∃ D0, D0 = cutD (newD n) cut := ⟨_, rfl⟩
  have hDn : D0.blocks.length = n := by rw [hD0]; exact wk_len n
  have hDl : D0.log.length = 0 := by rw [hD0]; rfl
  obtain ⟨cm, hcm⟩ : ∃ cm, cm = commitD m (pgF fi m) cp l (QJour.listS l) (QJour.topS l) D0 := ⟨_, rfl⟩
  obtain ⟨ws, hws⟩ : ∃ ws, ws = (if l.length = 0 then [] else wrS cp l) := ⟨_, rfl⟩
  have hcl : cm.1.log.length ≤ 1000000 ∧ cm.1.blocks.length = n := by
    have hbl : ∀ (xs : List Pg) (d : Dk), (doW d xs).1.blocks.length = d.blocks.length := by
      intro xs
      induction xs with
      | nil => intro d; rfl
      | cons p xs ih =>
        intro d
        by_cases hc : (writeD d p.at_ p.data).2 = 0
        · have e1 : doW d (p :: xs) = doW (writeD d p.at_ p.data).1 xs := if_pos hc
          rw [e1, ih, (write_len d p.at_ p.data).2]
        · have e1 : doW d (p :: xs) = writeD d p.at_ p.data := if_neg hc
          rw [e1, (write_len d p.at_ p.data).2]
    rw [hcm]
    unfold commitD
    split
    · exact ⟨by rw [hDl]; exact Nat.zero_le _, hDn⟩
    · rename_i hnn
      have h0 : mayS m (pgF fi m) l = 0 := by
        rcases Int.decEq (mayS m (pgF fi m) l) 0 with e | e
        · exact absurd (Or.inl e) hnn
        · exact e
      have h5 := (eW h0).2.1
      have h6 := doW_log (allW cp l (QJour.listS l) (QJour.topS l)) D0
      have h7 : (allW cp l (QJour.listS l) (QJour.topS l)).length = (wrS cp l).length := by rw [← wrS_map, List.length_map]
      rw [if_neg (fun e => hnn (Or.inr e))] at h5
      exact ⟨by omega, by rw [hbl]; exact hDn⟩
  have HC := Aside0.mk hC
  have HCP := Aside0.mk hcpy
  have HN := Aside0.mk hn
  have HK := Aside0.mk (fun (W w : World) (g : Nat) (vb vl : Value) (A3 : Option Addr) (c3 : Nat) (h : St W w g vb vl D0) (hC : Kd.C QJour.k62 w A3 l.length l) (hlc : l.length ≤ c3) (hro : OffRow g w A3) =>
    Commit_calls (k := k) (m := m) (cp := cp) (pg := pgF fi m) (lst := QJour.listS l) (tp := QJour.topS l) h hC hlc hro (by omega) (by rw [hDn]; exact eP) (fun a => by rw [hDn]; exact ePg a) (fun a => pgF_wf hfi a) zW (by rw [hDn]; exact eC) hcp0 hcp1 (fun h3 _ => by rw [hDl]; exact eX h3))
  have HRK := Aside0.mk (fun (W w : World) (h : Nat) (ub ul : Value) (hs : RSt W w h ub ul D0) (hC : Kd.C QJour.k62 w A l.length l) =>
    RefCommit_calls (k := k) (c := c) (ws := ws) (r := mayS m (pgF fi m) l) hs hC hc (by rw [hDn]; exact eM) (fun h3 => by rw [hws, hDn, hDl]; exact eW h3))
  have HSM := Aside0.mk (commit_same m cp (pgF fi m) l D0)
  rw [← hws, ← hcm] at HSM
  rw [← hcm] at HK
  have HD0 := Aside0.mk hD0
  have HCL := Aside0.mk hcl
  have HL := Aside0.mk hl
  clear hC hcpy hn eP ePg eC eX eM eW hcm hws hDn hDl hcl hD0 hl hfi hm hcp0 hcp1
  go_enter Try.func4, Try.ntmps4
  go_wp2_with (first
    | (go_at_call 12; refine (jwakes_calls _).mono ?_; rintro e w1 ⟨rfl, hb⟩; have B1 := Aside0.mk hb; clear hb)
    | (go_at_call 13; refine (laid_nil a n w1 h1 h2 HN.out).mono ?_; rintro e w2 ⟨g, vb, h, ub, rfl, ht⟩; have T2 := Aside0.mk ht; clear ht)
    | (go_at_call 14; refine (Cut_two cut T2.out).mono ?_; rintro e w3 ⟨rfl, ht, _⟩; have T3 := Aside0.mk ht; clear ht T2)
    | (go_at_call 15; refine (RefCut_half cut T3.out).mono ?_; rintro e w4 ⟨rfl, ht⟩; rw [← HD0.out] at ht; have T4 := Aside0.mk ht; clear ht T3)
    | (go_at_call 20; refine (QJour.aumbryref09_CopyPages.calls A c l l _ (Kd.C_below HC.out (below_step B1.out T4.out.1.2)) hc HCP.out).mono ?_; rintro e w5 ⟨v, rfl, hR, hb⟩; obtain ⟨A3, c3, rfl, hc3, hC3⟩ := Kd.R_reads hR; have T5 := Aside0.mk (T4.out.below hb); have C5 := Aside0.mk hC3; have X5 := Aside0.mk (fun ad (e : A3 = some ad) => (by subst e; have q1 := ((Kd.R_bound hR).1 ad.block rfl).2; exact ⟨q1.1, q1.2.1⟩ : w4.heap.size ≤ ad.block ∧ ad.block < w5.heap.size)); clear hR hC3)
    | (go_at_call 21; refine (HK.out w1 w5 g vb (.slice none 0 0) A3 c3 T5.out.1 C5.out hc3 (fun ad e => ⟨fun hf => by have q1 := (T4.out.1.foot ((T5.out.1.1.footOf _).1 hf)).2; have q2 := (X5.out ad e).1; omega, (X5.out ad e).2⟩)).mono ?_; rintro e w6 ⟨vl', rfl, s1, s2, s3⟩; have S6 := Aside0.mk s1; have R6 : Aside0 (RSt w1 w6 h ub (.slice none 0 0) D0) := ⟨⟨T5.out.2.1.1.rd (fun k hk hf => T5.out.2.2 k ((T5.out.1.1.footOf k).1 hf) hk) s3, s1.2⟩⟩; have C6 := Aside0.mk (C_rd C5.out (fun ad e => ⟨fun hf => by have q1 := (T4.out.1.foot ((T5.out.1.1.footOf _).1 hf)).2; have q2 := (X5.out ad e).1; omega, (X5.out ad e).2⟩) s3); have P6 : Aside0 (∀ k, Foot g vb vl' k → ¬ Foot h ub (.slice none 0 0) k) := ⟨fun k hk hk' => by rcases s2 k hk with q | q; exact T5.out.2.2 k q hk'; have := (T5.out.2.1.foot hk').2; omega⟩; clear s1 s2 s3)
    | (go_at_call 22; refine (HRK.out w1 w6 h ub (.slice none 0 0) R6.out (Kd.C_below HC.out (below_step B1.out R6.out.2))).mono ?_; rintro e w7 ⟨ul', rfl, s1, s3⟩; rw [HSM.out] at s1 ⊢; have F7 : Aside0 (Fin w1 w7 g vb vl' h ub ul' cm.1 A3 A l) := ⟨⟨S6.out.moved s3 (fun k hk => P6.out k hk) (fun k _ hk => (R6.out.foot hk).1), s1, C_moved C6.out s3 (fun ad e hf => by have q1 := (T4.out.2.1.foot hf).2; have q2 := (X5.out ad e).1; omega), Kd.C_below HC.out (below_step B1.out s1.2)⟩⟩; clear s1 s3))
  obtain ⟨Au, cu, eu, _⟩ := own_slice F7.out.2.1.1.2.2.1
  obtain ⟨Al, cl, el, _⟩ := own_slice F7.out.2.1.1.2.2.2
  subst eu el
  have HLg : Aside0 (cm.1.log.length * 24 ≤ 140737488355328) := ⟨by have := HCL.out.1; omega⟩
  have HLg2 : Aside0 (cm.1.log.length ≤ 1000000000000000000) := ⟨by have := HCL.out.1; omega⟩
  have HBk : Aside0 (cm.1.blocks.length * 16 ≤ 140737488355328) := ⟨by rw [HCL.out.2]; omega⟩
  have HBk2 : Aside0 (cm.1.blocks.length ≤ 1000000000000000000) := ⟨by rw [HCL.out.2]; omega⟩
  have HLL : Aside0 (l.length ≤ 1000000000000000000) := ⟨by have := HL.out; omega⟩
  have T3 := Aside0.mk (F7.out.below (below_drew1 (Below.refl w7.heap.size w7)))
  have HC3 := Aside0.mk hc3
  have HCc := Aside0.mk hc
  clear F7 P6 C6 R6 S6 X5 C5 T5 T4 HSM HRK HK HD0 HCL HCP HN HL hc3 hc h1 h2
  go_wp2
  go_region_held3 (fun w' => w'.cell? ⟨h, 1, none⟩ = some (.slice Al cm.1.log.length cl) ∧ w'.cell? ⟨h, 0, none⟩ = some (.slice Au cm.1.blocks.length cu) ∧ w'.cell? ⟨h, 4, none⟩ = some (.bool cm.1.down)) (first | exact ⟨(blk_cell T3.out.2.1.1.2.1 1).trans rfl, (blk_cell T3.out.2.1.1.2.1 0).trans rfl, (blk_cell T3.out.2.1.1.2.1 4).trans rfl⟩) (first
    | (go_at_call 19; refine (Log_calls T3.out.1.1 HLg.out).mono ?_; rintro e w8 ⟨v1, rfl, ho, hb⟩; have HG := Aside0.mk ho; have n1 := Aside0.mk (T3.out.below hb); clear T3; have T3 := n1; clear n1 ho hb)
    | (go_at_call 18; have q0 := HG; refine (SamePages_true HG.out T3.out.2.1.1.2.2.2 HLg2.out).mono ?_; rintro e w9 ⟨rfl, hb⟩; have n1 := Aside0.mk (T3.out.below hb); clear T3; have T3 := n1; clear n1 hb q0 HG)
    | (go_at_call 18; refine (JSame T3.out.2.2.1 HC3.out T3.out.2.2.2 HCc.out HLL.out).mono ?_; rintro e w9 ⟨rfl, hb⟩; have n1 := Aside0.mk (T3.out.below hb); clear T3; have T3 := n1; clear n1 hb)
    | (go_at_call 24; refine (Image_calls T3.out.1.1 HBk.out).mono ?_; rintro e w6 ⟨v2, rfl, ho, hb⟩; have HI := Aside0.mk ho; have n1 := Aside0.mk (T3.out.below hb); clear T3; have T3 := n1; clear n1 ho hb)
    | (go_at_call 23; refine (Same_true HI.out T3.out.2.1.1.2.2.1 HBk2.out).mono ?_; rintro e w7 ⟨rfl, hb⟩; have n1 := Aside0.mk (T3.out.below hb); clear T3; have T3 := n1; clear n1 hb)
    | (go_at_call 25; refine (Down_calls T3.out.1.1).mono ?_; rintro e w7 ⟨rfl, hw⟩; obtain rfl := hw.symm))
  go_wp2
  go_ret
  exact ⟨by first | rfl | simp, below_step B1.out T3.out.1.2⟩
end Go.Proofs.Ytgageigcjeaenaa.Disk
