/- Plain facts about lists of entries and their pages, and what the printed functions of the leaf come to. No condition beside lists shorter than 2^42. -/
import Derived.Test.YtdieanikopjbjaaQLeafCx1
import Derived.Test.YtdieanikopjbjaaQLeafCx2
import Derived.Test.YtdieanikopjbjaaQLeafCx3
import Derived.Test.YtdieanikopjbjaaQLeafCx4
import Derived.Test.YtdieanikopjbjaaQLeafCx5
import Derived.Test.YtdieanikopjbjaaQLeafCx6
import Derived.Test.YtdieanikopjbjaaQLeafCx7
import Derived.Test.YtdieanikopjbjaaPadPlain
namespace Go.Proofs.Ytdieanikopjbjaa.QLeafC
open Go.RowKit Go.Proofs.YtdieanikopjbjaaW.PrintWords Go.Proofs.YtdieanikopjbjaaW.PrintLast Go.Proofs.YtdieanikopjbjaaW.PrintMore Go.Proofs.Ytdieanikopjbjaa.MixBase Go.Proofs.Ytdieanikopjbjaa.MixPlain Go.Proofs.Ytdieanikopjbjaa.NumBase Go.Proofs.Ytdieanikopjbjaa.PadPlain

theorem repeat_f (m : Nat) (h : m ≤ 65536) : strings_Repeat.f (⟨#[0]⟩ : ByteArray) (m : Int) = some (zeros m) := by
  unfold strings_Repeat.f
  rw [if_pos (by omega), if_pos (by omega), if_pos (by simp [ByteArray.size]; omega), show ((m : Int)).toNat = m by omega, repeat_zeros]
theorem num_pad_ev (s : ByteArray) (hs : (s.size : Int) ≤ 140737488351232) (n : Int) : Ev (fun k => num_Pad.f k s n) (padSpec s n) := by
  unfold num_Pad.f padSpec
  by_cases h : n < 0
  · simp only [h, if_true, true_or]
    refine Ev.step (f := fun _ => some (⟨#[]⟩, 1)) (fun k => ?_) (Ev.now _)
    simp only [num_Pad.j0, if_true]
  · simp only [h, if_false, false_or]
    by_cases h1 : 65536 < n
    · simp only [show (n > 65536) = True from eq_true h1, decide_true, if_true]
      refine Ev.step (f := fun _ => some (⟨#[]⟩, 1)) (fun k => ?_) (Ev.now _)
      simp only [num_Pad.j0, if_true]
    · simp only [show (n > 65536) = False from eq_false h1, decide_false, if_false]
      by_cases h2 : n < (s.size : Int)
      · rw [if_pos h2]
        refine Ev.step (f := fun _ => some (⟨#[]⟩, 2)) (fun k => ?_) (Ev.now _)
        simp only [num_Pad.j0]
        rw [if_neg (by decide), if_pos h2]
      · rw [if_neg h2]
        obtain ⟨m, rfl⟩ : ∃ m : Nat, n = (s.size : Int) + m := ⟨(n - s.size).toNat, by omega⟩
        rw [show ((s.size : Int) + m - s.size).toNat = m by omega]
        refine Ev.step (f := fun _ => some (s ++ zeros m, 0)) (fun k => ?_) (Ev.now _)
        simp only [num_Pad.j0]
        rw [if_neg (by decide), if_neg (by omega), wrap64_small (by omega) (by omega), show (s.size : Int) + m - s.size = m by omega, repeat_f m (by omega)]
        simp only [Option.bind_some]
        rw [zeros_size, if_pos (by omega)]
/-- How many bytes an entry takes; a list's entries together. -/
def elen (x : S78) : Nat := 2 + x.f0.size + x.f1.size
def tot (l : List S78) : Nat := (l.map elen).sum
theorem tot_cons (x : S78) (l : List S78) : tot (x :: l) = elen x + tot l := by simp [tot]
theorem tot_nil : tot [] = 0 := rfl
/-- An entry's bytes; a list's. -/
def entBytes (x : S78) : List Int := [(x.f0.size : Int) % 256] ++ bytesOf x.f0 ++ [(x.f1.size : Int) % 256] ++ bytesOf x.f1
def flat : List S78 → List Int
  | [] => []
  | x :: l => entBytes x ++ flat l
theorem entBytes_length (x : S78) : (entBytes x).length = elen x := by
  unfold entBytes elen
  simp only [List.length_append, List.length_cons, List.length_nil, bytesOf_length]
  omega
theorem flat_length (l : List S78) : (flat l).length = tot l := by
  induction l with
  | nil => rfl
  | cons x l ih => rw [flat, List.length_append, entBytes_length, ih, tot_cons]
theorem entBytes_range (x : S78) : ∀ c ∈ entBytes x, 0 ≤ c ∧ c < 256 := by
  intro c h
  unfold entBytes at h
  simp only [List.mem_append, List.mem_cons, List.not_mem_nil, or_false] at h
  rcases h with ((h | h) | h) | h
  · omega
  · exact bytesOf_range _ c h
  · omega
  · exact bytesOf_range _ c h
theorem flat_range (l : List S78) : ∀ c ∈ flat l, 0 ≤ c ∧ c < 256 := by
  induction l with
  | nil => intro c h; simp [flat] at h
  | cons x l ih =>
    intro c h
    rw [flat, List.mem_append] at h
    rcases h with h | h
    · exact entBytes_range x c h
    · exact ih c h
theorem drop_rd (l : List S78) (i : Nat) (h : i < l.length) : l.drop i = rd_T78 l (i : Int) :: l.drop (i + 1) := by
  rw [List.drop_eq_getElem_cons h]
  congr 1
  rw [rd_T78, List.getD_eq_getElem?_getD, show ((i : Int)).toNat = i by omega, List.getElem?_eq_getElem h]
  rfl
/-- Why what stands from a place on isn't right: 0, where it is. -/
def rightFrom : Option ByteArray → List S78 → Int
  | _, [] => 0
  | p, x :: l => if x.f0.size > 32 ∨ x.f1.size > 64 then 2 else if (∃ q, p = some q ∧ ¬ Op.bytesLess q.toList x.f0.toList = true) then 19 else rightFrom (some x.f0) l
def prevOf (l : List S78) (i : Nat) : Option ByteArray := if i = 0 then none else some (rd_T78 l ((i : Int) - 1)).f0
theorem prevOf_succ (l : List S78) (i : Nat) : prevOf l (i + 1) = some (rd_T78 l (i : Int)).f0 := by
  unfold prevOf
  rw [if_neg (by omega), show ((i + 1 : Nat) : Int) - 1 = (i : Int) by omega]
theorem right_tot (p : Option ByteArray) (l : List S78) (h : rightFrom p l = 0) : tot l ≤ 98 * l.length := by
  induction l generalizing p with
  | nil => exact Nat.le_refl _
  | cons x l ih =>
    rw [rightFrom] at h
    split at h
    · exact absurd h (by decide)
    · rename_i h1
      split at h
      · exact absurd h (by decide)
      · have := ih _ h
        rw [tot_cons, List.length_cons]
        unfold elen
        omega
theorem tot_ge (l : List S78) : 2 * l.length ≤ tot l := by
  induction l with
  | nil => exact Nat.le_refl _
  | cons x l ih =>
    rw [tot_cons, List.length_cons]
    unfold elen
    omega
/-- A page's numbers; the page. -/
def pageNums (a : Int) (l : List S78) : List Int := [a % 256, (l.length : Int) % 256] ++ flat l
def page (a : Int) (l : List S78) : ByteArray := strOfNums (pageNums a l) ++ zeros (256 - (2 + tot l))
theorem pageNums_length (a : Int) (l : List S78) : (pageNums a l).length = 2 + tot l := by
  unfold pageNums
  rw [List.length_append, flat_length]
  rfl
theorem pageNums_range (a : Int) (l : List S78) : ∀ c ∈ pageNums a l, 0 ≤ c ∧ c < 256 := by
  intro c h
  unfold pageNums at h
  simp only [List.mem_append, List.mem_cons, List.not_mem_nil, or_false] at h
  rcases h with (h | h) | h
  · omega
  · omega
  · exact flat_range l c h
def packTail (a : Int) (l : List S78) : ByteArray × Int := if 2 + tot l > 256 then (⟨#[]⟩, 16) else (page a l, 0)
def packSpec (a : Int) (l : List S78) : ByteArray × Int :=
  if a = 1 ∨ a = 2 then (if rightFrom none l = 0 then packTail a l else (⟨#[]⟩, rightFrom none l)) else (⟨#[]⟩, 1)
theorem wrap_wrap (a b : Int) : wrap64 (wrap64 a + b) = wrap64 (a + b) := by
  unfold wrap64
  omega
theorem wrap_wrap' (a b : Int) : wrap64 (a + wrap64 b) = wrap64 (a + b) := by
  unfold wrap64
  omega
theorem size_l0 (l : List S78) (hl : l.length < 4398046511104) (d : Nat) : ∀ (i : Nat) (c : Int), i ≤ l.length → l.length - i = d →
    Ev (fun k => leaf_Size.l0 k (wrap64 c) l (l.length : Int) (i : Int)) (wrap64 (c + tot (l.drop i))) := by
  induction d with
  | zero =>
    intro i c hi hd
    refine Ev.step (f := fun _ => some (wrap64 (c + tot (l.drop i)))) (fun k => ?_) (Ev.now _)
    simp only [leaf_Size.l0]
    rw [if_neg (by omega), List.drop_eq_nil_of_le (by omega), tot_nil, Int.natCast_zero, Int.add_zero]
  | succ d ih =>
    intro i c hi hd
    refine Ev.step (f := fun k => leaf_Size.l0 k (wrap64 (c + elen (rd_T78 l (i : Int)))) l (l.length : Int) ((i + 1 : Nat) : Int)) (fun k => ?_) ?_
    · simp only [leaf_Size.l0]
      have e : wrap64 (wrap64 c + wrap64 (wrap64 (2 + ((rd_T78 l (i : Int)).f0.size : Int)) + ((rd_T78 l (i : Int)).f1.size : Int))) = wrap64 (c + elen (rd_T78 l (i : Int))) := by
        rw [wrap_wrap (2 + _) _, wrap_wrap c _, wrap_wrap' c _]
        rfl
      rw [if_pos (by omega), if_pos (by omega), if_pos (by omega), wrap64_small (i := (i : Int) + 1) (by omega) (by omega), e]
      rfl
    · have h := ih (i + 1) (c + elen (rd_T78 l (i : Int))) (by omega) (by omega)
      rw [drop_rd l i (by omega), tot_cons, show c + ((elen (rd_T78 l (i : Int)) + tot (l.drop (i + 1)) : Nat) : Int) = c + elen (rd_T78 l (i : Int)) + tot (l.drop (i + 1)) by omega]
      exact h
theorem size_ev (l : List S78) (hl : l.length < 4398046511104) : Ev (fun k => leaf_Size.f k l) (wrap64 (2 + tot l)) := by
  unfold leaf_Size.f
  have h := size_l0 l hl l.length 0 2 (by omega) (by omega)
  rw [List.drop_zero, wrap64_small (i := 2) (by omega) (by omega)] at h
  exact h
theorem pack_l1 (l : List S78) (hl : l.length < 4398046511104) (d : Nat) : ∀ (i : Nat) (x : List Int), i ≤ l.length → l.length - i = d → x.length + tot (l.drop i) ≤ 256 →
    Ev (fun k => leaf_Pack.l1 k x l (l.length : Int) (i : Int)) (padSpec (strOfNums (x ++ flat (l.drop i))) 256) := by
  induction d with
  | zero =>
    intro i x hi hd hx
    refine Ev.step (f := fun k => (num_Pad.f k (strOfNums x) 256).bind fun b => some (b.1, b.2)) (fun k => ?_) ?_
    · simp only [leaf_Pack.l1]
      rw [if_neg (by omega)]
    · rw [List.drop_eq_nil_of_le (by omega), flat, List.append_nil]
      exact Ev.bind (num_pad_ev (strOfNums x) (by rw [strOfNums_size]; omega) 256) (Ev.now _)
  | succ d ih =>
    intro i x hi hd hx
    rw [drop_rd l i (by omega), tot_cons] at hx
    refine Ev.step (f := fun k => leaf_Pack.l1 k (x ++ entBytes (rd_T78 l (i : Int))) l (l.length : Int) ((i + 1 : Nat) : Int)) (fun k => ?_) ?_
    · simp only [leaf_Pack.l1]
      unfold elen at hx
      rw [if_pos (by omega), if_pos (by omega), if_pos (by omega), if_pos (by omega)]
      simp only [Option.bind_some, List.length_append, List.length_cons, List.length_nil, bytesOf_length]
      rw [if_pos (by omega), if_pos (by omega), if_pos (by omega), wrap64_small (i := (i : Int) + 1) (by omega) (by omega)]
      unfold entBytes
      simp only [List.append_assoc]
      rfl
    · have h := ih (i + 1) (x ++ entBytes (rd_T78 l (i : Int))) (by omega) (by omega) (by rw [List.length_append, entBytes_length]; omega)
      rw [drop_rd l i (by omega), flat, ← List.append_assoc]
      exact h
theorem pack_l0 (a : Int) (l : List S78) (hl : l.length < 4398046511104) (R : ByteArray × Int) (hR : rightFrom none l = 0 → Ev (fun k => leaf_Pack.l0 k a l l (l.length : Int) (l.length : Int)) R) (d : Nat) : ∀ (i : Nat), i ≤ l.length → l.length - i = d → rightFrom none l = rightFrom (prevOf l i) (l.drop i) →
    Ev (fun k => leaf_Pack.l0 k a l l (l.length : Int) (i : Int)) (if rightFrom none l = 0 then R else (⟨#[]⟩, rightFrom none l)) := by
  induction d with
  | zero =>
    intro i hi hd he
    obtain rfl : i = l.length := by omega
    rw [List.drop_eq_nil_of_le (by omega), rightFrom] at he
    rw [if_pos he]
    exact hR he
  | succ d ih =>
    intro i hi hd he
    have hlt : (i : Int) < (l.length : Int) := by omega
    rw [drop_rd l i (by omega), rightFrom] at he
    have hn := ih (i + 1) (by omega) (by omega)
    rw [prevOf_succ] at hn
    by_cases h1 : (rd_T78 l (i : Int)).f0.size > 32
    · rw [if_pos (.inl h1)] at he
      rw [he, if_neg (by decide)]
      refine Ev.step (f := fun k => leaf_Pack.j2 k a l (i : Int) l (l.length : Int) (i : Int) true (rd_T78 l (i : Int)).f0 (rd_T78 l (i : Int)).f1) (fun k => ?_) (Ev.step (f := fun _ => some (⟨#[]⟩, 2)) (fun k => ?_) (Ev.now _))
      · simp only [leaf_Pack.l0]
        rw [if_pos hlt, if_pos (by omega), if_pos hlt, if_pos (by omega)]
      · simp only [leaf_Pack.j2, if_true]
    · by_cases h2 : (rd_T78 l (i : Int)).f1.size > 64
      · rw [if_pos (.inr h2)] at he
        rw [he, if_neg (by decide)]
        refine Ev.step (f := fun k => leaf_Pack.j2 k a l (i : Int) l (l.length : Int) (i : Int) true (rd_T78 l (i : Int)).f0 (rd_T78 l (i : Int)).f1) (fun k => ?_) (Ev.step (f := fun _ => some (⟨#[]⟩, 2)) (fun k => ?_) (Ev.now _))
        · simp only [leaf_Pack.l0]
          rw [if_pos hlt, if_pos (by omega), if_pos hlt, if_neg (by omega), decide_eq_true (by omega)]
        · simp only [leaf_Pack.j2, if_true]
      · rw [if_neg (by omega)] at he
        refine Ev.step (f := fun k => leaf_Pack.j2 k a l (i : Int) l (l.length : Int) (i : Int) false (rd_T78 l (i : Int)).f0 (rd_T78 l (i : Int)).f1) (fun k => ?_) ?_
        · simp only [leaf_Pack.l0]
          rw [if_pos hlt, if_pos (by omega), if_pos hlt, if_neg (by omega), decide_eq_false (by omega)]
        · by_cases h0 : i = 0
          · subst h0
            rw [if_neg (by rintro ⟨q, hq, _⟩; simp [prevOf] at hq)] at he
            refine Ev.step (f := fun k => leaf_Pack.l0 k a l l (l.length : Int) ((0 + 1 : Nat) : Int)) (fun k => ?_) (hn he)
            simp only [leaf_Pack.j2]
            rw [if_neg (by decide), if_neg (by omega), wrap64_small (by omega) (by omega)]
            rfl
          · have hp : prevOf l i = some (rd_T78 l ((i : Int) - 1)).f0 := by unfold prevOf; rw [if_neg h0]
            rw [hp] at he
            by_cases h3 : Op.bytesLess (rd_T78 l ((i : Int) - 1)).f0.toList (rd_T78 l (i : Int)).f0.toList = true
            · rw [if_neg (by rintro ⟨q, hq, hb⟩; injection hq with hq; rw [← hq] at hb; exact hb h3)] at he
              refine Ev.step (f := fun k => leaf_Pack.l0 k a l l (l.length : Int) ((i + 1 : Nat) : Int)) (fun k => ?_) (hn he)
              simp only [leaf_Pack.j2]
              rw [if_neg (by decide), if_pos (by omega), wrap64_small (i := (i : Int) - 1) (by omega) (by omega), if_pos (by omega), if_pos (by omega), if_pos h3, wrap64_small (by omega) (by omega)]
              rfl
            · rw [if_pos ⟨_, rfl, h3⟩] at he
              rw [he, if_neg (by decide)]
              refine Ev.step (f := fun _ => some (⟨#[]⟩, 19)) (fun k => ?_) (Ev.now _)
              simp only [leaf_Pack.j2]
              rw [if_neg (by decide), if_pos (by omega), wrap64_small (i := (i : Int) - 1) (by omega) (by omega), if_pos (by omega), if_pos (by omega), if_neg h3]
theorem pack_ev (a : Int) (l : List S78) (hl : l.length < 4398046511104) : Ev (fun k => leaf_Pack.f k a l) (packSpec a l) := by
  have hend : rightFrom none l = 0 → Ev (fun k => leaf_Pack.l0 k a l l (l.length : Int) (l.length : Int)) (packTail a l) := by
    intro h
    have ht := right_tot none l h
    refine Ev.step (f := fun k => (leaf_Size.f k l).bind fun t => if t > 256 then some ((⟨#[]⟩ : ByteArray), 16) else leaf_Pack.l1 k ([a % 256, (l.length : Int) % 256] : List Int) l (l.length : Int) 0) (fun k => ?_) (Ev.bind (size_ev l hl) ?_)
    · simp only [leaf_Pack.l0]
      rw [if_neg (by omega)]
    · rw [wrap64_small (by omega) (by omega)]
      unfold packTail
      by_cases h5 : 2 + tot l > 256
      · rw [if_pos h5]
        simp only [show (2 + (tot l : Int) > 256) = True from eq_true (by omega), if_true]
        exact Ev.now _
      · rw [if_neg h5]
        simp only [show (2 + (tot l : Int) > 256) = False from eq_false (by omega), if_false]
        have h := pack_l1 l hl l.length 0 [a % 256, (l.length : Int) % 256] (by omega) (by omega) (by simp; omega)
        rw [List.drop_zero] at h
        have e : padSpec (strOfNums ([a % 256, (l.length : Int) % 256] ++ flat l)) 256 = (page a l, 0) := by
          have hz : (strOfNums ([a % 256, (l.length : Int) % 256] ++ flat l)).size = 2 + tot l := by rw [strOfNums_size, ← pageNums_length a l]; rfl
          unfold padSpec
          rw [if_neg (by omega), hz, if_neg (by omega)]
          unfold page
          rw [show ((256 : Int) - ((2 + tot l : Nat) : Int)).toNat = 256 - (2 + tot l) by omega]
          rfl
        rw [e] at h
        exact h
  have hl0 := pack_l0 a l hl (packTail a l) hend l.length 0 (by omega) (by omega) (by rw [List.drop_zero]; rfl)
  have hj : ∀ b, b = false → Ev (fun k => leaf_Pack.j0 k a l b) (if rightFrom none l = 0 then packTail a l else (⟨#[]⟩, rightFrom none l)) := by
    rintro b rfl
    refine Ev.step (fun k => ?_) hl0
    simp only [leaf_Pack.j0]
    rw [if_neg (by decide)]
    rfl
  unfold leaf_Pack.f packSpec
  by_cases h1 : a = 1
  · simp only [h1, if_true, true_or]
    rw [h1] at hj
    exact hj false rfl
  · by_cases h2 : a = 2
    · have e : (a != 2) = false := by rw [h2]; rfl
      rw [if_pos (.inr h2)]
      simp only [h1, if_false]
      exact hj _ e
    · have e : (a != 2) = true := by rw [bne_iff_ne]; exact h2
      rw [if_neg (by omega)]
      simp only [h1, if_false, e]
      refine Ev.step (f := fun _ => some (⟨#[]⟩, 1)) (fun k => ?_) (Ev.now _)
      simp only [leaf_Pack.j0, if_true]
theorem refsize_l0 (l : List S78) (hl : l.length < 4398046511104) (d : Nat) : ∀ (i : Nat) (c : Int), i ≤ l.length → l.length - i = d →
    Ev (fun k => aumbryref13_Size.l0 k l (wrap64 c) (l.length : Int) (i : Int)) (wrap64 (c + tot (l.drop i))) := by
  induction d with
  | zero =>
    intro i c hi hd
    refine Ev.step (f := fun _ => some (wrap64 (c + tot (l.drop i)))) (fun k => ?_) (Ev.now _)
    simp only [aumbryref13_Size.l0]
    rw [if_neg (by omega), List.drop_eq_nil_of_le (by omega), tot_nil, Int.natCast_zero, Int.add_zero]
  | succ d ih =>
    intro i c hi hd
    refine Ev.step (f := fun k => aumbryref13_Size.l0 k l (wrap64 (c + elen (rd_T78 l (i : Int)))) (l.length : Int) ((i + 1 : Nat) : Int)) (fun k => ?_) ?_
    · simp only [aumbryref13_Size.l0]
      have e : wrap64 (wrap64 c + wrap64 (wrap64 (((rd_T78 l (i : Int)).f0.size : Int) + ((rd_T78 l (i : Int)).f1.size : Int)) + 2)) = wrap64 (c + elen (rd_T78 l (i : Int))) := by
        rw [wrap_wrap (((rd_T78 l (i : Int)).f0.size : Int) + ((rd_T78 l (i : Int)).f1.size : Int)) 2, wrap_wrap c _, wrap_wrap' c _]
        congr 1
        unfold elen
        omega
      rw [if_pos (by omega), if_pos (by omega), if_pos (by omega), wrap64_small (i := (i : Int) + 1) (by omega) (by omega), e]
      rfl
    · have h := ih (i + 1) (c + elen (rd_T78 l (i : Int))) (by omega) (by omega)
      rw [drop_rd l i (by omega), tot_cons, show c + ((elen (rd_T78 l (i : Int)) + tot (l.drop (i + 1)) : Nat) : Int) = c + elen (rd_T78 l (i : Int)) + tot (l.drop (i + 1)) by omega]
      exact h
theorem refsize_ev (l : List S78) (hl : l.length < 4398046511104) : Ev (fun k => aumbryref13_Size.f k l) (wrap64 (2 + tot l)) := by
  unfold aumbryref13_Size.f
  have h := refsize_l0 l hl l.length 0 2 (by omega) (by omega)
  rw [List.drop_zero, wrap64_small (i := 2) (by omega) (by omega)] at h
  exact h
theorem right_l0 (l : List S78) (hl : l.length < 4398046511104) (d : Nat) : ∀ (i : Nat), i ≤ l.length → l.length - i = d →
    Ev (fun k => aumbryref13_Right.l0 k l (l.length : Int) (i : Int)) (rightFrom (prevOf l i) (l.drop i)) := by
  induction d with
  | zero =>
    intro i hi hd
    obtain rfl : i = l.length := by omega
    rw [List.drop_eq_nil_of_le (by omega), rightFrom]
    refine Ev.step (f := fun _ => some 0) (fun k => ?_) (Ev.now _)
    simp only [aumbryref13_Right.l0]
    rw [if_neg (by omega)]
  | succ d ih =>
    intro i hi hd
    have hlt : (i : Int) < (l.length : Int) := by omega
    have hn := ih (i + 1) (by omega) (by omega)
    rw [prevOf_succ] at hn
    rw [drop_rd l i (by omega), rightFrom]
    by_cases h1 : (rd_T78 l (i : Int)).f0.size > 32
    · rw [if_pos (.inl h1)]
      refine Ev.step (f := fun k => aumbryref13_Right.j1 k l (i : Int) (l.length : Int) (i : Int) true) (fun k => ?_) (Ev.step (f := fun _ => some 2) (fun k => ?_) (Ev.now _))
      · simp only [aumbryref13_Right.l0]
        rw [if_pos hlt, if_pos (by omega), if_pos hlt, if_pos (by omega)]
      · simp only [aumbryref13_Right.j1, if_true]
    · by_cases h2 : (rd_T78 l (i : Int)).f1.size > 64
      · rw [if_pos (.inr h2)]
        refine Ev.step (f := fun k => aumbryref13_Right.j1 k l (i : Int) (l.length : Int) (i : Int) true) (fun k => ?_) (Ev.step (f := fun _ => some 2) (fun k => ?_) (Ev.now _))
        · simp only [aumbryref13_Right.l0]
          rw [if_pos hlt, if_pos (by omega), if_pos hlt, if_neg (by omega), decide_eq_true (by omega)]
        · simp only [aumbryref13_Right.j1, if_true]
      · rw [if_neg (by omega)]
        refine Ev.step (f := fun k => aumbryref13_Right.j1 k l (i : Int) (l.length : Int) (i : Int) false) (fun k => ?_) ?_
        · simp only [aumbryref13_Right.l0]
          rw [if_pos hlt, if_pos (by omega), if_pos hlt, if_neg (by omega), decide_eq_false (by omega)]
        · by_cases h0 : i = 0
          · subst h0
            rw [if_neg (by rintro ⟨q, hq, _⟩; simp [prevOf] at hq)]
            refine Ev.step (f := fun k => aumbryref13_Right.l0 k l (l.length : Int) ((0 + 1 : Nat) : Int)) (fun k => ?_) hn
            simp only [aumbryref13_Right.j1]
            rw [if_neg (by decide), if_neg (by omega), wrap64_small (by omega) (by omega)]
            rfl
          · have hp : prevOf l i = some (rd_T78 l ((i : Int) - 1)).f0 := by unfold prevOf; rw [if_neg h0]
            rw [hp]
            by_cases h3 : Op.bytesLess (rd_T78 l ((i : Int) - 1)).f0.toList (rd_T78 l (i : Int)).f0.toList = true
            · rw [if_neg (by rintro ⟨q, hq, hb⟩; injection hq with hq; rw [← hq] at hb; exact hb h3)]
              refine Ev.step (f := fun k => aumbryref13_Right.l0 k l (l.length : Int) ((i + 1 : Nat) : Int)) (fun k => ?_) hn
              simp only [aumbryref13_Right.j1]
              rw [if_neg (by decide), if_pos (by omega), if_pos (by omega), if_pos hlt, wrap64_small (i := (i : Int) - 1) (by omega) (by omega), if_pos (by omega), if_pos (by omega), if_pos h3, wrap64_small (by omega) (by omega)]
              rfl
            · rw [if_pos ⟨_, rfl, h3⟩]
              refine Ev.step (f := fun _ => some 19) (fun k => ?_) (Ev.now _)
              simp only [aumbryref13_Right.j1]
              rw [if_neg (by decide), if_pos (by omega), if_pos (by omega), if_pos hlt, wrap64_small (i := (i : Int) - 1) (by omega) (by omega), if_pos (by omega), if_pos (by omega), if_neg h3]
theorem right_ev (l : List S78) (hl : l.length < 4398046511104) : Ev (fun k => aumbryref13_Right.f k l) (rightFrom none l) := by
  have h := right_l0 l hl l.length 0 (by omega) (by omega)
  rw [List.drop_zero] at h
  exact h
theorem copy_f (l : List S78) (hl : l.length < 4398046511104) : aumbryref13_Copy.f l = some l := by
  unfold aumbryref13_Copy.f
  rw [if_pos (by simpa using hl), List.nil_append]
/-- The text that stands at a place behind its length, and the place behind it. -/
def pieceSpec (s : ByteArray) (at_ : Int) : Option (ByteArray × Int) :=
  if at_ ≥ (s.size : Int) then none else (if at_ + 1 + bt s at_ > (s.size : Int) then none else some (s.extract (at_ + 1).toNat (at_ + 1 + bt s at_).toNat, at_ + 1 + bt s at_))
def parse (s : ByteArray) : Nat → Int → Option (List S78)
  | 0, _ => some []
  | n + 1, at_ => (pieceSpec s at_).bind fun p => (pieceSpec s p.2).bind fun q => (parse s n q.2).map fun l => (⟨p.1, q.1⟩ : S78) :: l
def unpackFin (s : ByteArray) (l : List S78) : Int × List S78 × Int := if (packSpec (bt s 0) l).2 = 0 ∧ (packSpec (bt s 0) l).1.toList = s.toList then (bt s 0, l, 0) else (0, [], 3)
def unpackSpec (s : ByteArray) : Int × List S78 × Int :=
  if s.size = 256 then (match parse s (bt s 1).toNat 2 with | none => (0, [], 3) | some l => unpackFin s l) else (0, [], 3)
theorem pieceSpec_some {s : ByteArray} {at_ : Int} {p : ByteArray × Int} (h0 : 0 ≤ at_) (h : pieceSpec s at_ = some p) : 0 ≤ p.2 ∧ p.2 ≤ s.size := by
  have hb := bt_range s at_
  unfold pieceSpec at h
  split at h
  · cases h
  · split at h
    · cases h
    · injection h with h
      subst h
      simp only
      omega
theorem piece_f (s : ByteArray) (hs : s.size = 256) (at_ : Int) (h0 : 0 ≤ at_) (h1 : at_ ≤ 256) : leaf_piece.f s at_ = some (match pieceSpec s at_ with | none => ((⟨#[]⟩ : ByteArray), 0, false) | some p => (p.1, p.2, true)) := by
  have hb := bt_range s at_
  unfold leaf_piece.f pieceSpec
  by_cases h2 : at_ ≥ (s.size : Int)
  · rw [if_pos h2, if_pos h2]
  · rw [if_neg h2, if_neg h2, if_pos h0, if_pos (by omega), wrap64_small (i := at_ + 1) (by omega) (by omega), wrap64_small (i := bt s at_) (by omega) (by omega), wrap64_small (i := at_ + 1 + bt s at_) (by omega) (by omega)]
    by_cases h3 : at_ + 1 + bt s at_ > (s.size : Int)
    · rw [if_pos h3, if_pos h3]
    · rw [if_neg h3, if_neg h3, if_pos (by omega), if_pos (by omega), if_pos (by omega)]
theorem unpack_l0 (s : ByteArray) (hs : s.size = 256) (n : Nat) (hn : n ≤ 255) (d : Nat) : ∀ (i : Nat) (x : List S78) (at_ : Int), i ≤ n → n - i = d → x.length ≤ i → 0 ≤ at_ → at_ ≤ 256 →
    Ev (fun k => leaf_Unpack.l0 k s x at_ (n : Int) (i : Int)) (match parse s d at_ with | none => (0, [], 3) | some l => unpackFin s (x ++ l)) := by
  induction d with
  | zero =>
    intro i x at_ hi hd hx h0 h1
    have hb := bt_range s 0
    simp only [parse, List.append_nil]
    refine Ev.step (f := fun k => (leaf_Pack.f k (bt s 0) x).bind fun b => (if b.2 = 0 then (if b.1.toList = s.toList then (some (bt s 0, x, 0)) else (some (0, ([] : List S78), 3))) else (some (0, ([] : List S78), 3)))) (fun k => ?_) (Ev.bind (pack_ev (bt s 0) x (by omega)) ?_)
    · simp only [leaf_Unpack.l0]
      rw [if_neg (by omega), if_pos (by omega), wrap64_small (by omega) (by omega)]
    · unfold unpackFin
      by_cases h2 : (packSpec (bt s 0) x).2 = 0
      · by_cases h3 : (packSpec (bt s 0) x).1.toList = s.toList
        · simp only [h2, h3, if_true, and_self]
          exact Ev.now _
        · simp only [h2, h3, if_true, if_false, and_false]
          exact Ev.now _
      · simp only [h2, if_false, false_and]
        exact Ev.now _
  | succ d ih =>
    intro i x at_ hi hd hx h0 h1
    simp only [parse]
    refine Ev.step (f := fun k => (leaf_piece.f s at_).bind fun b => (if b.2.2 = true then ((leaf_piece.f s b.2.1).bind fun c => (if c.2.2 = true then (if x.length < 4398046511104 then (leaf_Unpack.l0 k s (x ++ [(⟨b.1, c.1⟩ : S78)]) c.2.1 (n : Int) (((i : Int) + 1) % 256)) else (none)) else (some (0, ([] : List S78), 3)))) else (some (0, ([] : List S78), 3)))) (fun k => ?_) ?_
    · simp only [leaf_Unpack.l0]
      rw [if_pos (by omega)]
    · rw [piece_f s hs at_ h0 h1]
      cases hp : pieceSpec s at_ with
      | none =>
        simp only [Option.bind_some, Option.bind_none, Bool.false_eq_true, if_false]
        exact Ev.now _
      | some p =>
        have hp2 := pieceSpec_some h0 hp
        simp only [Option.bind_some, if_true]
        rw [piece_f s hs p.2 hp2.1 (by omega)]
        cases hq : pieceSpec s p.2 with
        | none =>
          simp only [Option.bind_some, Option.bind_none, Bool.false_eq_true, if_false]
          exact Ev.now _
        | some q =>
          have hq2 := pieceSpec_some hp2.1 hq
          simp only [Option.bind_some, if_true]
          have h := ih (i + 1) (x ++ [(⟨p.1, q.1⟩ : S78)]) q.2 (by omega) (by omega) (by rw [List.length_append, List.length_singleton]; omega) hq2.1 (by omega)
          have e : ((i : Int) + 1) % 256 = ((i + 1 : Nat) : Int) := by omega
          simp only [show x.length < 4398046511104 from by omega, if_true, e]
          cases hl : parse s d q.2 with
          | none =>
            rw [hl] at h
            exact h
          | some l =>
            rw [hl] at h
            simp only [List.append_assoc, List.singleton_append] at h
            simp only [Option.map_some]
            exact h
theorem unpack_ev (s : ByteArray) : Ev (fun k => leaf_Unpack.f k s) (unpackSpec s) := by
  unfold leaf_Unpack.f unpackSpec
  by_cases h : s.size = 256
  · have hb := bt_range s 1
    rw [if_pos h]
    simp only [show ((s.size : Int) = 256) = True from eq_true (by omega), show (1 < (s.size : Int)) = True from eq_true (by omega), if_true]
    have hl := unpack_l0 s h (bt s 1).toNat (by omega) (bt s 1).toNat 0 [] 2 (by omega) (by omega) (by simp) (by omega) (by omega)
    rw [show (((bt s 1).toNat : Nat) : Int) = bt s 1 by omega] at hl
    exact hl
  · simp only [show ((s.size : Int) = 256) = False from eq_false (by omega), if_false, h]
    exact Ev.now _
theorem drop_at (s : ByteArray) (at_ : Int) (c : Int) (r : List Int) (h0 : 0 ≤ at_) (h : (bytesOf s).drop at_.toNat = c :: r) : at_ < s.size ∧ bt s at_ = c ∧ (bytesOf s).drop (at_ + 1).toNat = r := by
  have hl : at_ < (s.size : Int) := by
    by_cases hn : at_ < (s.size : Int)
    · exact hn
    · rw [drop_end s at_ (by omega)] at h
      cases h
  have e := drop_byte s at_ h0 hl
  rw [h] at e
  injection e with e1 e2
  exact ⟨hl, e1.symm, e2.symm⟩
theorem piece_at (s k : ByteArray) (at_ : Int) (r : List Int) (h0 : 0 ≤ at_) (hk : k.size < 256) (h : (bytesOf s).drop at_.toNat = [(k.size : Int) % 256] ++ bytesOf k ++ r) :
    pieceSpec s at_ = some (k, at_ + 1 + k.size) ∧ (bytesOf s).drop (at_ + 1 + k.size).toNat = r := by
  rw [List.append_assoc, List.singleton_append] at h
  obtain ⟨h1, h2, h3⟩ := drop_at s at_ _ _ h0 h
  have h4 := congrArg List.length h3
  rw [List.length_drop, bytesOf_length, List.length_append, bytesOf_length] at h4
  have e : (k.size : Int) % 256 = k.size := by omega
  rw [e] at h2
  constructor
  · unfold pieceSpec
    rw [if_neg (by omega), h2, if_neg (by omega)]
    congr 2
    apply bytesOf_inj
    rw [bytes_extract, List.drop_take, h3, show (at_ + 1 + (k.size : Int)).toNat - (at_ + 1).toNat = (bytesOf k).length by rw [bytesOf_length]; omega, List.take_left]
  · rw [show (at_ + 1 + (k.size : Int)).toNat = (at_ + 1).toNat + k.size by omega, ← List.drop_drop, h3, ← bytesOf_length k, List.drop_left]
theorem parse_flat (s : ByteArray) (l : List S78) (p : Option ByteArray) (hp : rightFrom p l = 0) : ∀ (at_ : Int) (r : List Int), 0 ≤ at_ → (bytesOf s).drop at_.toNat = flat l ++ r → parse s l.length at_ = some l := by
  induction l generalizing p with
  | nil => intro at_ r _ _; rfl
  | cons x l ih =>
    intro at_ r h0 h
    rw [rightFrom] at hp
    split at hp
    · exact absurd hp (by decide)
    · rename_i hs
      split at hp
      · exact absurd hp (by decide)
      · rw [flat, entBytes, List.append_assoc, List.append_assoc, List.append_assoc, List.append_assoc] at h
        obtain ⟨a1, a2⟩ := piece_at s x.f0 at_ ([(x.f1.size : Int) % 256] ++ (bytesOf x.f1 ++ (flat l ++ r))) h0 (by omega) (by rw [h, List.append_assoc])
        obtain ⟨b1, b2⟩ := piece_at s x.f1 (at_ + 1 + x.f0.size) (flat l ++ r) (by omega) (by omega) (by rw [a2, List.append_assoc])
        have hh := ih _ hp (at_ + 1 + x.f0.size + 1 + x.f1.size) r (by omega) b2
        rw [List.length_cons, parse, a1]
        simp only [Option.bind_some]
        rw [b1]
        simp only [Option.bind_some]
        rw [hh]
        rfl
theorem page_bytes (a : Int) (l : List S78) : bytesOf (page a l) = pageNums a l ++ List.replicate (256 - (2 + tot l)) 0 := by
  unfold page
  rw [bytesOf_append, bytes_nums _ (pageNums_range a l), zeros_bytes]
theorem page_size (a : Int) (l : List S78) (h : 2 + tot l ≤ 256) : (page a l).size = 256 := by
  unfold page
  rw [ByteArray.size_append, strOfNums_size, pageNums_length, zeros_size]
  omega
theorem pack_ok {a : Int} {l : List S78} (h : (packSpec a l).2 = 0) : (a = 1 ∨ a = 2) ∧ rightFrom none l = 0 ∧ 2 + tot l ≤ 256 ∧ packSpec a l = (page a l, 0) := by
  unfold packSpec at h ⊢
  by_cases h1 : a = 1 ∨ a = 2
  · rw [if_pos h1] at h ⊢
    by_cases h2 : rightFrom none l = 0
    · rw [if_pos h2] at h ⊢
      unfold packTail at h ⊢
      by_cases h3 : 2 + tot l > 256
      · rw [if_pos h3] at h
        cases h
      · rw [if_neg h3]
        exact ⟨h1, h2, by omega, rfl⟩
    · rw [if_neg h2] at h
      exact absurd h h2
  · rw [if_neg h1] at h
    cases h
theorem unpack_pack (a : Int) (l : List S78) (h : (packSpec a l).2 = 0) : unpackSpec (packSpec a l).1 = (a, l, 0) := by
  obtain ⟨h1, h2, h3, h4⟩ := pack_ok h
  have hz := page_size a l h3
  have hg := tot_ge l
  have hb := page_bytes a l
  unfold pageNums at hb
  have d0 : (bytesOf (page a l)).drop (0 : Int).toNat = (a % 256) :: ((l.length : Int) % 256 :: flat l ++ List.replicate (256 - (2 + tot l)) 0) := by
    rw [hb]
    rfl
  obtain ⟨_, e0, d1⟩ := drop_at _ 0 _ _ (by omega) d0
  obtain ⟨_, e1, d2⟩ := drop_at _ (0 + 1) _ _ (by omega) d1
  rw [show (0 : Int) + 1 = 1 by omega] at e1
  rw [show ((0 : Int) + 1 + 1).toNat = (2 : Int).toNat by decide] at d2
  have hp := parse_flat (page a l) l none h2 2 _ (by omega) d2
  rw [h4]
  simp only
  unfold unpackSpec
  rw [if_pos hz, e1, show ((l.length : Int) % 256).toNat = l.length by omega, hp]
  simp only
  unfold unpackFin
  rw [e0, show a % 256 = a by omega, h4]
  simp
theorem same_l0 (l : List S78) (hl : l.length < 4398046511104) (d : Nat) : ∀ (i : Nat), i ≤ l.length → l.length - i = d → Ev (fun k => aumbryref13_Same.l0 k l l (l.length : Int) (i : Int)) true := by
  induction d with
  | zero =>
    intro i hi hd
    refine Ev.step (f := fun _ => some true) (fun k => ?_) (Ev.now _)
    simp only [aumbryref13_Same.l0]
    rw [if_neg (by omega)]
  | succ d ih =>
    intro i hi hd
    refine Ev.step (fun k => ?_) (ih (i + 1) (by omega) (by omega))
    simp only [aumbryref13_Same.l0]
    rw [if_pos (by omega), if_pos (by omega), if_pos (by omega), if_pos (by omega), beq_self_eq_true, beq_self_eq_true, if_neg (by decide), wrap64_small (by omega) (by omega)]
    rfl
theorem same_ev (l : List S78) (hl : l.length < 4398046511104) : Ev (fun k => aumbryref13_Same.f k l l) true := by
  unfold aumbryref13_Same.f
  simp only [if_true]
  exact same_l0 l hl l.length 0 (by omega) (by omega)
theorem wakes_ev : Ev (fun k => aumbrylaw13_wakes.f k) true := by
  have hr : rightFrom none [(⟨⟨#[97]⟩, ⟨#[120]⟩⟩ : S78)] = 0 := by
    simp only [rightFrom]
    rw [if_neg (by decide), if_neg (by rintro ⟨q, hq, _⟩; cases hq)]
  have ht : tot [(⟨⟨#[97]⟩, ⟨#[120]⟩⟩ : S78)] = 4 := rfl
  have hp : packSpec 1 [(⟨⟨#[97]⟩, ⟨#[120]⟩⟩ : S78)] = (page 1 [(⟨⟨#[97]⟩, ⟨#[120]⟩⟩ : S78)], 0) := by
    unfold packSpec packTail
    rw [if_pos (.inl rfl), if_pos hr, ht, if_neg (by omega)]
  have hu := unpack_pack 1 [(⟨⟨#[97]⟩, ⟨#[120]⟩⟩ : S78)] (by rw [hp])
  rw [hp] at hu
  have hz := page_size 1 [(⟨⟨#[97]⟩, ⟨#[120]⟩⟩ : S78)] (by rw [ht]; omega)
  have he : ((page 1 [(⟨⟨#[97]⟩, ⟨#[120]⟩⟩ : S78)]).extract 0 6).toList = ([1, 1, 1, 97, 1, 120] : List UInt8) := by
    have e : (page 1 [(⟨⟨#[97]⟩, ⟨#[120]⟩⟩ : S78)]).extract 0 6 = ⟨#[1, 1, 1, 97, 1, 120]⟩ := by
      apply bytesOf_inj
      rw [extract_bytes0, page_bytes, ht]
      rfl
    rw [e, ByteArray.toList_eq]
  have hf : leaf_Find.f [(⟨⟨#[97]⟩, ⟨#[120]⟩⟩ : S78), (⟨⟨#[99]⟩, ⟨#[]⟩⟩ : S78)] (⟨#[98]⟩ : ByteArray) = some (1, false) := by
    have k1 : leaf_Find.key [(⟨⟨#[97]⟩, ⟨#[120]⟩⟩ : S78), (⟨⟨#[99]⟩, ⟨#[]⟩⟩ : S78)] (⟨#[98]⟩ : ByteArray) 1 = true := by
      simp only [leaf_Find.key, ByteArray.toList_eq]
      decide
    have k0 : leaf_Find.key [(⟨⟨#[97]⟩, ⟨#[120]⟩⟩ : S78), (⟨⟨#[99]⟩, ⟨#[]⟩⟩ : S78)] (⟨#[98]⟩ : ByteArray) 0 = false := by
      simp only [leaf_Find.key, ByteArray.toList_eq]
      decide
    have ha : leaf_Find.at_ [(⟨⟨#[97]⟩, ⟨#[120]⟩⟩ : S78), (⟨⟨#[99]⟩, ⟨#[]⟩⟩ : S78)] (⟨#[98]⟩ : ByteArray) = 1 := by
      simp only [leaf_Find.at_, List.length_cons, List.length_nil, Search.halvings]
      simp [k1, k0]
    unfold leaf_Find.f
    rw [ha, if_pos (by decide), ByteArray.toList_eq, ByteArray.toList_eq]
    decide
  have hsz := size_ev [(⟨⟨#[97]⟩, ⟨#[120]⟩⟩ : S78), (⟨⟨#[99]⟩, ⟨#[]⟩⟩ : S78)] (by decide)
  rw [show wrap64 (2 + (tot [(⟨⟨#[97]⟩, ⟨#[120]⟩⟩ : S78), (⟨⟨#[99]⟩, ⟨#[]⟩⟩ : S78)] : Int)) = 9 from wrap64_small (i := 9) (by omega) (by omega)] at hsz
  unfold aumbrylaw13_wakes.f
  simp only [Option.bind_some]
  simp only [show ((1 : Int) ≤ (([(⟨⟨#[97]⟩, ⟨#[120]⟩⟩ : S78), (⟨⟨#[99]⟩, ⟨#[]⟩⟩ : S78)] : List S78).length : Int)) = True from eq_true (by decide), if_true]
  refine Ev.bind (pack_ev 1 [(⟨⟨#[97]⟩, ⟨#[120]⟩⟩ : S78)] (by decide)) ?_
  rw [hp]
  refine Ev.bind (unpack_ev _) ?_
  simp only
  rw [hu, hf]
  simp only [Option.bind_some, if_true, hz, he]
  refine Ev.congr (fun k => ?_) (Ev.bind hsz (f := fun _ t => some (t == 9)) (Ev.now _))
  rw [if_pos (by decide), if_pos (by decide), if_pos (by decide), if_pos (by decide), if_neg (by decide)]
theorem clone_f (l : List S78) (hl : l.length < 4398046511104) : api_Entry.f l = some l := by
  unfold api_Entry.f
  rw [if_pos hl]
theorem tot_append (a b : List S78) : tot (a ++ b) = tot a + tot b := by simp [tot]
theorem tot_parts (l : List S78) (j : Nat) : tot (l.take j) + tot (l.drop j) = tot l := by rw [← tot_append, List.take_append_drop]
theorem take_rd (l : List S78) (i : Nat) (h : i < l.length) : l.take (i + 1) = l.take i ++ [rd_T78 l (i : Int)] := by
  rw [List.take_succ_eq_append_getElem h]
  congr 2
  rw [rd_T78, List.getD_eq_getElem?_getD, show ((i : Int)).toNat = i by omega, List.getElem?_eq_getElem h]
  rfl
theorem one_rd (l : List S78) (i : Nat) (h : i < l.length) : (l.take (i + 1)).drop i = [rd_T78 l (i : Int)] := by
  rw [take_rd l i h, List.drop_append_of_le_length (by rw [List.length_take]; omega), List.drop_of_length_le (by rw [List.length_take]; omega), List.nil_append]
theorem tot_one (x : S78) : tot [x] = elen x := by simp [tot]
theorem tot_take (l : List S78) (i : Nat) (h : i < l.length) : tot (l.take (i + 1)) = tot (l.take i) + elen (rd_T78 l (i : Int)) := by rw [take_rd l i h, tot_append, tot_one]
/-- The greater side's bytes, where a list is cut. -/
def most (l : List S78) (j : Nat) : Int := max (tot (l.take j) : Int) ((tot l : Int) - tot (l.take j))
/-- Where the greater side is least, of the places looked at. -/
def sel (l : List S78) : Nat → Nat
  | 0 => 1
  | i + 1 => if 2 ≤ i ∧ most l i < most l (sel l i) then i else sel l i
theorem sel_range (l : List S78) (i : Nat) : 1 ≤ sel l i ∧ (sel l i < i ∨ sel l i = 1) := by
  induction i with
  | zero => exact ⟨Nat.le_refl _, .inr rfl⟩
  | succ i ih =>
    rw [sel]
    split
    · omega
    · omega
theorem sel_least (l : List S78) (i j : Nat) (h1 : 1 ≤ j) (h2 : j < i) : most l (sel l i) ≤ most l j := by
  induction i with
  | zero => omega
  | succ i ih =>
    rw [sel]
    by_cases hc : 2 ≤ i ∧ most l i < most l (sel l i)
    · rw [if_pos hc]
      rcases Nat.lt_or_ge j i with h | h
      · have := ih h
        omega
      · obtain rfl : j = i := by omega
        exact Int.le_refl _
    · rw [if_neg hc]
      rcases Nat.lt_or_ge j i with h | h
      · exact ih h
      · obtain rfl : j = i := by omega
        by_cases h2 : 2 ≤ j
        · have : ¬ most l j < most l (sel l j) := fun h => hc ⟨h2, h⟩
          omega
        · have e : sel l j = j := by
            have hr := sel_range l j
            omega
          rw [e]
          exact Int.le_refl _
theorem most_range (l : List S78) (j : Nat) : 0 ≤ most l j ∧ most l j ≤ tot l := by
  have h := tot_parts l j
  unfold most
  omega
theorem mx_most (a b : Int) : mx a b = max a b := by
  unfold mx
  omega
theorem cut_any (l : List S78) (hl : l.length < 4398046511104) (d : Nat) : ∀ (i b : Nat) (x5 x6 x7 : Int), 1 ≤ i → i ≤ l.length → l.length - i = d → 1 ≤ b → b < l.length →
    ∃ b', b' ≤ l.length ∧ Ev (fun k => leaf_Cut.l0 k l (b : Int) x5 x6 x7 (i : Int)) (l.take b', l.drop b') := by
  induction d with
  | zero =>
    intro i b x5 x6 x7 h1 hi hd hb hb1
    refine ⟨b, by omega, Ev.step (f := fun _ => some (l.take b, l.drop b)) (fun k => ?_) (Ev.now _)⟩
    simp only [leaf_Cut.l0]
    rw [if_neg (by omega), if_pos (by omega), if_pos (by omega), show ((b : Int)).toNat = b by omega, clone_f _ (by rw [List.length_take]; omega)]
    simp only [Option.bind_some]
    rw [clone_f _ (by rw [List.length_drop]; omega)]
    rfl
  | succ d ih =>
    intro i b x5 x6 x7 h1 hi hd hb hb1
    have hsz := size_ev ((l.take i).drop (i - 1)) (by rw [List.length_drop, List.length_take]; omega)
    generalize wrap64 (2 + (tot ((l.take i).drop (i - 1)) : Int)) = t at hsz
    obtain ⟨b1, hb1', he1⟩ := ih (i + 1) i (mx (wrap64 (x6 + (wrap64 (t - 2)))) (wrap64 (x7 - (wrap64 (x6 + (wrap64 (t - 2))))))) (wrap64 (x6 + (wrap64 (t - 2)))) x7 (by omega) (by omega) (by omega) h1 (by omega)
    obtain ⟨b2, hb2', he2⟩ := ih (i + 1) b x5 (wrap64 (x6 + (wrap64 (t - 2)))) x7 (by omega) (by omega) (by omega) hb hb1
    have hstep : ∀ (r : List S78 × List S78), Ev (fun k => if x5 < 0 then (leaf_Cut.l0 k l (i : Int) (mx (wrap64 (x6 + (wrap64 (t - 2)))) (wrap64 (x7 - (wrap64 (x6 + (wrap64 (t - 2))))))) (wrap64 (x6 + (wrap64 (t - 2)))) x7 ((i + 1 : Nat) : Int)) else (if (mx (wrap64 (x6 + (wrap64 (t - 2)))) (wrap64 (x7 - (wrap64 (x6 + (wrap64 (t - 2))))))) < x5 then (leaf_Cut.l0 k l (i : Int) (mx (wrap64 (x6 + (wrap64 (t - 2)))) (wrap64 (x7 - (wrap64 (x6 + (wrap64 (t - 2))))))) (wrap64 (x6 + (wrap64 (t - 2)))) x7 ((i + 1 : Nat) : Int)) else (leaf_Cut.l0 k l (b : Int) x5 (wrap64 (x6 + (wrap64 (t - 2)))) x7 ((i + 1 : Nat) : Int)))) r →
        Ev (fun k => leaf_Cut.l0 k l (b : Int) x5 x6 x7 (i : Int)) r := by
      intro r hr
      refine Ev.step (fun k => ?_) (Ev.bind hsz (f := fun k t => if x5 < 0 then (leaf_Cut.l0 k l (i : Int) (mx (wrap64 (x6 + (wrap64 (t - 2)))) (wrap64 (x7 - (wrap64 (x6 + (wrap64 (t - 2))))))) (wrap64 (x6 + (wrap64 (t - 2)))) x7 ((i + 1 : Nat) : Int)) else (if (mx (wrap64 (x6 + (wrap64 (t - 2)))) (wrap64 (x7 - (wrap64 (x6 + (wrap64 (t - 2))))))) < x5 then (leaf_Cut.l0 k l (i : Int) (mx (wrap64 (x6 + (wrap64 (t - 2)))) (wrap64 (x7 - (wrap64 (x6 + (wrap64 (t - 2))))))) (wrap64 (x6 + (wrap64 (t - 2)))) x7 ((i + 1 : Nat) : Int)) else (leaf_Cut.l0 k l (b : Int) x5 (wrap64 (x6 + (wrap64 (t - 2)))) x7 ((i + 1 : Nat) : Int)))) hr)
      simp only [leaf_Cut.l0]
      rw [if_pos (by omega), wrap64_small (i := (i : Int) - 1) (by omega) (by omega), if_pos (by omega), if_pos (by omega), if_pos (by omega), wrap64_small (i := (i : Int) + 1) (by omega) (by omega), show ((i : Int)).toNat = i by omega, show ((i : Int) - 1).toNat = i - 1 by omega]
      rfl
    by_cases c1 : x5 < 0
    · refine ⟨b1, hb1', hstep _ ?_⟩
      simp only [c1, if_true]
      exact he1
    · by_cases c2 : (mx (wrap64 (x6 + (wrap64 (t - 2)))) (wrap64 (x7 - (wrap64 (x6 + (wrap64 (t - 2))))))) < x5
      · refine ⟨b1, hb1', hstep _ ?_⟩
        simp only [c1, c2, if_true, if_false]
        exact he1
      · refine ⟨b2, hb2', hstep _ ?_⟩
        simp only [c1, c2, if_false]
        exact he2
theorem cut_right (l : List S78) (hl : l.length < 4398046511104) (ht : tot l < 9000000000000000000) (d : Nat) : ∀ (i : Nat), 1 ≤ i → i ≤ l.length → l.length - i = d → 2 ≤ l.length →
    Ev (fun k => leaf_Cut.l0 k l (sel l i : Int) (if i = 1 then -1 else most l (sel l i)) (tot (l.take (i - 1)) : Int) (tot l : Int) (i : Int)) (l.take (sel l l.length), l.drop (sel l l.length)) := by
  induction d with
  | zero =>
    intro i h1 hi hd h2
    obtain rfl : i = l.length := by omega
    have hr := sel_range l l.length
    refine Ev.step (f := fun _ => some (l.take (sel l l.length), l.drop (sel l l.length))) (fun k => ?_) (Ev.now _)
    simp only [leaf_Cut.l0]
    rw [if_neg (by omega), if_pos (by omega), if_pos (by omega), show ((sel l l.length : Int)).toNat = sel l l.length by omega, clone_f _ (by rw [List.length_take]; omega)]
    simp only [Option.bind_some]
    rw [clone_f _ (by rw [List.length_drop]; omega)]
    rfl
  | succ d ih =>
    intro i h1 hi hd h2
    obtain ⟨m, rfl⟩ : ∃ m, i = m + 1 := ⟨i - 1, by omega⟩
    have hp := tot_parts l (m + 1)
    have htk := tot_take l m (by omega)
    have hmr := most_range l (sel l (m + 1))
    have hsz := size_ev ((l.take (m + 1)).drop m) (by rw [List.length_drop, List.length_take]; omega)
    rw [one_rd l m (by omega), tot_one, wrap64_small (by omega) (by omega)] at hsz
    have hn := ih (m + 1 + 1) (by omega) (by omega) (by omega) h2
    rw [show m + 1 + 1 - 1 = m + 1 by omega, if_neg (show ¬ m + 1 + 1 = 1 by omega)] at hn
    have e2 : wrap64 ((tot l : Int) - (tot (l.take (m + 1)) : Int)) = (tot l : Int) - (tot (l.take (m + 1)) : Int) := wrap64_small (by omega) (by omega)
    have E2 := Aside0.mk e2
    clear e2
    have e0 : wrap64 (2 + (elen (rd_T78 l (m : Int)) : Int) - 2) = elen (rd_T78 l (m : Int)) := by
      rw [show 2 + (elen (rd_T78 l (m : Int)) : Int) - 2 = elen (rd_T78 l (m : Int)) by omega]
      exact wrap64_small (by omega) (by omega)
    have e1 : wrap64 ((tot (l.take m) : Int) + (elen (rd_T78 l (m : Int)) : Int)) = (tot (l.take (m + 1)) : Int) := by
      rw [show (tot (l.take m) : Int) + (elen (rd_T78 l (m : Int)) : Int) = (tot (l.take (m + 1)) : Int) by omega]
      exact wrap64_small (by omega) (by omega)
    have e3 : mx (tot (l.take (m + 1)) : Int) ((tot l : Int) - (tot (l.take (m + 1)) : Int)) = most l (m + 1) := by rw [mx_most]; rfl
    refine Ev.step (fun k => ?_) (Ev.bind hsz (f := fun k t => if (if m + 1 = 1 then (-1 : Int) else most l (sel l (m + 1))) < 0 then (leaf_Cut.l0 k l ((m + 1 : Nat) : Int) (mx (wrap64 ((tot (l.take m) : Int) + (wrap64 (t - 2)))) (wrap64 ((tot l : Int) - (wrap64 ((tot (l.take m) : Int) + (wrap64 (t - 2))))))) (wrap64 ((tot (l.take m) : Int) + (wrap64 (t - 2)))) (tot l : Int) ((m + 1 + 1 : Nat) : Int)) else (if (mx (wrap64 ((tot (l.take m) : Int) + (wrap64 (t - 2)))) (wrap64 ((tot l : Int) - (wrap64 ((tot (l.take m) : Int) + (wrap64 (t - 2))))))) < (if m + 1 = 1 then (-1 : Int) else most l (sel l (m + 1))) then (leaf_Cut.l0 k l ((m + 1 : Nat) : Int) (mx (wrap64 ((tot (l.take m) : Int) + (wrap64 (t - 2)))) (wrap64 ((tot l : Int) - (wrap64 ((tot (l.take m) : Int) + (wrap64 (t - 2))))))) (wrap64 ((tot (l.take m) : Int) + (wrap64 (t - 2)))) (tot l : Int) ((m + 1 + 1 : Nat) : Int)) else (leaf_Cut.l0 k l (sel l (m + 1) : Int) (if m + 1 = 1 then (-1 : Int) else most l (sel l (m + 1))) (wrap64 ((tot (l.take m) : Int) + (wrap64 (t - 2)))) (tot l : Int) ((m + 1 + 1 : Nat) : Int)))) ?_)
    · simp only [leaf_Cut.l0]
      rw [if_pos (by omega), wrap64_small (i := ((m + 1 : Nat) : Int) - 1) (by omega) (by omega), if_pos (by omega), if_pos (by omega), if_pos (by omega), wrap64_small (i := ((m + 1 : Nat) : Int) + 1) (by omega) (by omega), show (((m + 1 : Nat) : Int)).toNat = m + 1 by omega, show (((m + 1 : Nat) : Int) - 1).toNat = m by omega, one_rd l m (by omega), show m + 1 - 1 = m by omega]
      rfl
    · rw [e0, e1, E2.out, e3]
      by_cases hm0 : m = 0
      · subst hm0
        rw [if_pos (show (0 + 1 = 1) from rfl)]
        simp only [show ((-1 : Int) < 0) = True from eq_true (by decide), if_true]
        have es : sel l (0 + 1 + 1) = 0 + 1 := by
          have hr := sel_range l (0 + 1 + 1)
          omega
        rw [es] at hn
        exact hn
      · rw [if_neg (show ¬ m + 1 = 1 by omega)]
        simp only [show (most l (sel l (m + 1)) < 0) = False from eq_false (by omega), if_false]
        by_cases hlt : most l (m + 1) < most l (sel l (m + 1))
        · simp only [hlt, if_true]
          have es : sel l (m + 1 + 1) = m + 1 := by rw [sel, if_pos ⟨by omega, hlt⟩]
          rw [es] at hn
          exact hn
        · simp only [hlt, if_false]
          have es : sel l (m + 1 + 1) = sel l (m + 1) := by rw [sel, if_neg (fun h => hlt h.2)]
          rw [es] at hn
          exact hn
theorem cut_ev_any (l : List S78) (hl : l.length < 4398046511104) : ∃ r, Ev (fun k => leaf_Cut.f k l) r := by
  unfold leaf_Cut.f
  by_cases h : (l.length : Int) < 2
  · refine ⟨(l, []), ?_⟩
    simp only [h, if_true, clone_f l hl, Option.bind_some]
    exact Ev.now _
  · obtain ⟨b, hb, he⟩ := cut_any l hl (l.length - 1) 1 1 (-1) 0 (wrap64 (wrap64 (2 + tot l) - 2)) (by omega) (by omega) (by omega) (by omega) (by omega)
    refine ⟨(l.take b, l.drop b), ?_⟩
    simp only [h, if_false]
    exact Ev.bind (size_ev l hl) (f := fun k t => leaf_Cut.l0 k l 1 (-1) 0 (wrap64 (t - 2)) 1) he
theorem cut_ev (l : List S78) (hl : l.length < 4398046511104) (ht : tot l < 9000000000000000000) (h : ¬ (l.length : Int) < 2) : Ev (fun k => leaf_Cut.f k l) (l.take (sel l l.length), l.drop (sel l l.length)) := by
  unfold leaf_Cut.f
  simp only [h, if_false]
  have hc := cut_right l hl ht (l.length - 1) 1 (by omega) (by omega) (by omega) (by omega)
  have es : sel l 1 = 1 := by
    have := sel_range l 1
    omega
  rw [es, if_pos rfl, show 1 - 1 = 0 from rfl, List.take_zero, tot_nil] at hc
  refine Ev.bind (size_ev l hl) (f := fun k t => leaf_Cut.l0 k l 1 (-1) 0 (wrap64 (t - 2)) 1) ?_
  have e : wrap64 (wrap64 (2 + (tot l : Int)) - 2) = tot l := by
    rw [wrap64_small (i := 2 + (tot l : Int)) (by omega) (by omega), show 2 + (tot l : Int) - 2 = tot l by omega]
    exact wrap64_small (by omega) (by omega)
  rw [e]
  exact hc
theorem refcut_l0 (l : List S78) (hl : l.length < 4398046511104) (ht : tot l < 9000000000000000000) (d : Nat) : ∀ (i : Nat), 2 ≤ i → i ≤ l.length → l.length - i = d →
    Ev (fun k => aumbryref13_Cut.l0 k l (sel l i : Int) (i : Int)) (sel l l.length : Int) := by
  induction d with
  | zero =>
    intro i h1 hi hd
    obtain rfl : i = l.length := by omega
    refine Ev.step (f := fun _ => some (sel l l.length : Int)) (fun k => ?_) (Ev.now _)
    simp only [aumbryref13_Cut.l0]
    rw [if_neg (by omega)]
  | succ d ih =>
    intro i h1 hi hd
    have hr := sel_range l i
    have p1 := tot_parts l i
    have p2 := tot_parts l (sel l i)
    have s1 := refsize_ev (l.take i) (by rw [List.length_take]; omega)
    have s2 := refsize_ev (l.drop i) (by rw [List.length_drop]; omega)
    have s3 := refsize_ev (l.take (sel l i)) (by rw [List.length_take]; omega)
    have s4 := refsize_ev (l.drop (sel l i)) (by rw [List.length_drop]; omega)
    rw [wrap64_small (by omega) (by omega)] at s1 s2 s3 s4
    have hn := ih (i + 1) (by omega) (by omega) (by omega)
    have m1 : mx (2 + (tot (l.take i) : Int)) (2 + (tot (l.drop i) : Int)) = 2 + most l i := by
      rw [mx_most]
      unfold most
      omega
    have m2 : mx (2 + (tot (l.take (sel l i)) : Int)) (2 + (tot (l.drop (sel l i)) : Int)) = 2 + most l (sel l i) := by
      rw [mx_most]
      unfold most
      omega
    refine Ev.step (fun k => ?_) (Ev.bind s1 (Ev.bind s2 (Ev.bind s3 (Ev.bind s4 (f := fun k t4 => if (mx (2 + (tot (l.take i) : Int)) (2 + (tot (l.drop i) : Int))) < (mx (2 + (tot (l.take (sel l i)) : Int)) t4) then (aumbryref13_Cut.l0 k l (i : Int) ((i + 1 : Nat) : Int)) else (aumbryref13_Cut.l0 k l (sel l i : Int) ((i + 1 : Nat) : Int))) ?_) (f := fun k t3 => (aumbryref13_Size.f k (l.drop (sel l i))).bind fun t4 => if (mx (2 + (tot (l.take i) : Int)) (2 + (tot (l.drop i) : Int))) < (mx t3 t4) then (aumbryref13_Cut.l0 k l (i : Int) ((i + 1 : Nat) : Int)) else (aumbryref13_Cut.l0 k l (sel l i : Int) ((i + 1 : Nat) : Int)))) (f := fun k t2 => (aumbryref13_Size.f k (l.take (sel l i))).bind fun t3 => (aumbryref13_Size.f k (l.drop (sel l i))).bind fun t4 => if (mx (2 + (tot (l.take i) : Int)) t2) < (mx t3 t4) then (aumbryref13_Cut.l0 k l (i : Int) ((i + 1 : Nat) : Int)) else (aumbryref13_Cut.l0 k l (sel l i : Int) ((i + 1 : Nat) : Int)))) (f := fun k t1 => (aumbryref13_Size.f k (l.drop i)).bind fun t2 => (aumbryref13_Size.f k (l.take (sel l i))).bind fun t3 => (aumbryref13_Size.f k (l.drop (sel l i))).bind fun t4 => if (mx t1 t2) < (mx t3 t4) then (aumbryref13_Cut.l0 k l (i : Int) ((i + 1 : Nat) : Int)) else (aumbryref13_Cut.l0 k l (sel l i : Int) ((i + 1 : Nat) : Int))))
    · simp only [aumbryref13_Cut.l0]
      rw [if_pos (by omega), if_pos (by omega), if_pos (by omega), wrap64_small (i := (i : Int) + 1) (by omega) (by omega), show ((i : Int)).toNat = i by omega, show ((sel l i : Int)).toNat = sel l i by omega]
      simp only [show (0 ≤ (sel l i : Int)) = True from eq_true (by omega), show ((sel l i : Int) ≤ (l.length : Int)) = True from eq_true (by omega), if_true]
      rfl
    · rw [m1, m2]
      by_cases hlt : most l i < most l (sel l i)
      · simp only [show (2 + most l i < 2 + most l (sel l i)) = True from eq_true (by omega), if_true]
        have es : sel l (i + 1) = i := by rw [sel, if_pos ⟨by omega, hlt⟩]
        rw [es] at hn
        exact hn
      · simp only [show (2 + most l i < 2 + most l (sel l i)) = False from eq_false (by omega), if_false]
        have es : sel l (i + 1) = sel l i := by rw [sel, if_neg (fun h => hlt h.2)]
        rw [es] at hn
        exact hn
theorem refcut_ev (l : List S78) (hl : l.length < 4398046511104) (ht : tot l < 9000000000000000000) (h : ¬ (l.length : Int) < 2) : Ev (fun k => aumbryref13_Cut.f k l) (sel l l.length : Int) := by
  unfold aumbryref13_Cut.f
  simp only [h, if_false]
  have hc := refcut_l0 l hl ht (l.length - 2) 2 (by omega) (by omega) (by omega)
  have es : sel l 2 = 1 := by
    rw [sel, if_neg (by omega), sel, if_neg (by omega), sel]
  rw [es] at hc
  exact hc
/-- Both sides fit, if the list would without one of its entries. -/
theorem fits_without (l : List S78) (h2 : 2 ≤ l.length) (i : Nat) (hi : i < l.length) (h : (tot l : Int) - elen (rd_T78 l (i : Int)) ≤ 254) (he : elen (rd_T78 l (i : Int)) ≤ 98) : most l (sel l l.length) ≤ 254 := by
  have ha := tot_take l i hi
  have hp := tot_parts l (i + 1)
  have h0 : tot (l.take 0) = 0 := rfl
  have hlast : tot (l.take l.length) = tot l := by rw [List.take_length]
  have k1 : most l i ≤ 254 ∨ most l (i + 1) ≤ 254 := by
    unfold most
    omega
  rcases Nat.lt_or_ge 0 i with hpos | hzero
  · rcases Nat.lt_or_ge (i + 1) l.length with hin | hend
    · rcases k1 with k | k
      · exact Int.le_trans (sel_least l l.length i (by omega) hi) k
      · exact Int.le_trans (sel_least l l.length (i + 1) (by omega) hin) k
    · have e : i + 1 = l.length := by omega
      rw [e, hlast] at ha
      refine Int.le_trans (sel_least l l.length i (by omega) hi) ?_
      unfold most
      omega
  · obtain rfl : i = 0 := by omega
    refine Int.le_trans (sel_least l l.length (0 + 1) (by omega) (by omega)) ?_
    unfold most
    omega
theorem right_elen (l : List S78) (h : rightFrom none l = 0) (i : Nat) (hi : i < l.length) : elen (rd_T78 l (i : Int)) ≤ 98 := by
  have key : ∀ j, j ≤ l.length → rightFrom (prevOf l j) (l.drop j) = 0 := by
    intro j
    induction j with
    | zero => intro _; rw [List.drop_zero]; exact h
    | succ j ih =>
      intro hj
      have h2 := ih (by omega)
      rw [drop_rd l j (by omega), rightFrom] at h2
      split at h2
      · exact absurd h2 (by decide)
      · split at h2
        · exact absurd h2 (by decide)
        · rw [prevOf_succ]
          exact h2
  have h2 := key i (by omega)
  rw [drop_rd l i hi, rightFrom] at h2
  split at h2
  · exact absurd h2 (by decide)
  · unfold elen
    omega
theorem cuts_l0 (l a b : List S78) (hl : l.length < 4398046511104) (ht : tot l < 9000000000000000000) (ha : tot a ≤ tot l) (hb : tot b ≤ tot l) (hal : a.length < 4398046511104) (hbl : b.length < 4398046511104)
    (hfit : ∀ i, i < l.length → (tot l : Int) - elen (rd_T78 l (i : Int)) ≤ 254 → 2 ≤ l.length → tot a ≤ 254 ∧ tot b ≤ 254) (d : Nat) : ∀ (i : Nat), i ≤ l.length → l.length - i = d →
    Ev (fun k => aumbrylaw13_LeafCuts.l0 k l a b (l.length : Int) (i : Int)) true := by
  induction d with
  | zero =>
    intro i hi hd
    refine Ev.step (f := fun _ => some true) (fun k => ?_) (Ev.now _)
    simp only [aumbrylaw13_LeafCuts.l0]
    rw [if_neg (by omega)]
  | succ d ih =>
    intro i hi hd
    have htk := tot_take l i (by omega)
    have hp := tot_parts l (i + 1)
    have s1 := refsize_ev l hl
    have s2 := refsize_ev ((l.take (i + 1)).drop i) (by rw [List.length_drop, List.length_take]; omega)
    have s3 := refsize_ev a hal
    have s4 := refsize_ev b hbl
    rw [one_rd l i (by omega), tot_one] at s2
    rw [wrap64_small (by omega) (by omega)] at s1 s2 s3 s4
    have hn := ih (i + 1) (by omega) (by omega)
    refine Ev.step (fun k => ?_) (Ev.bind s1 (Ev.bind s2 (f := fun k t2 => (if (wrap64 ((wrap64 (2 + (tot l : Int) - t2)) + 2)) ≤ 256 then (if (l.length : Int) < 2 then (some true) else ((aumbryref13_Size.f k a).bind fun t3 => (if t3 ≤ 256 then ((aumbryref13_Size.f k b).bind fun t4 => (some (decide (t4 ≤ 256)))) else (some false)))) else (aumbrylaw13_LeafCuts.l0 k l a b (l.length : Int) ((i + 1 : Nat) : Int)))) ?_) (f := fun k t1 => (aumbryref13_Size.f k ([rd_T78 l (i : Int)])).bind fun t2 => (if (wrap64 ((wrap64 (t1 - t2)) + 2)) ≤ 256 then (if (l.length : Int) < 2 then (some true) else ((aumbryref13_Size.f k a).bind fun t3 => (if t3 ≤ 256 then ((aumbryref13_Size.f k b).bind fun t4 => (some (decide (t4 ≤ 256)))) else (some false)))) else (aumbrylaw13_LeafCuts.l0 k l a b (l.length : Int) ((i + 1 : Nat) : Int)))))
    · simp only [aumbrylaw13_LeafCuts.l0]
      rw [if_pos (by omega), wrap64_small (i := (i : Int) + 1) (by omega) (by omega), show ((i : Int)).toNat = i by omega, show ((i : Int) + 1).toNat = i + 1 by omega, one_rd l i (by omega)]
      simp only [show (0 ≤ (i : Int)) = True from eq_true (by omega), show ((i : Int) ≤ (i : Int) + 1) = True from eq_true (by omega), show ((i : Int) + 1 ≤ (l.length : Int)) = True from eq_true (by omega), if_true]
      rfl
    · have e : wrap64 (wrap64 (2 + (tot l : Int) - (2 + (elen (rd_T78 l (i : Int)) : Int))) + 2) = (tot l : Int) - elen (rd_T78 l (i : Int)) + 2 := by
        rw [show 2 + (tot l : Int) - (2 + (elen (rd_T78 l (i : Int)) : Int)) = (tot l : Int) - elen (rd_T78 l (i : Int)) by omega, wrap64_small (i := (tot l : Int) - elen (rd_T78 l (i : Int))) (by omega) (by omega)]
        exact wrap64_small (by omega) (by omega)
      rw [e]
      by_cases hc : (tot l : Int) - elen (rd_T78 l (i : Int)) + 2 ≤ 256
      · simp only [hc, if_true]
        by_cases h2 : (l.length : Int) < 2
        · simp only [h2, if_true]
          exact Ev.now _
        · obtain ⟨f1, f2⟩ := hfit i (by omega) (by omega) (by omega)
          simp only [h2, if_false]
          refine Ev.bind s3 ?_
          simp only [show (2 + (tot a : Int) ≤ 256) = True from eq_true (by omega), if_true]
          refine Ev.bind s4 ?_
          simp only [show (2 + (tot b : Int) ≤ 256) = True from eq_true (by omega), decide_true]
          exact Ev.now _
      · simp only [hc, if_false]
        exact hn
theorem cuts_j0 (l a b : List S78) (h : Ev (fun k => aumbrylaw13_LeafCuts.l0 k l a b (l.length : Int) 0) true) : Ev (fun k => aumbrylaw13_LeafCuts.j0 k l a b false) true := by
  refine Ev.step (fun k => ?_) h
  simp only [aumbrylaw13_LeafCuts.j0]
  rw [if_neg (by decide)]
theorem LeafCuts (l : List S78) (hl : l.length < 4398046511104) : ∃ k, aumbrylaw13_LeafCuts.f k l = some true := by
  apply Ev.rounds
  unfold aumbrylaw13_LeafCuts.f
  refine Ev.bind wakes_ev ?_
  simp only [if_true, copy_f l hl, Option.bind_some]
  by_cases h : rightFrom none l = 0
  · have ht := right_tot none l h
    by_cases h2 : (l.length : Int) < 2
    · have hc : Ev (fun k => leaf_Cut.f k l) (l, []) := by
        unfold leaf_Cut.f
        simp only [h2, if_true, clone_f l hl, Option.bind_some]
        exact Ev.now _
      have hr : Ev (fun k => aumbryref13_Cut.f k l) (l.length : Int) := by
        unfold aumbryref13_Cut.f
        simp only [h2, if_true]
        exact Ev.now _
      refine Ev.bind hc (Ev.bind (right_ev l hl) ?_)
      simp only [h, if_true]
      refine Ev.bind hr ?_
      simp only [show (0 ≤ (l.length : Int)) = True from eq_true (by omega), Int.le_refl, if_true, Int.toNat_natCast, List.take_length, List.drop_length]
      refine Ev.bind (same_ev l hl) ?_
      simp only [if_true]
      refine Ev.bind (same_ev [] (by decide)) ?_
      exact cuts_j0 l l [] (cuts_l0 l l [] hl (by omega) (Nat.le_refl _) (Nat.zero_le _) hl (by decide) (fun i hi _ h3 => by omega) l.length 0 (by omega) (by omega))
    · have hb := sel_range l l.length
      have hp := tot_parts l (sel l l.length)
      refine Ev.bind (cut_ev l hl (by omega) h2) (Ev.bind (right_ev l hl) ?_)
      simp only [h, if_true]
      refine Ev.bind (refcut_ev l hl (by omega) h2) ?_
      simp only [show (0 ≤ (sel l l.length : Int)) = True from eq_true (by omega), show ((sel l l.length : Int) ≤ (l.length : Int)) = True from eq_true (by omega), if_true, Int.toNat_natCast]
      refine Ev.bind (same_ev (l.take (sel l l.length)) (by rw [List.length_take]; omega)) ?_
      simp only [if_true]
      refine Ev.bind (same_ev (l.drop (sel l l.length)) (by rw [List.length_drop]; omega)) ?_
      refine cuts_j0 l _ _ (cuts_l0 l _ _ hl (by omega) (by omega) (by omega) (by rw [List.length_take]; omega) (by rw [List.length_drop]; omega) (fun i hi hf h3 => ?_) l.length 0 (by omega) (by omega))
      have hm := fits_without l h3 i hi hf (right_elen l h i hi)
      unfold most at hm
      omega
  · obtain ⟨r, hr⟩ := cut_ev_any l hl
    refine Ev.bind hr (Ev.bind (right_ev l hl) ?_)
    simp only [h, if_false]
    exact Ev.now _
theorem LeafCuts_walk (A0 : Option Addr) (c0 : Nat) (l : List S78) (W : World) (hC : Kd.C k78 W A0 l.length l) (hc : l.length ≤ c0) (hl : l.length < 4398046511104) :
    Calls Try.prog 7 #[.slice A0 l.length c0] W fun e w' => e = .returned (.bool true) ∧ Below W.heap.size W w' := by
  obtain ⟨k, h⟩ := LeafCuts l hl
  exact aumbrylaw13_LeafCuts.calls k A0 c0 l true W hC hc h

end Go.Proofs.Ytdieanikopjbjaa.QLeafC
