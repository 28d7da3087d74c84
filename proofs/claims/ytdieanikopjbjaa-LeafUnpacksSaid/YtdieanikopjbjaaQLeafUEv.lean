/- Plain facts about lists of entries and their pages, and what the printed functions of the leaf come to. No condition beside lists shorter than 2^42. -/
import Derived.Test.YtdieanikopjbjaaQLeafUx1
import Derived.Test.YtdieanikopjbjaaQLeafUx2
import Derived.Test.YtdieanikopjbjaaQLeafUx3
import Derived.Test.YtdieanikopjbjaaQLeafUx4
import Derived.Test.YtdieanikopjbjaaQLeafUx5
import Derived.Test.YtdieanikopjbjaaQLeafUx6
import Derived.Test.YtdieanikopjbjaaQLeafUx7
import Derived.Test.YtdieanikopjbjaaPadPlain
namespace Go.Proofs.Ytdieanikopjbjaa.QLeafU
open Go.RowKit Go.Proofs.YtdieanikopjbjaaW.PrintWords Go.Proofs.YtdieanikopjbjaaW.PrintLast Go.Proofs.YtdieanikopjbjaaW.PrintMore Go.Proofs.Ytdieanikopjbjaa.MixBase Go.Proofs.Ytdieanikopjbjaa.MixPlain Go.Proofs.Ytdieanikopjbjaa.NumBase Go.Proofs.Ytdieanikopjbjaa.PadPlain

theorem repeat_f (m : Nat) (h : m ≤ 65536) : strings_Repeat.f (⟨#[0]⟩ : ByteArray) (m : Int) = some (zeros m) := by
  unfold strings_Repeat.f
  rw [if_pos (by omega), if_pos (by omega), if_pos (by simp [ByteArray.size]; omega), show ((m : Int)).toNat = m by omega, repeat_zeros]
theorem num_pad_ev (s : ByteArray) (hs : (s.size : Int) ≤ 140737488351232) (n : Int) : Ev (fun k => num_Pad.f k s n) (padSpec s n) := by
  unfold num_Pad.f padSpec
  by_cases h : n < 0
  · simp only [h, if_true, true_or]
    refine Ev.step (f := fun _ => some (⟨#[]⟩, 1)) (fun k => ?_) (Ev.now _)
    simp only [num_Pad.j0, if_true]
  · simp only [h, if_false, false_or]
    by_cases h1 : 65536 < n
    · simp only [show (n > 65536) = True from eq_true h1, decide_true, if_true]
      refine Ev.step (f := fun _ => some (⟨#[]⟩, 1)) (fun k => ?_) (Ev.now _)
      simp only [num_Pad.j0, if_true]
    · simp only [show (n > 65536) = False from eq_false h1, decide_false, if_false]
      by_cases h2 : n < (s.size : Int)
      · rw [if_pos h2]
        refine Ev.step (f := fun _ => some (⟨#[]⟩, 2)) (fun k => ?_) (Ev.now _)
        simp only [num_Pad.j0]
        rw [if_neg (by decide), if_pos h2]
      · rw [if_neg h2]
        obtain ⟨m, rfl⟩ : ∃ m : Nat, n = (s.size : Int) + m := ⟨(n - s.size).toNat, by omega⟩
        rw [show ((s.size : Int) + m - s.size).toNat = m by omega]
        refine Ev.step (f := fun _ => some (s ++ zeros m, 0)) (fun k => ?_) (Ev.now _)
        simp only [num_Pad.j0]
        rw [if_neg (by decide), if_neg (by omega), wrap64_small (by omega) (by omega), show (s.size : Int) + m - s.size = m by omega, repeat_f m (by omega)]
        simp only [Option.bind_some]
        rw [zeros_size, if_pos (by omega)]
/-- How many bytes an entry takes; a list's entries together. -/
def elen (x : S78) : Nat := 2 + x.f0.size + x.f1.size
def tot (l : List S78) : Nat := (l.map elen).sum
theorem tot_cons (x : S78) (l : List S78) : tot (x :: l) = elen x + tot l := by simp [tot]
theorem tot_nil : tot [] = 0 := rfl
/-- An entry's bytes; a list's. -/
def entBytes (x : S78) : List Int := [(x.f0.size : Int) % 256] ++ bytesOf x.f0 ++ [(x.f1.size : Int) % 256] ++ bytesOf x.f1
def flat : List S78 → List Int
  | [] => []
  | x :: l => entBytes x ++ flat l
theorem entBytes_length (x : S78) : (entBytes x).length = elen x := by
  unfold entBytes elen
  simp only [List.length_append, List.length_cons, List.length_nil, bytesOf_length]
  omega
theorem flat_length (l : List S78) : (flat l).length = tot l := by
  induction l with
  | nil => rfl
  | cons x l ih => rw [flat, List.length_append, entBytes_length, ih, tot_cons]
theorem entBytes_range (x : S78) : ∀ c ∈ entBytes x, 0 ≤ c ∧ c < 256 := by
  intro c h
  unfold entBytes at h
  simp only [List.mem_append, List.mem_cons, List.not_mem_nil, or_false] at h
  rcases h with ((h | h) | h) | h
  · omega
  · exact bytesOf_range _ c h
  · omega
  · exact bytesOf_range _ c h
theorem flat_range (l : List S78) : ∀ c ∈ flat l, 0 ≤ c ∧ c < 256 := by
  induction l with
  | nil => intro c h; simp [flat] at h
  | cons x l ih =>
    intro c h
    rw [flat, List.mem_append] at h
    rcases h with h | h
    · exact entBytes_range x c h
    · exact ih c h
theorem drop_rd (l : List S78) (i : Nat) (h : i < l.length) : l.drop i = rd_T78 l (i : Int) :: l.drop (i + 1) := by
  rw [List.drop_eq_getElem_cons h]
  congr 1
  rw [rd_T78, List.getD_eq_getElem?_getD, show ((i : Int)).toNat = i by omega, List.getElem?_eq_getElem h]
  rfl
/-- Why what stands from a place on isn't right: 0, where it is. -/
def rightFrom : Option ByteArray → List S78 → Int
  | _, [] => 0
  | p, x :: l => if x.f0.size > 32 ∨ x.f1.size > 64 then 2 else if (∃ q, p = some q ∧ ¬ Op.bytesLess q.toList x.f0.toList = true) then 19 else rightFrom (some x.f0) l
def prevOf (l : List S78) (i : Nat) : Option ByteArray := if i = 0 then none else some (rd_T78 l ((i : Int) - 1)).f0
theorem prevOf_succ (l : List S78) (i : Nat) : prevOf l (i + 1) = some (rd_T78 l (i : Int)).f0 := by
  unfold prevOf
  rw [if_neg (by omega), show ((i + 1 : Nat) : Int) - 1 = (i : Int) by omega]
theorem right_tot (p : Option ByteArray) (l : List S78) (h : rightFrom p l = 0) : tot l ≤ 98 * l.length := by
  induction l generalizing p with
  | nil => exact Nat.le_refl _
  | cons x l ih =>
    rw [rightFrom] at h
    split at h
    · exact absurd h (by decide)
    · rename_i h1
      split at h
      · exact absurd h (by decide)
      · have := ih _ h
        rw [tot_cons, List.length_cons]
        unfold elen
        omega
theorem tot_ge (l : List S78) : 2 * l.length ≤ tot l := by
  induction l with
  | nil => exact Nat.le_refl _
  | cons x l ih =>
    rw [tot_cons, List.length_cons]
    unfold elen
    omega
/-- A page's numbers; the page. -/
def pageNums (a : Int) (l : List S78) : List Int := [a % 256, (l.length : Int) % 256] ++ flat l
def page (a : Int) (l : List S78) : ByteArray := strOfNums (pageNums a l) ++ zeros (256 - (2 + tot l))
theorem pageNums_length (a : Int) (l : List S78) : (pageNums a l).length = 2 + tot l := by
  unfold pageNums
  rw [List.length_append, flat_length]
  rfl
theorem pageNums_range (a : Int) (l : List S78) : ∀ c ∈ pageNums a l, 0 ≤ c ∧ c < 256 := by
  intro c h
  unfold pageNums at h
  simp only [List.mem_append, List.mem_cons, List.not_mem_nil, or_false] at h
  rcases h with (h | h) | h
  · omega
  · omega
  · exact flat_range l c h
def packTail (a : Int) (l : List S78) : ByteArray × Int := if 2 + tot l > 256 then (⟨#[]⟩, 16) else (page a l, 0)
def packSpec (a : Int) (l : List S78) : ByteArray × Int :=
  if a = 1 ∨ a = 2 then (if rightFrom none l = 0 then packTail a l else (⟨#[]⟩, rightFrom none l)) else (⟨#[]⟩, 1)
theorem wrap_wrap (a b : Int) : wrap64 (wrap64 a + b) = wrap64 (a + b) := by
  unfold wrap64
  omega
theorem wrap_wrap' (a b : Int) : wrap64 (a + wrap64 b) = wrap64 (a + b) := by
  unfold wrap64
  omega
theorem size_l0 (l : List S78) (hl : l.length < 4398046511104) (d : Nat) : ∀ (i : Nat) (c : Int), i ≤ l.length → l.length - i = d →
    Ev (fun k => leaf_Size.l0 k (wrap64 c) l (l.length : Int) (i : Int)) (wrap64 (c + tot (l.drop i))) := by
  induction d with
  | zero =>
    intro i c hi hd
    refine Ev.step (f := fun _ => some (wrap64 (c + tot (l.drop i)))) (fun k => ?_) (Ev.now _)
    simp only [leaf_Size.l0]
    rw [if_neg (by omega), List.drop_eq_nil_of_le (by omega), tot_nil, Int.natCast_zero, Int.add_zero]
  | succ d ih =>
    intro i c hi hd
    refine Ev.step (f := fun k => leaf_Size.l0 k (wrap64 (c + elen (rd_T78 l (i : Int)))) l (l.length : Int) ((i + 1 : Nat) : Int)) (fun k => ?_) ?_
    · simp only [leaf_Size.l0]
      have e : wrap64 (wrap64 c + wrap64 (wrap64 (2 + ((rd_T78 l (i : Int)).f0.size : Int)) + ((rd_T78 l (i : Int)).f1.size : Int))) = wrap64 (c + elen (rd_T78 l (i : Int))) := by
        rw [wrap_wrap (2 + _) _, wrap_wrap c _, wrap_wrap' c _]
        rfl
      rw [if_pos (by omega), if_pos (by omega), if_pos (by omega), wrap64_small (i := (i : Int) + 1) (by omega) (by omega), e]
      rfl
    · have h := ih (i + 1) (c + elen (rd_T78 l (i : Int))) (by omega) (by omega)
      rw [drop_rd l i (by omega), tot_cons, show c + ((elen (rd_T78 l (i : Int)) + tot (l.drop (i + 1)) : Nat) : Int) = c + elen (rd_T78 l (i : Int)) + tot (l.drop (i + 1)) by omega]
      exact h
theorem size_ev (l : List S78) (hl : l.length < 4398046511104) : Ev (fun k => leaf_Size.f k l) (wrap64 (2 + tot l)) := by
  unfold leaf_Size.f
  have h := size_l0 l hl l.length 0 2 (by omega) (by omega)
  rw [List.drop_zero, wrap64_small (i := 2) (by omega) (by omega)] at h
  exact h
theorem pack_l1 (l : List S78) (hl : l.length < 4398046511104) (d : Nat) : ∀ (i : Nat) (x : List Int), i ≤ l.length → l.length - i = d → x.length + tot (l.drop i) ≤ 256 →
    Ev (fun k => leaf_Pack.l1 k x l (l.length : Int) (i : Int)) (padSpec (strOfNums (x ++ flat (l.drop i))) 256) := by
  induction d with
  | zero =>
    intro i x hi hd hx
    refine Ev.step (f := fun k => (num_Pad.f k (strOfNums x) 256).bind fun b => some (b.1, b.2)) (fun k => ?_) ?_
    · simp only [leaf_Pack.l1]
      rw [if_neg (by omega)]
    · rw [List.drop_eq_nil_of_le (by omega), flat, List.append_nil]
      exact Ev.bind (num_pad_ev (strOfNums x) (by rw [strOfNums_size]; omega) 256) (Ev.now _)
  | succ d ih =>
    intro i x hi hd hx
    rw [drop_rd l i (by omega), tot_cons] at hx
    refine Ev.step (f := fun k => leaf_Pack.l1 k (x ++ entBytes (rd_T78 l (i : Int))) l (l.length : Int) ((i + 1 : Nat) : Int)) (fun k => ?_) ?_
    · simp only [leaf_Pack.l1]
      unfold elen at hx
      rw [if_pos (by omega), if_pos (by omega), if_pos (by omega), if_pos (by omega)]
      simp only [Option.bind_some, List.length_append, List.length_cons, List.length_nil, bytesOf_length]
      rw [if_pos (by omega), if_pos (by omega), if_pos (by omega), wrap64_small (i := (i : Int) + 1) (by omega) (by omega)]
      unfold entBytes
      simp only [List.append_assoc]
      rfl
    · have h := ih (i + 1) (x ++ entBytes (rd_T78 l (i : Int))) (by omega) (by omega) (by rw [List.length_append, entBytes_length]; omega)
      rw [drop_rd l i (by omega), flat, ← List.append_assoc]
      exact h
theorem pack_l0 (a : Int) (l : List S78) (hl : l.length < 4398046511104) (R : ByteArray × Int) (hR : rightFrom none l = 0 → Ev (fun k => leaf_Pack.l0 k a l l (l.length : Int) (l.length : Int)) R) (d : Nat) : ∀ (i : Nat), i ≤ l.length → l.length - i = d → rightFrom none l = rightFrom (prevOf l i) (l.drop i) →
    Ev (fun k => leaf_Pack.l0 k a l l (l.length : Int) (i : Int)) (if rightFrom none l = 0 then R else (⟨#[]⟩, rightFrom none l)) := by
  induction d with
  | zero =>
    intro i hi hd he
    obtain rfl : i = l.length := by omega
    rw [List.drop_eq_nil_of_le (by omega), rightFrom] at he
    rw [if_pos he]
    exact hR he
  | succ d ih =>
    intro i hi hd he
    have hlt : (i : Int) < (l.length : Int) := by omega
    rw [drop_rd l i (by omega), rightFrom] at he
    have hn := ih (i + 1) (by omega) (by omega)
    rw [prevOf_succ] at hn
    by_cases h1 : (rd_T78 l (i : Int)).f0.size > 32
    · rw [if_pos (.inl h1)] at he
      rw [he, if_neg (by decide)]
      refine Ev.step (f := fun k => leaf_Pack.j2 k a l (i : Int) l (l.length : Int) (i : Int) true (rd_T78 l (i : Int)).f0 (rd_T78 l (i : Int)).f1) (fun k => ?_) (Ev.step (f := fun _ => some (⟨#[]⟩, 2)) (fun k => ?_) (Ev.now _))
      · simp only [leaf_Pack.l0]
        rw [if_pos hlt, if_pos (by omega), if_pos hlt, if_pos (by omega)]
      · simp only [leaf_Pack.j2, if_true]
    · by_cases h2 : (rd_T78 l (i : Int)).f1.size > 64
      · rw [if_pos (.inr h2)] at he
        rw [he, if_neg (by decide)]
        refine Ev.step (f := fun k => leaf_Pack.j2 k a l (i : Int) l (l.length : Int) (i : Int) true (rd_T78 l (i : Int)).f0 (rd_T78 l (i : Int)).f1) (fun k => ?_) (Ev.step (f := fun _ => some (⟨#[]⟩, 2)) (fun k => ?_) (Ev.now _))
        · simp only [leaf_Pack.l0]
          rw [if_pos hlt, if_pos (by omega), if_pos hlt, if_neg (by omega), decide_eq_true (by omega)]
        · simp only [leaf_Pack.j2, if_true]
      · rw [if_neg (by omega)] at he
        refine Ev.step (f := fun k => leaf_Pack.j2 k a l (i : Int) l (l.length : Int) (i : Int) false (rd_T78 l (i : Int)).f0 (rd_T78 l (i : Int)).f1) (fun k => ?_) ?_
        · simp only [leaf_Pack.l0]
          rw [if_pos hlt, if_pos (by omega), if_pos hlt, if_neg (by omega), decide_eq_false (by omega)]
        · by_cases h0 : i = 0
          · subst h0
            rw [if_neg (by rintro ⟨q, hq, _⟩; simp [prevOf] at hq)] at he
            refine Ev.step (f := fun k => leaf_Pack.l0 k a l l (l.length : Int) ((0 + 1 : Nat) : Int)) (fun k => ?_) (hn he)
            simp only [leaf_Pack.j2]
            rw [if_neg (by decide), if_neg (by omega), wrap64_small (by omega) (by omega)]
            rfl
          · have hp : prevOf l i = some (rd_T78 l ((i : Int) - 1)).f0 := by unfold prevOf; rw [if_neg h0]
            rw [hp] at he
            by_cases h3 : Op.bytesLess (rd_T78 l ((i : Int) - 1)).f0.toList (rd_T78 l (i : Int)).f0.toList = true
            · rw [if_neg (by rintro ⟨q, hq, hb⟩; injection hq with hq; rw [← hq] at hb; exact hb h3)] at he
              refine Ev.step (f := fun k => leaf_Pack.l0 k a l l (l.length : Int) ((i + 1 : Nat) : Int)) (fun k => ?_) (hn he)
              simp only [leaf_Pack.j2]
              rw [if_neg (by decide), if_pos (by omega), wrap64_small (i := (i : Int) - 1) (by omega) (by omega), if_pos (by omega), if_pos (by omega), if_pos h3, wrap64_small (by omega) (by omega)]
              rfl
            · rw [if_pos ⟨_, rfl, h3⟩] at he
              rw [he, if_neg (by decide)]
              refine Ev.step (f := fun _ => some (⟨#[]⟩, 19)) (fun k => ?_) (Ev.now _)
              simp only [leaf_Pack.j2]
              rw [if_neg (by decide), if_pos (by omega), wrap64_small (i := (i : Int) - 1) (by omega) (by omega), if_pos (by omega), if_pos (by omega), if_neg h3]
theorem pack_ev (a : Int) (l : List S78) (hl : l.length < 4398046511104) : Ev (fun k => leaf_Pack.f k a l) (packSpec a l) := by
  have hend : rightFrom none l = 0 → Ev (fun k => leaf_Pack.l0 k a l l (l.length : Int) (l.length : Int)) (packTail a l) := by
    intro h
    have ht := right_tot none l h
    refine Ev.step (f := fun k => (leaf_Size.f k l).bind fun t => if t > 256 then some ((⟨#[]⟩ : ByteArray), 16) else leaf_Pack.l1 k ([a % 256, (l.length : Int) % 256] : List Int) l (l.length : Int) 0) (fun k => ?_) (Ev.bind (size_ev l hl) ?_)
    · simp only [leaf_Pack.l0]
      rw [if_neg (by omega)]
    · rw [wrap64_small (by omega) (by omega)]
      unfold packTail
      by_cases h5 : 2 + tot l > 256
      · rw [if_pos h5]
        simp only [show (2 + (tot l : Int) > 256) = True from eq_true (by omega), if_true]
        exact Ev.now _
      · rw [if_neg h5]
        simp only [show (2 + (tot l : Int) > 256) = False from eq_false (by omega), if_false]
        have h := pack_l1 l hl l.length 0 [a % 256, (l.length : Int) % 256] (by omega) (by omega) (by simp; omega)
        rw [List.drop_zero] at h
        have e : padSpec (strOfNums ([a % 256, (l.length : Int) % 256] ++ flat l)) 256 = (page a l, 0) := by
          have hz : (strOfNums ([a % 256, (l.length : Int) % 256] ++ flat l)).size = 2 + tot l := by rw [strOfNums_size, ← pageNums_length a l]; rfl
          unfold padSpec
          rw [if_neg (by omega), hz, if_neg (by omega)]
          unfold page
          rw [show ((256 : Int) - ((2 + tot l : Nat) : Int)).toNat = 256 - (2 + tot l) by omega]
          rfl
        rw [e] at h
        exact h
  have hl0 := pack_l0 a l hl (packTail a l) hend l.length 0 (by omega) (by omega) (by rw [List.drop_zero]; rfl)
  have hj : ∀ b, b = false → Ev (fun k => leaf_Pack.j0 k a l b) (if rightFrom none l = 0 then packTail a l else (⟨#[]⟩, rightFrom none l)) := by
    rintro b rfl
    refine Ev.step (fun k => ?_) hl0
    simp only [leaf_Pack.j0]
    rw [if_neg (by decide)]
    rfl
  unfold leaf_Pack.f packSpec
  by_cases h1 : a = 1
  · simp only [h1, if_true, true_or]
    rw [h1] at hj
    exact hj false rfl
  · by_cases h2 : a = 2
    · have e : (a != 2) = false := by rw [h2]; rfl
      rw [if_pos (.inr h2)]
      simp only [h1, if_false]
      exact hj _ e
    · have e : (a != 2) = true := by rw [bne_iff_ne]; exact h2
      rw [if_neg (by omega)]
      simp only [h1, if_false, e]
      refine Ev.step (f := fun _ => some (⟨#[]⟩, 1)) (fun k => ?_) (Ev.now _)
      simp only [leaf_Pack.j0, if_true]
theorem refsize_l0 (l : List S78) (hl : l.length < 4398046511104) (d : Nat) : ∀ (i : Nat) (c : Int), i ≤ l.length → l.length - i = d →
    Ev (fun k => aumbryref13_Size.l0 k l (wrap64 c) (l.length : Int) (i : Int)) (wrap64 (c + tot (l.drop i))) := by
  induction d with
  | zero =>
    intro i c hi hd
    refine Ev.step (f := fun _ => some (wrap64 (c + tot (l.drop i)))) (fun k => ?_) (Ev.now _)
    simp only [aumbryref13_Size.l0]
    rw [if_neg (by omega), List.drop_eq_nil_of_le (by omega), tot_nil, Int.natCast_zero, Int.add_zero]
  | succ d ih =>
    intro i c hi hd
    refine Ev.step (f := fun k => aumbryref13_Size.l0 k l (wrap64 (c + elen (rd_T78 l (i : Int)))) (l.length : Int) ((i + 1 : Nat) : Int)) (fun k => ?_) ?_
    · simp only [aumbryref13_Size.l0]
      have e : wrap64 (wrap64 c + wrap64 (wrap64 (((rd_T78 l (i : Int)).f0.size : Int) + ((rd_T78 l (i : Int)).f1.size : Int)) + 2)) = wrap64 (c + elen (rd_T78 l (i : Int))) := by
        rw [wrap_wrap (((rd_T78 l (i : Int)).f0.size : Int) + ((rd_T78 l (i : Int)).f1.size : Int)) 2, wrap_wrap c _, wrap_wrap' c _]
        congr 1
        unfold elen
        omega
      rw [if_pos (by omega), if_pos (by omega), if_pos (by omega), wrap64_small (i := (i : Int) + 1) (by omega) (by omega), e]
      rfl
    · have h := ih (i + 1) (c + elen (rd_T78 l (i : Int))) (by omega) (by omega)
      rw [drop_rd l i (by omega), tot_cons, show c + ((elen (rd_T78 l (i : Int)) + tot (l.drop (i + 1)) : Nat) : Int) = c + elen (rd_T78 l (i : Int)) + tot (l.drop (i + 1)) by omega]
      exact h
theorem refsize_ev (l : List S78) (hl : l.length < 4398046511104) : Ev (fun k => aumbryref13_Size.f k l) (wrap64 (2 + tot l)) := by
  unfold aumbryref13_Size.f
  have h := refsize_l0 l hl l.length 0 2 (by omega) (by omega)
  rw [List.drop_zero, wrap64_small (i := 2) (by omega) (by omega)] at h
  exact h
theorem right_l0 (l : List S78) (hl : l.length < 4398046511104) (d : Nat) : ∀ (i : Nat), i ≤ l.length → l.length - i = d →
    Ev (fun k => aumbryref13_Right.l0 k l (l.length : Int) (i : Int)) (rightFrom (prevOf l i) (l.drop i)) := by
  induction d with
  | zero =>
    intro i hi hd
    obtain rfl : i = l.length := by omega
    rw [List.drop_eq_nil_of_le (by omega), rightFrom]
    refine Ev.step (f := fun _ => some 0) (fun k => ?_) (Ev.now _)
    simp only [aumbryref13_Right.l0]
    rw [if_neg (by omega)]
  | succ d ih =>
    intro i hi hd
    have hlt : (i : Int) < (l.length : Int) := by omega
    have hn := ih (i + 1) (by omega) (by omega)
    rw [prevOf_succ] at hn
    rw [drop_rd l i (by omega), rightFrom]
    by_cases h1 : (rd_T78 l (i : Int)).f0.size > 32
    · rw [if_pos (.inl h1)]
      refine Ev.step (f := fun k => aumbryref13_Right.j1 k l (i : Int) (l.length : Int) (i : Int) true) (fun k => ?_) (Ev.step (f := fun _ => some 2) (fun k => ?_) (Ev.now _))
      · simp only [aumbryref13_Right.l0]
        rw [if_pos hlt, if_pos (by omega), if_pos hlt, if_pos (by omega)]
      · simp only [aumbryref13_Right.j1, if_true]
    · by_cases h2 : (rd_T78 l (i : Int)).f1.size > 64
      · rw [if_pos (.inr h2)]
        refine Ev.step (f := fun k => aumbryref13_Right.j1 k l (i : Int) (l.length : Int) (i : Int) true) (fun k => ?_) (Ev.step (f := fun _ => some 2) (fun k => ?_) (Ev.now _))
        · simp only [aumbryref13_Right.l0]
          rw [if_pos hlt, if_pos (by omega), if_pos hlt, if_neg (by omega), decide_eq_true (by omega)]
        · simp only [aumbryref13_Right.j1, if_true]
      · rw [if_neg (by omega)]
        refine Ev.step (f := fun k => aumbryref13_Right.j1 k l (i : Int) (l.length : Int) (i : Int) false) (fun k => ?_) ?_
        · simp only [aumbryref13_Right.l0]
          rw [if_pos hlt, if_pos (by omega), if_pos hlt, if_neg (by omega), decide_eq_false (by omega)]
        · by_cases h0 : i = 0
          · subst h0
            rw [if_neg (by rintro ⟨q, hq, _⟩; simp [prevOf] at hq)]
            refine Ev.step (f := fun k => aumbryref13_Right.l0 k l (l.length : Int) ((0 + 1 : Nat) : Int)) (fun k => ?_) hn
            simp only [aumbryref13_Right.j1]
            rw [if_neg (by decide), if_neg (by omega), wrap64_small (by omega) (by omega)]
            rfl
          · have hp : prevOf l i = some (rd_T78 l ((i : Int) - 1)).f0 := by unfold prevOf; rw [if_neg h0]
            rw [hp]
            by_cases h3 : Op.bytesLess (rd_T78 l ((i : Int) - 1)).f0.toList (rd_T78 l (i : Int)).f0.toList = true
            · rw [if_neg (by rintro ⟨q, hq, hb⟩; injection hq with hq; rw [← hq] at hb; exact hb h3)]
              refine Ev.step (f := fun k => aumbryref13_Right.l0 k l (l.length : Int) ((i + 1 : Nat) : Int)) (fun k => ?_) hn
              simp only [aumbryref13_Right.j1]
              rw [if_neg (by decide), if_pos (by omega), if_pos (by omega), if_pos hlt, wrap64_small (i := (i : Int) - 1) (by omega) (by omega), if_pos (by omega), if_pos (by omega), if_pos h3, wrap64_small (by omega) (by omega)]
              rfl
            · rw [if_pos ⟨_, rfl, h3⟩]
              refine Ev.step (f := fun _ => some 19) (fun k => ?_) (Ev.now _)
              simp only [aumbryref13_Right.j1]
              rw [if_neg (by decide), if_pos (by omega), if_pos (by omega), if_pos hlt, wrap64_small (i := (i : Int) - 1) (by omega) (by omega), if_pos (by omega), if_pos (by omega), if_neg h3]
theorem right_ev (l : List S78) (hl : l.length < 4398046511104) : Ev (fun k => aumbryref13_Right.f k l) (rightFrom none l) := by
  have h := right_l0 l hl l.length 0 (by omega) (by omega)
  rw [List.drop_zero] at h
  exact h
theorem strOf_append (x y : List Int) : strOfNums x ++ strOfNums y = strOfNums (x ++ y) := by
  apply ByteArray.ext
  apply Array.ext'
  simp [strOfNums]
theorem strOf_bytes (s : ByteArray) : strOfNums (bytesOf s) = s := bytesOf_inj (bytes_nums _ (bytesOf_range s))
theorem ent_str (x : S78) : ((strOfNums [(x.f0.size : Int) % 256] ++ x.f0) ++ strOfNums [(x.f1.size : Int) % 256]) ++ x.f1 = strOfNums (entBytes x) := by
  unfold entBytes
  rw [← strOf_append, ← strOf_append, ← strOf_append, strOf_bytes, strOf_bytes]
theorem refzeros_f (m : Nat) (h : m ≤ 256) : aumbryref01_Zeros.f (m : Int) = some (zeros m) := by
  unfold aumbryref01_Zeros.f
  rw [if_pos (by omega), if_pos (by omega)]
  rfl
theorem refpack_l0 (l : List S78) (hl : l.length < 4398046511104) (d : Nat) : ∀ (i : Nat) (x : List Int), i ≤ l.length → l.length - i = d → x.length + tot (l.drop i) ≤ 256 →
    Ev (fun k => aumbryref13_Pack.l0 k l (strOfNums x) (l.length : Int) (i : Int)) (strOfNums (x ++ flat (l.drop i)) ++ zeros (256 - (x.length + tot (l.drop i))), 0) := by
  induction d with
  | zero =>
    intro i x hi hd hx
    rw [List.drop_eq_nil_of_le (by omega), tot_nil] at hx
    refine Ev.step (f := fun _ => some (strOfNums (x ++ flat (l.drop i)) ++ zeros (256 - (x.length + tot (l.drop i))), 0)) (fun k => ?_) (Ev.now _)
    simp only [aumbryref13_Pack.l0]
    rw [if_neg (by omega), List.drop_eq_nil_of_le (by omega), flat, tot_nil, List.append_nil, strOfNums_size, wrap64_small (by omega) (by omega), show (256 : Int) - (x.length : Int) = ((256 - (x.length + 0) : Nat) : Int) by omega, refzeros_f _ (by omega)]
    simp only [Option.bind_some]
    rw [zeros_size, if_pos (by omega)]
  | succ d ih =>
    intro i x hi hd hx
    rw [drop_rd l i (by omega), tot_cons] at hx
    refine Ev.step (f := fun k => aumbryref13_Pack.l0 k l (strOfNums (x ++ entBytes (rd_T78 l (i : Int)))) (l.length : Int) ((i + 1 : Nat) : Int)) (fun k => ?_) ?_
    · simp only [aumbryref13_Pack.l0]
      have e1 : (strOfNums [((rd_T78 l (i : Int)).f0.size : Int) % 256]).size = 1 := strOfNums_size _
      have e2 : (strOfNums [((rd_T78 l (i : Int)).f1.size : Int) % 256]).size = 1 := strOfNums_size _
      unfold elen at hx
      rw [if_pos (by omega), if_pos (by omega), if_pos (by omega)]
      simp only [Option.bind_some]
      rw [if_pos (by rw [e1]; omega), if_pos (by rw [ByteArray.size_append, e1, e2]; omega), if_pos (by rw [ByteArray.size_append, ByteArray.size_append, e1, e2]; omega), ent_str,
        if_pos (by rw [strOfNums_size, strOfNums_size, entBytes_length]; unfold elen; omega), strOf_append, wrap64_small (i := (i : Int) + 1) (by omega) (by omega)]
      rfl
    · have h := ih (i + 1) (x ++ entBytes (rd_T78 l (i : Int))) (by omega) (by omega) (by rw [List.length_append, entBytes_length]; omega)
      rw [drop_rd l i (by omega), flat, ← List.append_assoc, tot_cons, ← Nat.add_assoc]
      rw [List.length_append, entBytes_length] at h
      exact h
theorem refpack_ev (a : Int) (l : List S78) (hl : l.length < 4398046511104) : Ev (fun k => aumbryref13_Pack.f k a l) (packSpec a l) := by
  have hj : Ev (fun k => aumbryref13_Pack.j0 k a l false) (if rightFrom none l = 0 then packTail a l else (⟨#[]⟩, rightFrom none l)) := by
    refine Ev.step (f := fun k => (aumbryref13_Right.f k l).bind fun t => if t = 0 then ((aumbryref13_Size.f k l).bind fun t2 => (if t2 > 256 then (some ((⟨#[]⟩ : ByteArray), 16)) else (aumbryref13_Pack.l0 k l (strOfNums (([a % 256, (l.length : Int) % 256] : List Int))) (l.length : Int) 0))) else (some ((⟨#[]⟩ : ByteArray), t))) (fun k => ?_) (Ev.bind (right_ev l hl) ?_)
    · simp only [aumbryref13_Pack.j0]
      rw [if_neg (by decide)]
    · by_cases h : rightFrom none l = 0
      · have ht := right_tot none l h
        simp only [h, if_true]
        refine Ev.bind (refsize_ev l hl) ?_
        rw [wrap64_small (by omega) (by omega)]
        unfold packTail
        by_cases h5 : 2 + tot l > 256
        · rw [if_pos h5]
          simp only [show (2 + (tot l : Int) > 256) = True from eq_true (by omega), if_true]
          exact Ev.now _
        · rw [if_neg h5]
          simp only [show (2 + (tot l : Int) > 256) = False from eq_false (by omega), if_false]
          have h := refpack_l0 l hl l.length 0 [a % 256, (l.length : Int) % 256] (by omega) (by omega) (by simp; omega)
          rw [List.drop_zero] at h
          exact h
      · simp only [h, if_false]
        exact Ev.now _
  unfold aumbryref13_Pack.f packSpec
  by_cases h1 : a = 1
  · simp only [h1, if_true, true_or]
    rw [h1] at hj
    exact hj
  · by_cases h2 : a = 2
    · have e : (a != 2) = false := by rw [h2]; rfl
      rw [if_pos (.inr h2)]
      simp only [h1, if_false, e]
      exact hj
    · have e : (a != 2) = true := by rw [bne_iff_ne]; exact h2
      rw [if_neg (by omega)]
      simp only [h1, if_false, e]
      refine Ev.step (f := fun _ => some (⟨#[]⟩, 1)) (fun k => ?_) (Ev.now _)
      simp only [aumbryref13_Pack.j0, if_true]
/-- The text that stands at a place behind its length, and the place behind it. -/
def pieceSpec (s : ByteArray) (at_ : Int) : Option (ByteArray × Int) :=
  if at_ ≥ (s.size : Int) then none else (if at_ + 1 + bt s at_ > (s.size : Int) then none else some (s.extract (at_ + 1).toNat (at_ + 1 + bt s at_).toNat, at_ + 1 + bt s at_))
def parse (s : ByteArray) : Nat → Int → Option (List S78)
  | 0, _ => some []
  | n + 1, at_ => (pieceSpec s at_).bind fun p => (pieceSpec s p.2).bind fun q => (parse s n q.2).map fun l => (⟨p.1, q.1⟩ : S78) :: l
def unpackFin (s : ByteArray) (l : List S78) : Int × List S78 × Int := if (packSpec (bt s 0) l).2 = 0 ∧ (packSpec (bt s 0) l).1.toList = s.toList then (bt s 0, l, 0) else (0, [], 3)
def unpackSpec (s : ByteArray) : Int × List S78 × Int :=
  if s.size = 256 then (match parse s (bt s 1).toNat 2 with | none => (0, [], 3) | some l => unpackFin s l) else (0, [], 3)
theorem pieceSpec_some {s : ByteArray} {at_ : Int} {p : ByteArray × Int} (h0 : 0 ≤ at_) (h : pieceSpec s at_ = some p) : 0 ≤ p.2 ∧ p.2 ≤ s.size := by
  have hb := bt_range s at_
  unfold pieceSpec at h
  split at h
  · cases h
  · split at h
    · cases h
    · injection h with h
      subst h
      simp only
      omega
theorem piece_f (s : ByteArray) (hs : s.size = 256) (at_ : Int) (h0 : 0 ≤ at_) (h1 : at_ ≤ 256) : leaf_piece.f s at_ = some (match pieceSpec s at_ with | none => ((⟨#[]⟩ : ByteArray), 0, false) | some p => (p.1, p.2, true)) := by
  have hb := bt_range s at_
  unfold leaf_piece.f pieceSpec
  by_cases h2 : at_ ≥ (s.size : Int)
  · rw [if_pos h2, if_pos h2]
  · rw [if_neg h2, if_neg h2, if_pos h0, if_pos (by omega), wrap64_small (i := at_ + 1) (by omega) (by omega), wrap64_small (i := bt s at_) (by omega) (by omega), wrap64_small (i := at_ + 1 + bt s at_) (by omega) (by omega)]
    by_cases h3 : at_ + 1 + bt s at_ > (s.size : Int)
    · rw [if_pos h3, if_pos h3]
    · rw [if_neg h3, if_neg h3, if_pos (by omega), if_pos (by omega), if_pos (by omega)]
theorem unpack_l0 (s : ByteArray) (hs : s.size = 256) (n : Nat) (hn : n ≤ 255) (d : Nat) : ∀ (i : Nat) (x : List S78) (at_ : Int), i ≤ n → n - i = d → x.length ≤ i → 0 ≤ at_ → at_ ≤ 256 →
    Ev (fun k => leaf_Unpack.l0 k s x at_ (n : Int) (i : Int)) (match parse s d at_ with | none => (0, [], 3) | some l => unpackFin s (x ++ l)) := by
  induction d with
  | zero =>
    intro i x at_ hi hd hx h0 h1
    have hb := bt_range s 0
    simp only [parse, List.append_nil]
    refine Ev.step (f := fun k => (leaf_Pack.f k (bt s 0) x).bind fun b => (if b.2 = 0 then (if b.1.toList = s.toList then (some (bt s 0, x, 0)) else (some (0, ([] : List S78), 3))) else (some (0, ([] : List S78), 3)))) (fun k => ?_) (Ev.bind (pack_ev (bt s 0) x (by omega)) ?_)
    · simp only [leaf_Unpack.l0]
      rw [if_neg (by omega), if_pos (by omega), wrap64_small (by omega) (by omega)]
    · unfold unpackFin
      by_cases h2 : (packSpec (bt s 0) x).2 = 0
      · by_cases h3 : (packSpec (bt s 0) x).1.toList = s.toList
        · simp only [h2, h3, if_true, and_self]
          exact Ev.now _
        · simp only [h2, h3, if_true, if_false, and_false]
          exact Ev.now _
      · simp only [h2, if_false, false_and]
        exact Ev.now _
  | succ d ih =>
    intro i x at_ hi hd hx h0 h1
    simp only [parse]
    refine Ev.step (f := fun k => (leaf_piece.f s at_).bind fun b => (if b.2.2 = true then ((leaf_piece.f s b.2.1).bind fun c => (if c.2.2 = true then (if x.length < 4398046511104 then (leaf_Unpack.l0 k s (x ++ [(⟨b.1, c.1⟩ : S78)]) c.2.1 (n : Int) (((i : Int) + 1) % 256)) else (none)) else (some (0, ([] : List S78), 3)))) else (some (0, ([] : List S78), 3)))) (fun k => ?_) ?_
    · simp only [leaf_Unpack.l0]
      rw [if_pos (by omega)]
    · rw [piece_f s hs at_ h0 h1]
      cases hp : pieceSpec s at_ with
      | none =>
        simp only [Option.bind_some, Option.bind_none, Bool.false_eq_true, if_false]
        exact Ev.now _
      | some p =>
        have hp2 := pieceSpec_some h0 hp
        simp only [Option.bind_some, if_true]
        rw [piece_f s hs p.2 hp2.1 (by omega)]
        cases hq : pieceSpec s p.2 with
        | none =>
          simp only [Option.bind_some, Option.bind_none, Bool.false_eq_true, if_false]
          exact Ev.now _
        | some q =>
          have hq2 := pieceSpec_some hp2.1 hq
          simp only [Option.bind_some, if_true]
          have h := ih (i + 1) (x ++ [(⟨p.1, q.1⟩ : S78)]) q.2 (by omega) (by omega) (by rw [List.length_append, List.length_singleton]; omega) hq2.1 (by omega)
          have e : ((i : Int) + 1) % 256 = ((i + 1 : Nat) : Int) := by omega
          simp only [show x.length < 4398046511104 from by omega, if_true, e]
          cases hl : parse s d q.2 with
          | none =>
            rw [hl] at h
            exact h
          | some l =>
            rw [hl] at h
            simp only [List.append_assoc, List.singleton_append] at h
            simp only [Option.map_some]
            exact h
theorem unpack_ev (s : ByteArray) : Ev (fun k => leaf_Unpack.f k s) (unpackSpec s) := by
  unfold leaf_Unpack.f unpackSpec
  by_cases h : s.size = 256
  · have hb := bt_range s 1
    rw [if_pos h]
    simp only [show ((s.size : Int) = 256) = True from eq_true (by omega), show (1 < (s.size : Int)) = True from eq_true (by omega), if_true]
    have hl := unpack_l0 s h (bt s 1).toNat (by omega) (bt s 1).toNat 0 [] 2 (by omega) (by omega) (by simp) (by omega) (by omega)
    rw [show (((bt s 1).toNat : Nat) : Int) = bt s 1 by omega] at hl
    exact hl
  · simp only [show ((s.size : Int) = 256) = False from eq_false (by omega), if_false, h]
    exact Ev.now _
theorem drop_at (s : ByteArray) (at_ : Int) (c : Int) (r : List Int) (h0 : 0 ≤ at_) (h : (bytesOf s).drop at_.toNat = c :: r) : at_ < s.size ∧ bt s at_ = c ∧ (bytesOf s).drop (at_ + 1).toNat = r := by
  have hl : at_ < (s.size : Int) := by
    by_cases hn : at_ < (s.size : Int)
    · exact hn
    · rw [drop_end s at_ (by omega)] at h
      cases h
  have e := drop_byte s at_ h0 hl
  rw [h] at e
  injection e with e1 e2
  exact ⟨hl, e1.symm, e2.symm⟩
theorem piece_at (s k : ByteArray) (at_ : Int) (r : List Int) (h0 : 0 ≤ at_) (hk : k.size < 256) (h : (bytesOf s).drop at_.toNat = [(k.size : Int) % 256] ++ bytesOf k ++ r) :
    pieceSpec s at_ = some (k, at_ + 1 + k.size) ∧ (bytesOf s).drop (at_ + 1 + k.size).toNat = r := by
  rw [List.append_assoc, List.singleton_append] at h
  obtain ⟨h1, h2, h3⟩ := drop_at s at_ _ _ h0 h
  have h4 := congrArg List.length h3
  rw [List.length_drop, bytesOf_length, List.length_append, bytesOf_length] at h4
  have e : (k.size : Int) % 256 = k.size := by omega
  rw [e] at h2
  constructor
  · unfold pieceSpec
    rw [if_neg (by omega), h2, if_neg (by omega)]
    congr 2
    apply bytesOf_inj
    rw [bytes_extract, List.drop_take, h3, show (at_ + 1 + (k.size : Int)).toNat - (at_ + 1).toNat = (bytesOf k).length by rw [bytesOf_length]; omega, List.take_left]
  · rw [show (at_ + 1 + (k.size : Int)).toNat = (at_ + 1).toNat + k.size by omega, ← List.drop_drop, h3, ← bytesOf_length k, List.drop_left]
theorem parse_flat (s : ByteArray) (l : List S78) (p : Option ByteArray) (hp : rightFrom p l = 0) : ∀ (at_ : Int) (r : List Int), 0 ≤ at_ → (bytesOf s).drop at_.toNat = flat l ++ r → parse s l.length at_ = some l := by
  induction l generalizing p with
  | nil => intro at_ r _ _; rfl
  | cons x l ih =>
    intro at_ r h0 h
    rw [rightFrom] at hp
    split at hp
    · exact absurd hp (by decide)
    · rename_i hs
      split at hp
      · exact absurd hp (by decide)
      · rw [flat, entBytes, List.append_assoc, List.append_assoc, List.append_assoc, List.append_assoc] at h
        obtain ⟨a1, a2⟩ := piece_at s x.f0 at_ ([(x.f1.size : Int) % 256] ++ (bytesOf x.f1 ++ (flat l ++ r))) h0 (by omega) (by rw [h, List.append_assoc])
        obtain ⟨b1, b2⟩ := piece_at s x.f1 (at_ + 1 + x.f0.size) (flat l ++ r) (by omega) (by omega) (by rw [a2, List.append_assoc])
        have hh := ih _ hp (at_ + 1 + x.f0.size + 1 + x.f1.size) r (by omega) b2
        rw [List.length_cons, parse, a1]
        simp only [Option.bind_some]
        rw [b1]
        simp only [Option.bind_some]
        rw [hh]
        rfl
theorem page_bytes (a : Int) (l : List S78) : bytesOf (page a l) = pageNums a l ++ List.replicate (256 - (2 + tot l)) 0 := by
  unfold page
  rw [bytesOf_append, bytes_nums _ (pageNums_range a l), zeros_bytes]
theorem page_size (a : Int) (l : List S78) (h : 2 + tot l ≤ 256) : (page a l).size = 256 := by
  unfold page
  rw [ByteArray.size_append, strOfNums_size, pageNums_length, zeros_size]
  omega
theorem pack_ok {a : Int} {l : List S78} (h : (packSpec a l).2 = 0) : (a = 1 ∨ a = 2) ∧ rightFrom none l = 0 ∧ 2 + tot l ≤ 256 ∧ packSpec a l = (page a l, 0) := by
  unfold packSpec at h ⊢
  by_cases h1 : a = 1 ∨ a = 2
  · rw [if_pos h1] at h ⊢
    by_cases h2 : rightFrom none l = 0
    · rw [if_pos h2] at h ⊢
      unfold packTail at h ⊢
      by_cases h3 : 2 + tot l > 256
      · rw [if_pos h3] at h
        cases h
      · rw [if_neg h3]
        exact ⟨h1, h2, by omega, rfl⟩
    · rw [if_neg h2] at h
      exact absurd h h2
  · rw [if_neg h1] at h
    cases h
theorem unpack_pack (a : Int) (l : List S78) (h : (packSpec a l).2 = 0) : unpackSpec (packSpec a l).1 = (a, l, 0) := by
  obtain ⟨h1, h2, h3, h4⟩ := pack_ok h
  have hz := page_size a l h3
  have hg := tot_ge l
  have hb := page_bytes a l
  unfold pageNums at hb
  have d0 : (bytesOf (page a l)).drop (0 : Int).toNat = (a % 256) :: ((l.length : Int) % 256 :: flat l ++ List.replicate (256 - (2 + tot l)) 0) := by
    rw [hb]
    rfl
  obtain ⟨_, e0, d1⟩ := drop_at _ 0 _ _ (by omega) d0
  obtain ⟨_, e1, d2⟩ := drop_at _ (0 + 1) _ _ (by omega) d1
  rw [show (0 : Int) + 1 = 1 by omega] at e1
  rw [show ((0 : Int) + 1 + 1).toNat = (2 : Int).toNat by decide] at d2
  have hp := parse_flat (page a l) l none h2 2 _ (by omega) d2
  rw [h4]
  simp only
  unfold unpackSpec
  rw [if_pos hz, e1, show ((l.length : Int) % 256).toNat = l.length by omega, hp]
  simp only
  unfold unpackFin
  rw [e0, show a % 256 = a by omega, h4]
  simp
theorem same_l0 (l : List S78) (hl : l.length < 4398046511104) (d : Nat) : ∀ (i : Nat), i ≤ l.length → l.length - i = d → Ev (fun k => aumbryref13_Same.l0 k l l (l.length : Int) (i : Int)) true := by
  induction d with
  | zero =>
    intro i hi hd
    refine Ev.step (f := fun _ => some true) (fun k => ?_) (Ev.now _)
    simp only [aumbryref13_Same.l0]
    rw [if_neg (by omega)]
  | succ d ih =>
    intro i hi hd
    refine Ev.step (fun k => ?_) (ih (i + 1) (by omega) (by omega))
    simp only [aumbryref13_Same.l0]
    rw [if_pos (by omega), if_pos (by omega), if_pos (by omega), if_pos (by omega), beq_self_eq_true, beq_self_eq_true, if_neg (by decide), wrap64_small (by omega) (by omega)]
    rfl
theorem same_ev (l : List S78) (hl : l.length < 4398046511104) : Ev (fun k => aumbryref13_Same.f k l l) true := by
  unfold aumbryref13_Same.f
  simp only [if_true]
  exact same_l0 l hl l.length 0 (by omega) (by omega)
theorem wakes_ev : Ev (fun k => aumbrylaw13_wakes.f k) true := by
  have hr : rightFrom none [(⟨⟨#[97]⟩, ⟨#[120]⟩⟩ : S78)] = 0 := by
    simp only [rightFrom]
    rw [if_neg (by decide), if_neg (by rintro ⟨q, hq, _⟩; cases hq)]
  have ht : tot [(⟨⟨#[97]⟩, ⟨#[120]⟩⟩ : S78)] = 4 := rfl
  have hp : packSpec 1 [(⟨⟨#[97]⟩, ⟨#[120]⟩⟩ : S78)] = (page 1 [(⟨⟨#[97]⟩, ⟨#[120]⟩⟩ : S78)], 0) := by
    unfold packSpec packTail
    rw [if_pos (.inl rfl), if_pos hr, ht, if_neg (by omega)]
  have hu := unpack_pack 1 [(⟨⟨#[97]⟩, ⟨#[120]⟩⟩ : S78)] (by rw [hp])
  rw [hp] at hu
  have hz := page_size 1 [(⟨⟨#[97]⟩, ⟨#[120]⟩⟩ : S78)] (by rw [ht]; omega)
  have he : ((page 1 [(⟨⟨#[97]⟩, ⟨#[120]⟩⟩ : S78)]).extract 0 6).toList = ([1, 1, 1, 97, 1, 120] : List UInt8) := by
    have e : (page 1 [(⟨⟨#[97]⟩, ⟨#[120]⟩⟩ : S78)]).extract 0 6 = ⟨#[1, 1, 1, 97, 1, 120]⟩ := by
      apply bytesOf_inj
      rw [extract_bytes0, page_bytes, ht]
      rfl
    rw [e, ByteArray.toList_eq]
  have hf : leaf_Find.f [(⟨⟨#[97]⟩, ⟨#[120]⟩⟩ : S78), (⟨⟨#[99]⟩, ⟨#[]⟩⟩ : S78)] (⟨#[98]⟩ : ByteArray) = some (1, false) := by
    have k1 : leaf_Find.key [(⟨⟨#[97]⟩, ⟨#[120]⟩⟩ : S78), (⟨⟨#[99]⟩, ⟨#[]⟩⟩ : S78)] (⟨#[98]⟩ : ByteArray) 1 = true := by
      simp only [leaf_Find.key, ByteArray.toList_eq]
      decide
    have k0 : leaf_Find.key [(⟨⟨#[97]⟩, ⟨#[120]⟩⟩ : S78), (⟨⟨#[99]⟩, ⟨#[]⟩⟩ : S78)] (⟨#[98]⟩ : ByteArray) 0 = false := by
      simp only [leaf_Find.key, ByteArray.toList_eq]
      decide
    have ha : leaf_Find.at_ [(⟨⟨#[97]⟩, ⟨#[120]⟩⟩ : S78), (⟨⟨#[99]⟩, ⟨#[]⟩⟩ : S78)] (⟨#[98]⟩ : ByteArray) = 1 := by
      simp only [leaf_Find.at_, List.length_cons, List.length_nil, Search.halvings]
      simp [k1, k0]
    unfold leaf_Find.f
    rw [ha, if_pos (by decide), ByteArray.toList_eq, ByteArray.toList_eq]
    decide
  have hsz := size_ev [(⟨⟨#[97]⟩, ⟨#[120]⟩⟩ : S78), (⟨⟨#[99]⟩, ⟨#[]⟩⟩ : S78)] (by decide)
  rw [show wrap64 (2 + (tot [(⟨⟨#[97]⟩, ⟨#[120]⟩⟩ : S78), (⟨⟨#[99]⟩, ⟨#[]⟩⟩ : S78)] : Int)) = 9 from wrap64_small (i := 9) (by omega) (by omega)] at hsz
  unfold aumbrylaw13_wakes.f
  simp only [Option.bind_some]
  simp only [show ((1 : Int) ≤ (([(⟨⟨#[97]⟩, ⟨#[120]⟩⟩ : S78), (⟨⟨#[99]⟩, ⟨#[]⟩⟩ : S78)] : List S78).length : Int)) = True from eq_true (by decide), if_true]
  refine Ev.bind (pack_ev 1 [(⟨⟨#[97]⟩, ⟨#[120]⟩⟩ : S78)] (by decide)) ?_
  rw [hp]
  refine Ev.bind (unpack_ev _) ?_
  simp only
  rw [hu, hf]
  simp only [Option.bind_some, if_true, hz, he]
  refine Ev.congr (fun k => ?_) (Ev.bind hsz (f := fun _ t => some (t == 9)) (Ev.now _))
  rw [if_pos (by decide), if_pos (by decide), if_pos (by decide), if_pos (by decide), if_neg (by decide)]
theorem refpiece (s : ByteArray) (hs : s.size = 256) (at_ : Int) : aumbryref13_Unpack.piece s at_ = pieceSpec s at_ := by
  unfold aumbryref13_Unpack.piece pieceSpec
  by_cases h1 : at_ ≥ 256
  · rw [if_pos h1, if_pos (show at_ ≥ (s.size : Int) by omega)]
  · rw [if_neg h1, if_neg (show ¬ at_ ≥ (s.size : Int) by omega)]
    by_cases h2 : bt s at_ > 255 - at_
    · rw [if_pos h2, if_pos (show at_ + 1 + bt s at_ > (s.size : Int) by omega)]
    · rw [if_neg h2, if_neg (show ¬ at_ + 1 + bt s at_ > (s.size : Int) by omega)]
theorem refunpack_l0 (s : ByteArray) (hs : s.size = 256) (n : Nat) (hn : n ≤ 255) (hb : bt s 1 = n) (d : Nat) : ∀ (i : Nat) (x : List S78) (at_ : Int), i ≤ n → n - i = d → x.length ≤ i →
    Ev (fun k => aumbryref13_Unpack.l0 k s x at_ (i : Int)) (match parse s d at_ with | none => (0, [], 3) | some l => unpackFin s (x ++ l)) := by
  induction d with
  | zero =>
    intro i x at_ hi hd hx
    simp only [parse, List.append_nil]
    refine Ev.step (f := fun k => (aumbryref13_Pack.f k (bt s 0) x).bind fun b => (if b.2 = 0 then (if b.1.toList = s.toList then (some (bt s 0, x, 0)) else (some (0, ([] : List S78), 3))) else (some (0, ([] : List S78), 3)))) (fun k => ?_) (Ev.bind (refpack_ev (bt s 0) x (by omega)) ?_)
    · simp only [aumbryref13_Unpack.l0]
      rw [if_neg (by omega)]
    · unfold unpackFin
      by_cases h2 : (packSpec (bt s 0) x).2 = 0
      · by_cases h3 : (packSpec (bt s 0) x).1.toList = s.toList
        · simp only [h2, h3, if_true, and_self]
          exact Ev.now _
        · simp only [h2, h3, if_true, if_false, and_false]
          exact Ev.now _
      · simp only [h2, if_false, false_and]
        exact Ev.now _
  | succ d ih =>
    intro i x at_ hi hd hx
    simp only [parse]
    refine Ev.step (f := fun k => (pieceSpec s at_).elim (some (0, ([] : List S78), 3)) fun p => (pieceSpec s p.2).elim (some (0, ([] : List S78), 3)) fun q => (if x.length < 4398046511104 then (aumbryref13_Unpack.l0 k s (x ++ [(⟨p.1, q.1⟩ : S78)]) q.2 ((i + 1 : Nat) : Int)) else (none))) (fun k => ?_) ?_
    · simp only [aumbryref13_Unpack.l0]
      rw [if_pos (by omega)]
      simp only [refpiece s hs]
      rfl
    · cases hp : pieceSpec s at_ with
      | none =>
        simp only [Option.elim_none, Option.bind_none]
        exact Ev.now _
      | some p =>
        simp only [Option.elim_some, Option.bind_some]
        cases hq : pieceSpec s p.2 with
        | none =>
          simp only [Option.elim_none, Option.bind_none]
          exact Ev.now _
        | some q =>
          simp only [Option.elim_some, Option.bind_some]
          have h := ih (i + 1) (x ++ [(⟨p.1, q.1⟩ : S78)]) q.2 (by omega) (by omega) (by rw [List.length_append, List.length_singleton]; omega)
          simp only [show x.length < 4398046511104 from by omega, if_true]
          cases hl : parse s d q.2 with
          | none =>
            rw [hl] at h
            exact h
          | some l =>
            rw [hl] at h
            simp only [List.append_assoc, List.singleton_append] at h
            simp only [Option.map_some]
            exact h
theorem refunpack_ev (s : ByteArray) : Ev (fun k => aumbryref13_Unpack.f k s) (unpackSpec s) := by
  unfold aumbryref13_Unpack.f unpackSpec
  by_cases h : s.size = 256
  · have hb := bt_range s 1
    rw [if_pos h]
    simp only [h, if_true]
    exact refunpack_l0 s h (bt s 1).toNat (by omega) (by omega) (bt s 1).toNat 0 [] 2 (by omega) (by omega) (by simp)
  · simp only [if_false, h]
    exact Ev.now _
theorem parse_length (s : ByteArray) (n : Nat) : ∀ (at_ : Int) (l : List S78), parse s n at_ = some l → l.length = n := by
  induction n with
  | zero => intro at_ l h; simp only [parse, Option.some.injEq] at h; subst h; rfl
  | succ n ih =>
    intro at_ l h
    simp only [parse] at h
    cases hp : pieceSpec s at_ with
    | none => rw [hp] at h; cases h
    | some p =>
      rw [hp] at h
      simp only [Option.bind_some] at h
      cases hq : pieceSpec s p.2 with
      | none => rw [hq] at h; cases h
      | some q =>
        rw [hq] at h
        simp only [Option.bind_some] at h
        cases hl : parse s n q.2 with
        | none => rw [hl] at h; cases h
        | some m =>
          rw [hl] at h
          simp only [Option.map_some, Option.some.injEq] at h
          subst h
          rw [List.length_cons, ih _ _ hl]
theorem unpack_length (s : ByteArray) : (unpackSpec s).2.1.length < 4398046511104 := by
  have hb := bt_range s 1
  unfold unpackSpec
  by_cases h : s.size = 256
  · rw [if_pos h]
    cases hl : parse s (bt s 1).toNat 2 with
    | none => simp
    | some l =>
      have := parse_length s _ _ _ hl
      simp only
      unfold unpackFin
      split
      · simp only
        omega
      · simp
  · rw [if_neg h]
    simp
theorem LeafUnpacks (s : ByteArray) : ∃ k, aumbrylaw13_LeafUnpacks.f k s = some true := by
  apply Ev.rounds
  unfold aumbrylaw13_LeafUnpacks.f
  refine Ev.bind wakes_ev ?_
  simp only [if_true]
  refine Ev.bind (unpack_ev s) (Ev.bind (refunpack_ev s) ?_)
  simp only [if_true]
  refine Ev.bind (same_ev _ (unpack_length s)) ?_
  simp only [if_true]
  rw [beq_self_eq_true]
  exact Ev.now _
theorem LeafUnpacks_walk (s : ByteArray) (W : World) (_ : s.size ≤ 140737488351232) :
    Calls Try.prog 4 #[.string s] W fun e w' => e = .returned (.bool true) ∧ Below W.heap.size W w' := by
  obtain ⟨k, h⟩ := LeafUnpacks s
  exact aumbrylaw13_LeafUnpacks.calls k s true W h

end Go.Proofs.Ytdieanikopjbjaa.QLeafU
