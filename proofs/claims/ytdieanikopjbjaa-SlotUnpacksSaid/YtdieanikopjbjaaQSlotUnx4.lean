/- Written by a program of this session out of the translation: Lean functions with the same answers as the Go functions, and the walks that show it. -/
import Derived.Test.YtdieanikopjbjaaQSlotUnx0
import Derived.Test.YtdieanikopjbjaaQSlotUnx2
import Derived.Test.YtdieanikopjbjaaQSlotUnx3
namespace Go.Proofs.Ytdieanikopjbjaa.QSlotUn
open Go.RowKit Go.Proofs.YtdieanikopjbjaaW.PrintWords Go.Proofs.YtdieanikopjbjaaW.PrintLast Go.Proofs.YtdieanikopjbjaaW.PrintMore
attribute [local go_sem] max2_int min2_int max_two min_two max_three min_three max_four min_four
attribute [local go_sem high] StepStr.leq_str StepStr.gtr_str
set_option linter.unusedVariables false
set_option linter.unusedSimpArgs false

/-! ### slot_Pack: function 36 -/
/-- The five fields of a slot, as the program lays them out. -/
def slotFields : Array Value := #[.int .i64 1, .int .i64 1, .func (.func 86) #[] #[], .func (.func 88) #[] #[], .int .i64 2, .int .i64 2, .func (.func 89) #[] #[], .func (.func 90) #[] #[], .int .i64 12, .int .i64 1, .func (.func 91) #[] #[], .func (.func 92) #[] #[], .int .i64 13, .int .i64 4, .func (.func 93) #[] #[], .func (.func 94) #[] #[], .int .i64 17, .int .i64 6, .func (.func 95) #[] #[], .func (.func 96) #[] #[]]
set_option maxHeartbeats 1000000 in
set_option maxRecDepth 100000 in
theorem slot_fields.calls (w : World) : Calls Try.prog 75 #[] w fun e w' => e = .returned (.slice (some ⟨w.heap.size, 0, none⟩) 5 5) ∧ w' = w.alloc (.cells slotFields 120) := by
  go_enter Try.func75, Try.ntmps75
  go_wp2
  go_ret
  exact ⟨rfl, rfl⟩
/-- A node as a value. -/
def nodeV (a0 : Int) (a1 : ByteArray) (A2 : Option Addr) (n2 c2 : Nat) (a3 : Int) (a4 : Bool) (a5 : Int) : Value := .agg #[.int .u64 a0, .string a1, .slice A2 n2 c2, .int .i64 a3, .bool a4, .int .u64 a5]
set_option maxRecDepth 100000 in
set_option maxHeartbeats 1000000 in
theorem slot_flag.calls (b : Bool) (w : World) : Calls Try.prog 87 #[.bool b] w fun e w' => e = .returned (.int .u64 (if b then 1 else 0)) ∧ w' = w := by
  go_enter Try.func87, Try.ntmps87
  cases b
  · go_wp2
    go_ret
    exact ⟨rfl, rfl⟩
  · go_wp2
    go_ret
    exact ⟨rfl, rfl⟩
set_option maxRecDepth 100000 in
set_option maxHeartbeats 1000000 in
theorem slot_get1.calls (a0 : Int) (a1 : ByteArray) (A2 : Option Addr) (n2 c2 : Nat) (a3 : Int) (a4 : Bool) (a5 : Int) (w : World) : Calls Try.prog 86 #[nodeV a0 a1 A2 n2 c2 a3 a4 a5] w fun e w' => e = .returned (.int .u64 (if a4 then 1 else 0)) ∧ Below w.heap.size w w' := by
  have hu76 := Try.underlying76
  unfold nodeV
  go_enter Try.func86, Try.ntmps86
  cases a4
  · go_wp2_with (go_at_call 87; refine (slot_flag.calls _ _).mono ?_; rintro e w' ⟨rfl, rfl⟩)
    go_ret
    exact ⟨rfl, below_alloc (Below.refl _ _) _⟩
  · go_wp2_with (go_at_call 87; refine (slot_flag.calls _ _).mono ?_; rintro e w' ⟨rfl, rfl⟩)
    go_ret
    exact ⟨rfl, below_alloc (Below.refl _ _) _⟩
set_option maxRecDepth 100000 in
set_option maxHeartbeats 1000000 in
theorem slot_get2.calls (a0 : Int) (a1 : ByteArray) (A2 : Option Addr) (n2 c2 : Nat) (a3 : Int) (a4 : Bool) (a5 : Int) (w : World) (h0 : 0 ≤ a0) : Calls Try.prog 89 #[nodeV a0 a1 A2 n2 c2 a3 a4 a5] w fun e w' => e = .returned (.int .u64 (a0 % 65536)) ∧ Below w.heap.size w w' := by
  have hu76 := Try.underlying76
  unfold nodeV
  go_enter Try.func89, Try.ntmps89
  go_wp2
  go_ret
  refine ⟨?_, below_alloc (Below.refl _ _) _⟩
  rfl
set_option maxRecDepth 100000 in
set_option maxHeartbeats 1000000 in
theorem slot_get3.calls (a0 : Int) (a1 : ByteArray) (A2 : Option Addr) (n2 c2 : Nat) (a3 : Int) (a4 : Bool) (a5 : Int) (w : World) : Calls Try.prog 91 #[nodeV a0 a1 A2 n2 c2 a3 a4 a5] w fun e w' => e = .returned (.int .u64 (IntKind.u64.wrap (n2 : Int))) ∧ Below w.heap.size w w' := by
  have hu76 := Try.underlying76
  unfold nodeV
  go_enter Try.func91, Try.ntmps91
  go_wp2
  go_ret
  refine ⟨?_, below_alloc (Below.refl _ _) _⟩
  rfl
set_option maxRecDepth 100000 in
set_option maxHeartbeats 1000000 in
theorem slot_get4.calls (a0 : Int) (a1 : ByteArray) (A2 : Option Addr) (n2 c2 : Nat) (a3 : Int) (a4 : Bool) (a5 : Int) (w : World) : Calls Try.prog 93 #[nodeV a0 a1 A2 n2 c2 a3 a4 a5] w fun e w' => e = .returned (.int .u64 (IntKind.u64.wrap a3)) ∧ Below w.heap.size w w' := by
  have hu76 := Try.underlying76
  unfold nodeV
  go_enter Try.func93, Try.ntmps93
  go_wp2
  go_ret
  refine ⟨?_, below_alloc (Below.refl _ _) _⟩
  rfl
set_option maxRecDepth 100000 in
set_option maxHeartbeats 1000000 in
theorem slot_get5.calls (a0 : Int) (a1 : ByteArray) (A2 : Option Addr) (n2 c2 : Nat) (a3 : Int) (a4 : Bool) (a5 : Int) (w : World) : Calls Try.prog 95 #[nodeV a0 a1 A2 n2 c2 a3 a4 a5] w fun e w' => e = .returned (.int .u64 a5) ∧ Below w.heap.size w w' := by
  have hu76 := Try.underlying76
  unfold nodeV
  go_enter Try.func95, Try.ntmps95
  go_wp2
  go_ret
  refine ⟨?_, below_alloc (Below.refl _ _) _⟩
  rfl
open Go.Lib in
theorem byteCells_splice (L s : List UInt8) (o : Nat) : byteCells (splice L o s) = splice (byteCells L) o (byteCells s) := by
  simp [byteCells, splice, List.map_take, List.map_drop]
/-- A text's bytes over a row of bytes that is known whole: what lies behind it, all other blocks as they were. -/
def Laid (g : Nat) (t : TypeId) (L : List UInt8) (w w' : World) : Prop :=
  w'.heap[g]? = some (.cells (Lib.byteCells L).toArray t (0, 0)) ∧ w'.heap.size = w.heap.size ∧ (∀ B w0, Below B w0 w → B ≤ g → Below B w0 w') ∧ ∀ k o, k ≠ g → w.heap[k]? = some o → w'.heap[k]? = some o
open Go.Lib in
theorem run_copy_str {P : Program} (w : World) (dT sT ty elem : TypeId) (hu : P.underlying dT = some (.slice elem)) (hs : (P.info? elem).map (·.size) = some 1)
    (dp : Option Addr) (dLen dCap : Nat) (s : ByteArray) (g off : Nat) (L : List UInt8) (t : TypeId) (hg : w.heap[g]? = some (.cells (byteCells L).toArray t (0, 0)))
    (hle : s.size ≤ dLen) (hpos : 0 < s.size → dp = some ⟨g, off, none⟩) (hfit : off + s.size ≤ L.length) :
    ∃ w', (Builtin.copy_ #[dT, sT] ty #[.slice dp dLen dCap, .string s]).run P w = .ok (goInt s.size) w' ∧ Laid g t (splice L off s.data.toList) w w' := by
  have hz : s.data.toList.length = s.size := (size_eq s).symm
  by_cases h0 : s.size = 0
  · refine ⟨w, ?_, ?_⟩
    · rw [run_copy_empty_string w dT sT ty elem dp dLen dCap s hu (by cases hq : P.info? elem with | none => simp [hq] at hs | some i => rfl) h0, h0]
      rfl
    · have hnil : s.data.toList = [] := List.eq_nil_of_length_eq_zero (by omega)
      rw [hnil]
      refine ⟨by simpa [splice] using hg, rfl, fun _ _ hb _ => hb, fun _ _ _ h => h⟩
  · obtain rfl := hpos (by omega)
    refine ⟨_, run_copy_row_string w dT sT ty elem g off dLen dCap s (byteCells L).toArray t hu hs hg hle (by rw [List.size_toArray, byteCells_length]; exact hfit), ?_⟩
    refine ⟨?_, ?_, fun B w0 hb hB => below_setRow hb hB _, fun k o hk h => by rw [setRow_other w g k _ hk]; exact h⟩
    · rw [byteCells_splice]
      have := setRow_heap w g _ ((byteCells L).take off ++ byteCells s.data.toList ++ (byteCells L).drop (off + s.size)).toArray t _ hg
      rw [this]
      unfold splice
      rw [byteCells_length, hz, List.append_assoc]
    · simp [World.setRow]
open Go.Lib in
theorem step_copy_str {P : Program} {ops : Array Oper} {o : Oper} {a : Act} {w : World} {K : Act → World → Prop} {Q : Exit → Act → World → Prop} {E : Prop} (hgd : o.guard = none) (d s : Operand) (dT sT : TypeId)
    (ho : o.op = .call { callee := .builtin .copy, args := #[d, s], argTypes := #[dT, sT] }) (elem : TypeId) (hu : P.underlying dT = some (.slice elem)) (hsz : (P.info? elem).map (·.size) = some 1)
    (dp : Option Addr) (dLen dCap : Nat) (t : ByteArray) (hd : a.eval d = .slice dp dLen dCap) (hs : a.eval s = .string t)
    (g off : Nat) (L : List UInt8) (T : TypeId) (hg : w.heap[g]? = some (.cells (byteCells L).toArray T (0, 0))) (hle : t.size ≤ dLen)
    (hpos : 0 < t.size → dp = some ⟨g, off, none⟩) (hfit : off + t.size ≤ L.length)
    (h : ∀ w', Aside0 (Laid g T (splice L off t.data.toList) w w') → K (a.put o.dst (goInt t.size)) w') :
    if Region.wanted o (yielded ops a.tmps) = true then Oper.wp P o a w K Q else E := by
  have hw : Region.wanted o (yielded ops a.tmps) = true := by simp [Region.wanted, hgd]
  rw [if_pos hw]
  obtain ⟨w', hrun, hl⟩ := run_copy_str (P := P) w dT sT o.type elem hu hsz dp dLen dCap t g off L T hg hle hpos hfit
  unfold Oper.wp
  simp [execOp, ho, resolve, invoke, builtin, hd, hs, hrun, Result.andThen]
  exact h w' ⟨hl⟩
open Go.Lib in
theorem wpList_copy_str {P : Program} {w : World} {ops : Array Oper} {rest : List Oper} {o : Oper} {a : Act} {Q : Exit → Act → World → Prop} (hgd : o.guard = none) (d s : Operand) (dT sT : TypeId)
    (ho : o.op = .call { callee := .builtin .copy, args := #[d, s], argTypes := #[dT, sT] }) (elem : TypeId) (hu : P.underlying dT = some (.slice elem)) (hsz : (P.info? elem).map (·.size) = some 1)
    (dp : Option Addr) (dLen dCap : Nat) (t : ByteArray) (hd : a.eval d = .slice dp dLen dCap) (hs : a.eval s = .string t)
    (g off : Nat) (L : List UInt8) (T : TypeId) (hg : w.heap[g]? = some (.cells (byteCells L).toArray T (0, 0))) (hle : t.size ≤ dLen)
    (hpos : 0 < t.size → dp = some ⟨g, off, none⟩) (hfit : off + t.size ≤ L.length)
    (h : ∀ w', Aside0 (Laid g T (splice L off t.data.toList) w w') → wpList P ops Q rest (a.put o.dst (goInt t.size)) w') :
    wpList P ops Q (o :: rest) a w := by
  refine wpList_plain hgd fun K hK => ?_
  obtain ⟨w', hrun, hl⟩ := run_copy_str (P := P) w dT sT o.type elem hu hsz dp dLen dCap t g off L T hg hle hpos hfit
  unfold Oper.wp
  simp [execOp, ho, resolve, invoke, builtin, hd, hs, hrun, Result.andThen]
  exact hK _ _ (h w' ⟨hl⟩)
theorem blk_new_at {w : World} {g : Nat} {o o' : Obj} (hg : g = w.heap.size) (ho : o = o') : (w.alloc o).heap[g]? = some o' := by subst hg; subst ho; exact blk_new w o
open Go.Lib in
theorem step_copy_row {P : Program} {ops : Array Oper} {o : Oper} {a : Act} {w : World} {K : Act → World → Prop} {Q : Exit → Act → World → Prop} {E : Prop} (hgd : o.guard = none) (d s : Operand) (dT sT : TypeId)
    (ho : o.op = .call { callee := .builtin .copy, args := #[d, s], argTypes := #[dT, sT] }) (elem : TypeId) (hu : P.underlying dT = some (.slice elem)) (hsz : (P.info? elem).map (·.size) = some 1)
    (dLen dCap : Nat) (h0 sLen sCap : Nat) (S : List UInt8) (sT' : TypeId) (g off : Nat) (L : List UInt8) (T : TypeId) (hd : a.eval d = .slice (some ⟨g, off, none⟩) dLen dCap) (hs : a.eval s = .slice (some ⟨h0, 0, none⟩) sLen sCap)
    (hg : w.heap[g]? = some (.cells (byteCells L).toArray T (0, 0))) (hS : w.heap[h0]? = some (.cells (byteCells S).toArray sT' (0, 0))) (hn : S.length = Nat.min sLen dLen) (hfit : off + S.length ≤ L.length)
    (h : ∀ w', Aside0 (Laid g T (splice L off S) w w') → K (a.put o.dst (goInt S.length)) w') :
    if Region.wanted o (yielded ops a.tmps) = true then Oper.wp P o a w K Q else E := by
  have hw : Region.wanted o (yielded ops a.tmps) = true := by simp [Region.wanted, hgd]
  rw [if_pos hw]
  have hrun := run_copy_row (P := P) w dT sT o.type elem g off dLen dCap ⟨h0, 0, none⟩ sLen sCap (byteCells L).toArray T (byteCells S) hu hsz hg (by rw [byteCells_length]; exact hn)
    (fun j v hj => by
      have hc := (blk_cell hS j)
      have ha : (⟨h0, 0, none⟩ : Addr).add j = ⟨h0, 0 + j, none⟩ := by unfold Addr.add; split <;> simp_all
      rw [ha, Nat.zero_add, hc]
      simpa using hj)
    (by rw [byteCells_length, List.size_toArray, byteCells_length]; exact hfit) (byteCells_one _)
  unfold Oper.wp
  simp [execOp, ho, resolve, invoke, builtin, hd, hs, hrun, Result.andThen]
  have hk := h (w.setRow g ((byteCells L).take off ++ (byteCells S ++ (byteCells L).drop (off + (byteCells S).length))).toArray) ⟨⟨by
      rw [byteCells_splice]
      exact setRow_heap w g _ _ T _ hg, by simp [World.setRow], fun B w0 hb hB => below_setRow hb hB _, fun k o hk h => by rw [setRow_other w g k _ hk]; exact h⟩⟩
  rw [byteCells_length] at hk ⊢
  exact hk
theorem made256 : madeCells (Value.int IntKind.u8 0).cells 256 = (Lib.byteCells (List.replicate 256 0)).toArray := by kernel_rfl
open Go.Lib in
theorem wpList_make_bytes {w : World} {ops : Array Oper} {rest : List Oper} {o : Oper} {a : Act} {Q : Exit → Act → World → Prop} (hgd : o.guard = none) (ho : o.op = .makeSlice 79 (.const (.int .i64 256)) (.const (.int .i64 256)))
    (h : ∀ w', Aside0 (w' = w.alloc (.cells (byteCells (List.replicate 256 0)).toArray 5 (0, 0))) → wpList Try.prog ops Q rest (a.put o.dst (.slice (some ⟨w.heap.size, 0, none⟩) 256 256)) w') :
    wpList Try.prog ops Q (o :: rest) a w := by
  refine wpList_plain hgd fun K hK => ?_
  obtain ⟨i, hi⟩ : ∃ i, Try.prog.info? 5 = some i := by
    cases h : Try.prog.info? 5 with
    | none => exact absurd info5 (by rw [h]; simp)
    | some i => exact ⟨i, rfl⟩
  have hi5 := info5
  rw [hi] at hi5
  simp only [Option.map_some, Option.some.injEq, Prod.mk.injEq] at hi5
  obtain ⟨hz, hs, hb⟩ := hi5
  have hrun := run_make (P := Try.prog) w 79 5 i (.int .u8 0) Try.underlying79 hi hz .i64 .i64 256 256 (by omega) (by omega) (by rw [hb]; omega) (by omega)
  rw [hs] at hrun
  unfold Oper.wp
  simp only [execOp, ho, Act.eval]
  simp [hrun, Result.andThen]
  exact hK _ _ (h _ ⟨by rw [made256]⟩)
/-- Numbers laid as texts over a row of bytes: (place, number, width) each. -/
def laidOver (k : Nat) : List (Nat × Int × Int) → List UInt8 → Option (List UInt8)
  | [], L => some L
  | (o, v, n) :: rest, L => (num_Put.f k v n).bind fun p => if o + p.1.size ≤ 48 then laidOver k rest (splice L o p.1.data.toList) else none
def fieldsOf (a0 : Int) (n2 : Nat) (a3 : Int) (a4 : Bool) (a5 : Int) : List (Nat × Int × Int) := [(1, (if a4 then 1 else 0), 1), (2, a0 % 65536, 2), (12, IntKind.u64.wrap (n2 : Int), 1), (13, IntKind.u64.wrap a3, 4), (17, a5, 6)]
def kidsFrom : Nat → List Int → List (Nat × Int × Int)
  | _, [] => []
  | i, x :: l => (23 + 6 * i, x, 6) :: kidsFrom (i + 1) l
def slotHead (a1 : ByteArray) : List UInt8 := splice (1 :: List.replicate 47 0) 4 a1.data.toList
def slot_write.f (k : Nat) (a0 : Int) (a1 : ByteArray) (l2 : List Int) (a3 : Int) (a4 : Bool) (a5 : Int) : Option (List UInt8) :=
  if a1.size ≤ 44 then (if l2.length ≤ 4 then (if 0 ≤ a0 then ((laidOver k (fieldsOf a0 l2.length a3 a4 a5) (slotHead a1)).bind fun L => laidOver k (kidsFrom 0 l2) L) else none) else none) else none
theorem laidOver_length (k : Nat) : ∀ (ps : List (Nat × Int × Int)) (L r : List UInt8), L.length = 48 → laidOver k ps L = some r → r.length = 48
  | [], L, r, hL, h => by simp only [laidOver, Option.some.injEq] at h; subst h; exact hL
  | (o, v, n) :: rest, L, r, hL, h => by
    simp only [laidOver] at h
    replace h := Option.bind_eq_some_iff.mp h
    obtain ⟨p, _, h⟩ := h
    by_cases c : o + p.1.size ≤ 48
    · rw [if_pos c] at h
      refine laidOver_length k rest _ r ?_ h
      rw [length_splice _ _ _ (by rw [← Lib.size_eq]; omega), hL]
    · rw [if_neg c] at h; cases h
theorem slotHead_length (a1 : ByteArray) (h : a1.size ≤ 44) : (slotHead a1).length = 48 := by
  unfold slotHead
  rw [length_splice _ _ _ (by rw [← Lib.size_eq, List.length_cons, List.length_replicate]; omega), List.length_cons, List.length_replicate]
theorem cell_below {w w' : World} (hb : Below w.heap.size w w') {a : Addr} {v : Value} (h : w.cell? a = some v) : w'.cell? a = some v := by
  have hl := World.block_lt_of_cell? w a h
  have := hb.block a.block hl
  unfold World.cell? at h ⊢
  rw [this]
  exact h
theorem field_row (a0 : Int) (a1 : ByteArray) (A2 : Option Addr) (n2 c2 : Nat) (a3 : Int) (a4 : Bool) (a5 : Int) (h0 : 0 ≤ a0) (i : Nat) (hi : i < 5) :
    ∃ (o : Nat) (v wd : Int) (g s : Nat), (fieldsOf a0 n2 a3 a4 a5).drop i = (o, v, wd) :: (fieldsOf a0 n2 a3 a4 a5).drop (i + 1) ∧ o ≤ 17 ∧
      slotFields[i * 4]? = some (.int .i64 (o : Int)) ∧ slotFields[i * 4 + 1]? = some (.int .i64 wd) ∧ slotFields[i * 4 + 2]? = some (.func (.func g) #[] #[]) ∧ slotFields[i * 4 + 3]? = some (.func (.func s) #[] #[]) ∧
      (∀ args w, (callFunc g args).run Try.prog w = .ok (.enter g args) w) ∧
      (∀ w, Calls Try.prog g #[nodeV a0 a1 A2 n2 c2 a3 a4 a5] w fun e w' => e = .returned (.int .u64 v) ∧ Below w.heap.size w w') := by
  match i, hi with
  | 0, _ => exact ⟨1, _, 1, 86, 88, rfl, by omega, rfl, rfl, rfl, rfl, Go.Proofs.enters_of Try.func86 (by kernel_rfl) rfl, fun w => slot_get1.calls _ _ _ _ _ _ _ _ w⟩
  | 1, _ => exact ⟨2, _, 2, 89, 90, rfl, by omega, rfl, rfl, rfl, rfl, Go.Proofs.enters_of Try.func89 (by kernel_rfl) rfl, fun w => slot_get2.calls _ _ _ _ _ _ _ _ w h0⟩
  | 2, _ => exact ⟨12, _, 1, 91, 92, rfl, by omega, rfl, rfl, rfl, rfl, Go.Proofs.enters_of Try.func91 (by kernel_rfl) rfl, fun w => slot_get3.calls _ _ _ _ _ _ _ _ w⟩
  | 3, _ => exact ⟨13, _, 4, 93, 94, rfl, by omega, rfl, rfl, rfl, rfl, Go.Proofs.enters_of Try.func93 (by kernel_rfl) rfl, fun w => slot_get4.calls _ _ _ _ _ _ _ _ w⟩
  | 4, _ => exact ⟨17, _, 6, 95, 96, rfl, by omega, rfl, rfl, rfl, rfl, Go.Proofs.enters_of Try.func95 (by kernel_rfl) rfl, fun w => slot_get5.calls _ _ _ _ _ _ _ _ w⟩
set_option maxHeartbeats 2000000 in
set_option maxRecDepth 100000 in
theorem slot_write.calls (k : Nat) (a0 : Int) (a1 : ByteArray) (A2 : Option Addr) (c2 : Nat) (l2 : List Int) (a3 : Int) (a4 : Bool) (a5 : Int) (r : List UInt8) (w : World) (hr2 : Kd.C (Kd.int .u64) w A2 l2.length l2) (hc2 : l2.length ≤ c2) (h : slot_write.f k a0 a1 l2 a3 a4 a5 = some r) :
    Calls Try.prog 59 #[nodeV a0 a1 A2 l2.length c2 a3 a4 a5] w fun e w' => e = .returned (.agg (Lib.byteCells r).toArray) ∧ Below w.heap.size w w' := by
  unfold slot_write.f at h
  by_cases h1 : a1.size ≤ 44
  case neg => rw [if_neg h1] at h; cases h
  rw [if_pos h1] at h
  by_cases h2 : l2.length ≤ 4
  case neg => rw [if_neg h2] at h; cases h
  rw [if_pos h2] at h
  by_cases h0 : 0 ≤ a0
  case neg => rw [if_neg h0] at h; cases h
  rw [if_pos h0] at h
  replace h := Option.bind_eq_some_iff.mp h
  obtain ⟨LF, hF, hK⟩ := h
  have HR := Aside0.mk hr2
  have HF := Aside0.mk hF
  have HKd := Aside0.mk hK
  have H1 := Aside0.mk h1
  have H2 := Aside0.mk h2
  have H0 := Aside0.mk h0
  have HC2 := Aside0.mk hc2
  clear hr2 hF hK h1 h2 h0 hc2
  have hu76 := Try.underlying76
  unfold nodeV
  go_enter Try.func59, Try.ntmps59
  go_wp2
  go_region_law (refine step_copy_str rfl (.tmp 13) (.tmp 15) 79 9 rfl 5 Try.underlying79 (by kernel_rfl) (some ⟨w.heap.size + 1 + 1, 4, none⟩) 44 44 a1 rfl rfl (w.heap.size + 1 + 1) 4 (1 :: List.replicate 47 0) 96 ?hg H1.out (fun _ => rfl) (by have := H1.out; simp only [List.length_cons, List.length_replicate]; omega) ?_; (case hg => exact blk_drew (blk_new_at (by simp only [World.size_alloc]) rfl)); intro w4 HL4)
  have BS4 : w4.heap.size = w.heap.size + 1 + 1 + 1 := by rw [HL4.out.2.1]; simp only [World.drew, World.size_alloc]
  have HB := Aside0.mk (show Below w.heap.size w w4 from HL4.out.2.2.1 _ _ (below_drew1 (below_alloc (below_alloc (below_alloc (Below.refl _ _) _) _) _)) (by omega))
  have BX := Aside0.mk (HL4.out.2.2.2 w.heap.size (.cells #[.int .u64 a0, .string a1, .slice A2 l2.length c2, .int .i64 a3, .bool a4, .int .u64 a5] 76 (0, 0)) (by omega) (blk_drew (blk_alloc (blk_alloc (blk_new_at rfl rfl) _) _)))
  have BR := Aside0.mk (HL4.out.2.2.2 (w.heap.size + 1) (.cells (Lib.byteCells (List.replicate 48 0)).toArray 96 (0, 0)) (by omega) (blk_drew (blk_alloc (blk_new_at (by simp only [World.size_alloc]) rfl) _)))
  have BO := Aside0.mk (show w4.heap[w.heap.size + 1 + 1]? = some (.cells (Lib.byteCells (slotHead a1)).toArray 96 (0, 0)) from HL4.out.1)
  clear HL4
  have hu115 := Try.underlying115
  have hu120 := Try.underlying120
  go_wp2_with (go_at_call 75; refine (slot_fields.calls _).mono ?_; rintro e w5 ⟨rfl, rfl⟩)
  go_loopg [19] 5 (fun kq v19 wr => ∃ (i : Nat) (L : List UInt8), v19 = .int .i64 (i : Int) ∧ i ≤ 5 ∧ kq = 5 - i ∧ Aside0 (L.length = 48) ∧ Aside0 (laidOver k ((fieldsOf a0 l2.length a3 a4 a5).drop i) L = some LF) ∧ Aside0 (wr.heap[w.heap.size]? = some (.cells #[.int .u64 a0, .string a1, .slice A2 l2.length c2, .int .i64 a3, .bool a4, .int .u64 a5] 76 (0, 0))) ∧ Aside0 (wr.heap[w.heap.size + 1]? = some (.cells (Lib.byteCells (List.replicate 48 0)).toArray 96 (0, 0))) ∧ Aside0 (wr.heap[w.heap.size + 1 + 1]? = some (.cells (Lib.byteCells L).toArray 96 (0, 0))) ∧ Aside0 (wr.heap[w.heap.size + 1 + 1 + 1]? = some (.cells slotFields 120 (0, 0))) ∧ Aside0 (Below w.heap.size w wr))
  case atStart => exact ⟨0, slotHead a1, rfl, by omega, rfl, ⟨slotHead_length a1 H1.out⟩, HF, ⟨blk_alloc BX.out _⟩, ⟨blk_alloc BR.out _⟩, ⟨blk_alloc BO.out _⟩, ⟨blk_new_at BS4.symm rfl⟩, ⟨below_alloc HB.out _⟩⟩
  case round =>
    clear HF HB BX BR BO
    obtain ⟨i, L, rfl, hi5, hkq, HLL, HF, BX, BR, BO, BF, HB⟩ := hrel
    by_cases hi : i < 5
    · obtain ⟨o, v, wd, g, sf, hdr, ho17, q0, q1, q2, q3, henter, hget⟩ := field_row a0 a1 A2 l2.length c2 a3 a4 a5 H0.out i hi
      rw [hdr] at HF
      have H := HF.out
      simp only [laidOver] at H
      replace H := Option.bind_eq_some_iff.mp H
      obtain ⟨p, hput, H⟩ := H
      by_cases hfit : o + p.1.size ≤ 48
      case neg => rw [if_neg hfit] at H; cases H
      rw [if_pos hfit] at H
      have H' := Aside0.mk H
      have HPut := Aside0.mk hput
      have HFit := Aside0.mk hfit
      have HGet := Aside0.mk hget
      clear H HF hdr hput hfit hget
      have e0 := (blk_cell BF.out (i * 4)).trans q0
      have e1 := (blk_cell BF.out (i * 4 + 1)).trans q1
      have e2 := (blk_cell BF.out (i * 4 + 2)).trans q2
      have e3 := (blk_cell BF.out (i * 4 + 3)).trans q3
      clear q0 q1 q2 q3
      have hi0 : 0 ≤ (i : Int) := by omega
      have hiz : (i : Int) < 5 := by omega
      have hd5 : decide ((i : Int) < 5) = true := decide_eq_true hiz
      have b0 := (blk_cell BX.out 0).trans rfl
      have b1 := (blk_cell BX.out 1).trans rfl
      have b2 := (blk_cell BX.out 2).trans rfl
      have b3 := (blk_cell BX.out 3).trans rfl
      have b4 := (blk_cell BX.out 4).trans rfl
      have b5 := (blk_cell BX.out 5).trans rfl
      go_wp2
      have BX5 := Aside0.mk (blk_drew (blk_alloc BX.out (.cells #[.int .i64 (o : Int), .int .i64 wd, .func (.func g) #[] #[], .func (.func sf) #[] #[]] 120 (0, 0))))
      have BR5 := Aside0.mk (blk_drew (blk_alloc BR.out (.cells #[.int .i64 (o : Int), .int .i64 wd, .func (.func g) #[] #[], .func (.func sf) #[] #[]] 120 (0, 0))))
      have BO5 := Aside0.mk (blk_drew (blk_alloc BO.out (.cells #[.int .i64 (o : Int), .int .i64 wd, .func (.func g) #[] #[], .func (.func sf) #[] #[]] 120 (0, 0))))
      have BF5 := Aside0.mk (blk_drew (blk_alloc BF.out (.cells #[.int .i64 (o : Int), .int .i64 wd, .func (.func g) #[] #[], .func (.func sf) #[] #[]] 120 (0, 0))))
      have BE5 := Aside0.mk (blk_drew (blk_new wr (.cells #[.int .i64 (o : Int), .int .i64 wd, .func (.func g) #[] #[], .func (.func sf) #[] #[]] 120 (0, 0))))
      have HB5 := Aside0.mk (below_drew1 (below_alloc HB.out (.cells #[.int .i64 (o : Int), .int .i64 wd, .func (.func g) #[] #[], .func (.func sf) #[] #[]] 120 (0, 0))))
      clear BX BR BO BF HB b0 b1 b2 b3 b4 b5 e0 e1 e2 e3
      go_region_held3 (fun w' => w'.cell? ⟨w.heap.size, 0, none⟩ = some (.int .u64 a0) ∧ w'.cell? ⟨w.heap.size, 1, none⟩ = some (.string a1) ∧ w'.cell? ⟨w.heap.size, 2, none⟩ = some (.slice A2 l2.length c2) ∧ w'.cell? ⟨w.heap.size, 3, none⟩ = some (.int .i64 a3) ∧ w'.cell? ⟨w.heap.size, 4, none⟩ = some (.bool a4) ∧ w'.cell? ⟨w.heap.size, 5, none⟩ = some (.int .u64 a5) ∧ w'.cell? ⟨wr.heap.size, 0, none⟩ = some (.int .i64 (o : Int)) ∧ w'.cell? ⟨wr.heap.size, 1, none⟩ = some (.int .i64 wd) ∧ w'.cell? ⟨wr.heap.size, 2, none⟩ = some (.func (.func g) #[] #[])) (first | exact ⟨(blk_cell BX5.out 0).trans rfl, (blk_cell BX5.out 1).trans rfl, (blk_cell BX5.out 2).trans rfl, (blk_cell BX5.out 3).trans rfl, (blk_cell BX5.out 4).trans rfl, (blk_cell BX5.out 5).trans rfl, (blk_cell BE5.out 0).trans rfl, (blk_cell BE5.out 1).trans rfl, (blk_cell BE5.out 2).trans rfl⟩ | exact ⟨(blk_cell BX6.out 0).trans rfl, (blk_cell BX6.out 1).trans rfl, (blk_cell BX6.out 2).trans rfl, (blk_cell BX6.out 3).trans rfl, (blk_cell BX6.out 4).trans rfl, (blk_cell BX6.out 5).trans rfl, (blk_cell BE6.out 0).trans rfl, (blk_cell BE6.out 1).trans rfl, (blk_cell BE6.out 2).trans rfl⟩ | exact ⟨(blk_cell BX7.out 0).trans rfl, (blk_cell BX7.out 1).trans rfl, (blk_cell BX7.out 2).trans rfl, (blk_cell BX7.out 3).trans rfl, (blk_cell BX7.out 4).trans rfl, (blk_cell BX7.out 5).trans rfl, (blk_cell BE7.out 0).trans rfl, (blk_cell BE7.out 1).trans rfl, (blk_cell BE7.out 2).trans rfl⟩) (first | (go_at_fn g; refine (HGet.out _).mono ?_; rintro e w6 ⟨rfl, hb6⟩; have BX6 := Aside0.mk (blk_below BX5.out hb6); have BR6 := Aside0.mk (blk_below BR5.out hb6); have BO6 := Aside0.mk (blk_below BO5.out hb6); have BF6 := Aside0.mk (blk_below BF5.out hb6); have BE6 := Aside0.mk (blk_below BE5.out hb6); have HB6 := Aside0.mk (below_step HB5.out hb6); clear BX5 BR5 BO5 BF5 BE5 HB5 hb6) | (go_at_call 50; refine (num_Put.calls k v wd p.1 p.2 _ HPut.out).mono ?_; rintro e w7 ⟨rfl, hb7⟩; have BX7 := Aside0.mk (blk_below BX6.out hb7); have BR7 := Aside0.mk (blk_below BR6.out hb7); have BO7 := Aside0.mk (blk_below BO6.out hb7); have BF7 := Aside0.mk (blk_below BF6.out hb7); have BE7 := Aside0.mk (blk_below BE6.out hb7); have HB7 := Aside0.mk (below_step HB6.out hb7); clear BX6 BR6 BO6 BF6 BE6 HB6 hb7))
      have e0 := (blk_cell BE7.out 0).trans rfl
      have ho0 : 0 ≤ (o : Int) := by omega
      have ho48 : (o : Int) ≤ 48 := by omega
      have hoN : o ≤ 48 := by omega
      have hne : (48 = o) = False := eq_false (by omega)
      have hne2 : ((48 : Int) = (o : Int)) = False := eq_false (by omega)
      have HOx := Aside0.mk ho17
      clear ho17
      go_wp2_with (refine wpList_copy_str rfl (.tmp 35) (.tmp 36) 79 9 rfl 5 Try.underlying79 (by kernel_rfl) (some ⟨w.heap.size + 1 + 1, o, none⟩) (48 - o) (48 - o) p.1 rfl rfl (w.heap.size + 1 + 1) o L 96 BO7.out (by have := HFit.out; omega) (fun _ => rfl) (by have := HFit.out; have := HLL.out; omega) ?_; intro w8 HL8)
      go_roundg (5 - (i + 1))
      case measure => omega
      case rel => exact ⟨i + 1, splice L o p.1.data.toList, by first | rfl | (simp; done), by omega, rfl, ⟨by rw [length_splice _ _ _ (by rw [← Lib.size_eq]; have := HFit.out; have := HLL.out; omega)]; exact HLL.out⟩, H', ⟨HL8.out.2.2.2 _ _ (by omega) BX7.out⟩, ⟨HL8.out.2.2.2 _ _ (by omega) BR7.out⟩, ⟨HL8.out.1⟩, ⟨HL8.out.2.2.2 _ _ (by omega) BF7.out⟩, ⟨HL8.out.2.2.1 _ _ HB7.out (by omega)⟩⟩
    · obtain rfl : i = 5 := by omega
      have hLF : L = LF := by have := HF.out; simpa [fieldsOf, laidOver] using this
      subst hLF
      clear HF BF hi hi5
      have b2 := (blk_cell BX.out 2).trans rfl
      have HNN := Aside0.mk (show l2.length ≤ 4 from H2.out)
      go_wp2
      go_loopg [42] 4 (fun kq v42 ws => ∃ (j : Nat) (L : List UInt8), v42 = .int .i64 (j : Int) ∧ j ≤ l2.length ∧ Aside0 (kq = 4 - j) ∧ Aside0 (L.length = 48) ∧ Aside0 (laidOver k (kidsFrom j (l2.drop j)) L = some r) ∧ Aside0 (ws.heap[w.heap.size + 1]? = some (.cells (Lib.byteCells (List.replicate 48 0)).toArray 96 (0, 0))) ∧ Aside0 (ws.heap[w.heap.size + 1 + 1]? = some (.cells (Lib.byteCells L).toArray 96 (0, 0))) ∧ Aside0 (Below w.heap.size w ws))
      case atStart => exact ⟨0, L, rfl, by omega, ⟨rfl⟩, HLL, HKd, BR, BO, HB⟩
      case round =>
        clear HKd HLL BX BR BO HB b2
        obtain ⟨j, L, rfl, hjl, hkq, HLL, HF, BR, BO, HB⟩ := hrel
        by_cases hj : j < l2.length
        · have hx4 : j < 4 := by have := H2.out; omega
          have hdr : kidsFrom j (l2.drop j) = (23 + 6 * j, rd l2 (j : Int), 6) :: kidsFrom (j + 1) (l2.drop (j + 1)) := by
            rw [List.drop_eq_getElem_cons hj]
            simp only [kidsFrom, rd]
            rw [show ((j : Int)).toNat = j by omega, List.getD_eq_getElem?_getD, List.getElem?_eq_getElem hj]
            rfl
          rw [hdr] at HF
          have H := HF.out
          simp only [laidOver] at H
          replace H := Option.bind_eq_some_iff.mp H
          obtain ⟨p, hput, H⟩ := H
          by_cases hfit : 23 + 6 * j + p.1.size ≤ 48
          case neg => rw [if_neg hfit] at H; cases H
          rw [if_pos hfit] at H
          have H' := Aside0.mk H
          have HPut := Aside0.mk hput
          have HFit := Aside0.mk hfit
          clear H HF hdr hput hfit
          obtain ⟨ad, ea, hx⟩ := Kd.at_int HR.out (j : Int) (by omega) (by omega)
          rw [show ((j : Int)).toNat = j by omega] at hx
          cases ea
          replace hx := (HB.out.cell (World.block_lt_of_cell? w _ hx)).trans hx
          generalize rd l2 (j : Int) = kid at *
          have hj0 : 0 ≤ (j : Int) := by omega
          have hjz : (j : Int) < (l2.length : Int) := by omega
          have hj4 : (j : Int) < 4 := by omega
          have hj4n := hx4
          have hs0 : 0 ≤ 23 + 6 * (j : Int) := by omega
          have hs48 : 23 + 6 * (j : Int) ≤ 48 := by omega
          have hst : (23 + 6 * (j : Int)).toNat = 23 + 6 * j := by omega
          have hsn : (48 = 23 + 6 * j) = False := eq_false (by omega)
          go_wp2_with (first | (go_at_call 50; refine (num_Put.calls k kid 6 p.1 p.2 _ HPut.out).mono ?_; rintro e w7 ⟨rfl, hb7⟩) | (refine wpList_copy_str rfl (.tmp 55) (.tmp 56) 79 9 rfl 5 Try.underlying79 (by kernel_rfl) (some ⟨w.heap.size + 1 + 1, 23 + 6 * j, none⟩) (48 - (23 + 6 * j)) (48 - (23 + 6 * j)) p.1 rfl rfl (w.heap.size + 1 + 1) (23 + 6 * j) L 96 (blk_below BO.out hb7) (by have := HFit.out; omega) (fun _ => rfl) (by have := HFit.out; have := HLL.out; omega) ?_; intro w8 HL8))
          go_roundg (4 - (j + 1))
          case measure => have := hkq.out; omega
          case rel => exact ⟨j + 1, splice L (23 + 6 * j) p.1.data.toList, by first | rfl | (simp; done), by omega, ⟨by rfl⟩, ⟨by rw [length_splice _ _ _ (by rw [← Lib.size_eq]; have := HFit.out; have := HLL.out; omega)]; exact HLL.out⟩, H', ⟨HL8.out.2.2.2 _ _ (by omega) (blk_below BR.out hb7)⟩, ⟨HL8.out.1⟩, ⟨HL8.out.2.2.1 _ _ (below_step HB.out hb7) (by omega)⟩⟩
        · obtain rfl : j = l2.length := by omega
          have hLF : L = r := by have := HF.out; rw [List.drop_length] at this; simpa [kidsFrom, laidOver] using this
          subst hLF
          clear HF hj hjl
          have hu96 : Try.prog.underlying 96 = some (.array 48 5) := by kernel_rfl
          have hn48 : (Lib.byteCells L).toArray.size = 48 := by rw [List.size_toArray, Lib.byteCells_length]; exact HLL.out
          have hi96 : (Try.prog.info? 96).map (·.size) = some (Lib.byteCells L).toArray.size := by rw [hn48]; kernel_rfl
          have ho48 : (Lib.byteCells (List.replicate 48 0)).toArray.size = (Lib.byteCells L).toArray.size := by rw [hn48, List.size_toArray, Lib.byteCells_length, List.length_replicate]
          have h1c : (Lib.byteCells L).toArray.all (·.oneCell') = true := by rw [Array.all_eq_true_iff_forall_mem]; intro x hx; exact Lib.byteCells_one L x (by simpa using hx)
          have X1 := Aside0.mk hi96
          have X2 := Aside0.mk ho48
          have X3 := Aside0.mk h1c
          clear hi96 ho48 h1c hn48
          go_wp2_with (first | (refine wpList_load_row rfl 96 (.tmp 3) rfl (w.heap.size + 1 + 1) rfl 96 (Lib.byteCells L).toArray (0, 0) (.array 48 5) BO.out hu96 rfl X1.out ?_) | (refine wpList_store_row rfl 96 (.tmp 2) (.tmp 59) rfl (w.heap.size + 1) (Lib.byteCells L).toArray rfl rfl 96 (Lib.byteCells (List.replicate 48 0)).toArray BR.out X1.out X2.out X3.out ?_))
          refine bodyPost_ret (results_cell_row rfl _ _ (w.heap.size + 1) 96 (Lib.byteCells L).toArray (0, 0) (.array 48 5) rfl (setRow_heap _ _ _ _ _ _ BR.out) hu96 rfl X1.out) rfl ?_
          exact ⟨rfl, below_setRow HB.out (by omega) _⟩
def twice (l : List S76) (x : Int) (n : Nat) : Bool := (List.range n).any fun j => decide ((rd_T76 l (j : Int)).f0 = x)
theorem twice_true {l : List S76} {x : Int} {n j : Nat} (hj : j < n) (h : (rd_T76 l (j : Int)).f0 = x) : twice l x n = true := by
  unfold twice
  rw [List.any_eq_true]
  exact ⟨j, by simpa using hj, by simpa using h⟩
theorem twice_false {l : List S76} {x : Int} {n : Nat} (h : ∀ j, j < n → (rd_T76 l (j : Int)).f0 ≠ x) : twice l x n = false := by
  unfold twice
  rw [List.any_eq_false]
  intro j hj
  have := h j (by simpa using hj)
  simpa using this
set_option maxHeartbeats 1000000 in
set_option maxRecDepth 100000 in
theorem slot_same.calls (m0 : Int) (m1 : ByteArray) (M2 : Value) (m3 : Int) (m4 : Bool) (m5 : Int) (bn : Nat) (x : Int) (w : World) (hx : w.cell? ⟨bn, 0, none⟩ = some (.int .u64 x)) (hlt : bn < w.heap.size) :
    Calls Try.prog 58 #[.agg #[.int .u64 m0, .string m1, M2, .int .i64 m3, .bool m4, .int .u64 m5], .pointer (some ⟨bn, 0, none⟩)] w fun e w' => e = .returned (.bool (decide (m0 = x))) ∧ Below w.heap.size w w' := by
  have hu76 := Try.underlying76
  have hne : (bn = w.heap.size) = False := eq_false (by omega)
  have hne2 : (w.heap.size = bn) = False := eq_false (by omega)
  go_enter Try.func58, Try.ntmps58
  go_wp2
  go_ret
  refine ⟨?_, below_alloc (Below.refl _ _) _⟩
  first | rfl | (congr 3; done) | (simp; done)
set_option maxHeartbeats 2000000 in
set_option maxRecDepth 100000 in
theorem slot_index.calls (A0 : Option Addr) (c0 n : Nat) (l0 : List S76) (bn : Nat) (x : Int) (w : World) (hr0 : Kd.C k76 w A0 l0.length l0) (hn : n ≤ l0.length) (hz : l0.length < 4611686018427387904) (hx : w.cell? ⟨bn, 0, none⟩ = some (.int .u64 x)) :
    Calls Try.prog 74 #[.slice A0 n c0, .func (.func 58) #[] #[.pointer (some ⟨bn, 0, none⟩)]] w fun e w' => ∃ r : Int, e = .returned (.int .i64 r) ∧ decide (0 ≤ r) = twice l0 x n ∧ Below w.heap.size w w' := by
  have eg := Go.Proofs.enters_of Try.func58 (by kernel_rfl) rfl
  have hu76 := Try.underlying76
  have HR := Aside0.mk hr0
  have HX := Aside0.mk hx
  have HN := Aside0.mk hn
  have HZ := Aside0.mk hz
  have HB := Aside0.mk (Below.refl w.heap.size w)
  clear hr0 hx hn hz
  go_enter Try.func74, Try.ntmps74
  go_wp2
  go_loopg [8] n (fun kq v8 wr => ∃ (i : Nat), v8 = .int .i64 (i : Int) ∧ i ≤ n ∧ Aside0 (kq = n - i) ∧ Aside0 (∀ j, j < i → (rd_T76 l0 (j : Int)).f0 ≠ x) ∧ Aside0 (Below w.heap.size w wr))
  case atStart => exact ⟨0, rfl, by omega, ⟨rfl⟩, ⟨fun j hj => absurd hj (by omega)⟩, HB⟩
  case round =>
    clear HB
    obtain ⟨i, rfl, hin, hkq, HI, HB⟩ := hrel
    by_cases hi : i < n
    · obtain ⟨ad, B2, d2, rfl, g0, g1, g2, g3, g4, g5, _, _⟩ := at_T76 HR.out (i : Int) (by omega) (by have := HN.out; omega)
      rw [show ((i : Int)).toNat = i by omega] at g0 g1 g2 g3 g4 g5
      replace g0 := (HB.out.cell (World.block_lt_of_cell? w _ g0)).trans g0
      replace g1 := (HB.out.cell (World.block_lt_of_cell? w _ g1)).trans g1
      replace g2 := (HB.out.cell (World.block_lt_of_cell? w _ g2)).trans g2
      replace g3 := (HB.out.cell (World.block_lt_of_cell? w _ g3)).trans g3
      replace g4 := (HB.out.cell (World.block_lt_of_cell? w _ g4)).trans g4
      replace g5 := (HB.out.cell (World.block_lt_of_cell? w _ g5)).trans g5
      have hxr := (HB.out.cell (World.block_lt_of_cell? w _ HX.out)).trans HX.out
      have hltr : bn < wr.heap.size := World.block_lt_of_cell? wr _ hxr
      have HXR := Aside0.mk hxr
      have HLT := Aside0.mk hltr
      clear hxr hltr
      have hi0 : 0 ≤ (i : Int) := by omega
      have hiz : (i : Int) < (n : Int) := by omega
      have hib : (i : Int) + 1 ≤ 4611686018427387904 := by have := HZ.out; have := HN.out; omega
      by_cases he : (rd_T76 l0 (i : Int)).f0 = x
      · have HT := Aside0.mk (twice_true (l := l0) hi he)
        have hdx : decide ((rd_T76 l0 (i : Int)).f0 = x) = true := decide_eq_true he
        generalize (rd_T76 l0 (i : Int)).f0 = m0 at *
        generalize (rd_T76 l0 (i : Int)).f1 = m1 at *
        generalize (rd_T76 l0 (i : Int)).f2.length = m2 at *
        generalize (rd_T76 l0 (i : Int)).f3 = m3 at *
        generalize (rd_T76 l0 (i : Int)).f4 = m4 at *
        generalize (rd_T76 l0 (i : Int)).f5 = m5 at *
        clear he
        go_wp2_with (go_at_call 58; (go_must (refine (slot_same.calls m0 m1 (.slice B2 m2 d2) m3 m4 m5 bn x _ HXR.out HLT.out).mono ?_)); rintro e w4 ⟨rfl, hb4⟩)
        go_ret
        exact ⟨_, rfl, by rw [HT.out]; exact decide_eq_true hi0, below_step HB.out hb4⟩
      · have HT : Aside0 (∀ j, j < i + 1 → (rd_T76 l0 (j : Int)).f0 ≠ x) := ⟨fun j hj => by
          by_cases hji : j < i
          · exact HI.out j hji
          · obtain rfl : j = i := by omega
            exact he⟩
        have hdx : decide ((rd_T76 l0 (i : Int)).f0 = x) = false := decide_eq_false he
        generalize (rd_T76 l0 (i : Int)).f0 = m0 at *
        generalize (rd_T76 l0 (i : Int)).f1 = m1 at *
        generalize (rd_T76 l0 (i : Int)).f2.length = m2 at *
        generalize (rd_T76 l0 (i : Int)).f3 = m3 at *
        generalize (rd_T76 l0 (i : Int)).f4 = m4 at *
        generalize (rd_T76 l0 (i : Int)).f5 = m5 at *
        clear he
        go_wp2_with (go_at_call 58; (go_must (refine (slot_same.calls m0 m1 (.slice B2 m2 d2) m3 m4 m5 bn x _ HXR.out HLT.out).mono ?_)); rintro e w4 ⟨rfl, hb4⟩)
        go_roundg (n - (i + 1))
        case measure => have := hkq.out; omega
        case rel => exact ⟨i + 1, by first | rfl | (simp; done), by omega, ⟨rfl⟩, HT, ⟨below_step HB.out hb4⟩⟩
    · obtain rfl : i = n := by omega
      have hii : decide ((i : Int) < (i : Int)) = false := decide_eq_false (by omega)
      clear hi hin
      go_wp2
      go_ret
      exact ⟨_, rfl, by rw [twice_false HI.out]; rfl, HB.out⟩
set_option maxHeartbeats 2000000 in
set_option maxRecDepth 100000 in
theorem slot_contains.calls (A0 : Option Addr) (c0 n : Nat) (l0 : List S76) (bn : Nat) (x : Int) (w : World) (hr0 : Kd.C k76 w A0 l0.length l0) (hn : n ≤ l0.length) (hz : l0.length < 4611686018427387904) (hx : w.cell? ⟨bn, 0, none⟩ = some (.int .u64 x)) :
    Calls Try.prog 57 #[.slice A0 n c0, .func (.func 58) #[] #[.pointer (some ⟨bn, 0, none⟩)]] w fun e w' => e = .returned (.bool (twice l0 x n)) ∧ Below w.heap.size w w' := by
  have HC := Aside0.mk (slot_index.calls A0 c0 n l0 bn x w hr0 hn hz hx)
  clear hr0 hn hz hx
  go_enter Try.func57, Try.ntmps57
  go_wp2_with (go_at_call 74; refine HC.out.mono ?_; rintro e w' ⟨r, rfl, hr, hb⟩)
  go_ret
  exact ⟨by rw [← hr]; rfl, hb⟩
def packFrom (k : Nat) (l : List S76) : Nat → Nat → List UInt8 → Option (ByteArray × Int)
  | 0, _, L => some (⟨L.toArray⟩, 0)
  | d + 1, i, L => (slot_may.f k (rd_T76 l (i : Int)).f0 (rd_T76 l (i : Int)).f1 (rd_T76 l (i : Int)).f2 (rd_T76 l (i : Int)).f3 (rd_T76 l (i : Int)).f4 (rd_T76 l (i : Int)).f5).bind fun e => if e = 0 then (if twice l (rd_T76 l (i : Int)).f0 i = true then (some (⟨#[]⟩, 9)) else ((slot_write.f k (rd_T76 l (i : Int)).f0 (rd_T76 l (i : Int)).f1 (rd_T76 l (i : Int)).f2 (rd_T76 l (i : Int)).f3 (rd_T76 l (i : Int)).f4 (rd_T76 l (i : Int)).f5).bind fun S => packFrom k l d (i + 1) (splice L (16 + 48 * i) S))) else (some (⟨#[]⟩, e))
def packHead (d : Int) (p : ByteArray) : List UInt8 := splice (List.replicate 256 0) 0 (strOfNums [3, d % 256] ++ p).data.toList
def slot_Pack.f (k : Nat) (a0_0 : Int) (a0_1 : Int) (l0_2 : List S76) : Option (ByteArray × Int) :=
  if a0_0 < 0 then (some (⟨#[]⟩, 1)) else (if a0_0 > 5 then (some (⟨#[]⟩, 1)) else (if a0_1 < 0 then (some (⟨#[]⟩, 1)) else (if a0_1 > 2047 then (some (⟨#[]⟩, 1)) else (if l0_2.length > 5 then (some (⟨#[]⟩, 10)) else ((num_Put.f k (IntKind.u64.wrap a0_1) 2).bind fun p => (if p.1.size ≤ 250 then (packFrom k l0_2 l0_2.length 0 (packHead a0_0 p.1)) else none))))))
theorem laidOver_mono (k : Nat) : ∀ (ps : List (Nat × Int × Int)) (L : List UInt8), LeO (laidOver k ps L) (laidOver (k + 1) ps L)
  | [], L => LeO.refl _
  | (o, v, n) :: rest, L => by
    simp only [laidOver]
    exact LeO.bind (num_Put.mono _ _ _) (fun p => LeO.ite (laidOver_mono k rest _) (LeO.none _))
theorem slot_write.mono (a0 : Int) (a1 : ByteArray) (l2 : List Int) (a3 : Int) (a4 : Bool) (a5 : Int) (k : Nat) : LeO (slot_write.f k a0 a1 l2 a3 a4 a5) (slot_write.f (k + 1) a0 a1 l2 a3 a4 a5) := by
  unfold slot_write.f
  exact LeO.ite (LeO.ite (LeO.ite (LeO.bind (laidOver_mono _ _ _) (fun _ => laidOver_mono _ _ _)) (LeO.none _)) (LeO.none _)) (LeO.none _)
theorem packFrom_mono (k : Nat) (l : List S76) : ∀ (d i : Nat) (L : List UInt8), LeO (packFrom k l d i L) (packFrom (k + 1) l d i L)
  | 0, _, _ => LeO.refl _
  | d + 1, i, L => by
    simp only [packFrom]
    exact LeO.bind (slot_may.mono _ _ _ _ _ _ _) (fun _ => LeO.ite (LeO.ite (LeO.refl _) (LeO.bind (slot_write.mono _ _ _ _ _ _ _) (fun _ => packFrom_mono k l d _ _))) (LeO.refl _))
theorem slot_Pack.mono : ∀ a0 a1 a2 k, LeO (slot_Pack.f k a0 a1 a2) (slot_Pack.f (k + 1) a0 a1 a2) := by
  intro a0 a1 a2 k
  unfold slot_Pack.f
  exact LeO.ite (LeO.refl _) (LeO.ite (LeO.refl _) (LeO.ite (LeO.refl _) (LeO.ite (LeO.refl _) (LeO.ite (LeO.refl _) (LeO.bind (num_Put.mono _ _ _) (fun _ => LeO.ite (packFrom_mono _ _ _ _ _) (LeO.none _)))))))
theorem packHead_length (d : Int) (p : ByteArray) (h : p.size ≤ 250) : (packHead d p).length = 256 := by
  unfold packHead
  have hs := strOfNums_size [3, d % 256]
  rw [length_splice _ _ _ (by rw [← Lib.size_eq, ByteArray.size_append, hs, List.length_replicate]; simp; omega), List.length_replicate]
set_option maxHeartbeats 4000000 in
set_option maxRecDepth 100000 in
theorem slot_Pack.calls (k : Nat) (a0_0 : Int) (a0_1 : Int) (A0_2 : Option Addr) (c0_2 : Nat) (l0_2 : List (S76)) (r1 : ByteArray) (r2 : Int) (w : World) (hr0_2 : Kd.C k76 w A0_2 l0_2.length l0_2) (hc0_2 : l0_2.length ≤ c0_2) (h : slot_Pack.f k a0_0 a0_1 l0_2 = some (r1, r2)) :
    Calls Try.prog 36 #[.agg #[.int .i64 a0_0, .int .i64 a0_1, .slice A0_2 l0_2.length c0_2]] w fun e w' => e = .returned (.tuple #[.string r1, .int .i64 r2]) ∧ Below w.heap.size w w' := by
  have hu64 := Try.underlying64
  have hu76 := Try.underlying76
  have HB := Aside0.mk (Below.refl w.heap.size w)
  have HR := Aside0.mk hr0_2
  have HC := Aside0.mk hc0_2
  unfold slot_Pack.f at h
  clear hr0_2 hc0_2
  by_cases c1 : a0_0 < 0
  case pos =>
    rw [if_pos c1] at h
    simp only [Option.some.injEq, Prod.mk.injEq] at h
    obtain ⟨rfl, rfl⟩ := h
    have d1 : decide (a0_0 < 0) = true := decide_eq_true c1
    clear c1 
    go_enter Try.func36, Try.ntmps36
    go_wp2
    go_ret2
    exact ⟨rfl, by repeat (first | (with_reducible first | exact HB.out | apply below_alloc | apply pw_below_drewN | apply below_drew1) | exact HB.out)⟩
  rw [if_neg c1] at h
  have d1 : decide (a0_0 < 0) = false := decide_eq_false c1
  by_cases c2 : a0_0 > 5
  case pos =>
    rw [if_pos c2] at h
    simp only [Option.some.injEq, Prod.mk.injEq] at h
    obtain ⟨rfl, rfl⟩ := h
    have d2 : decide (5 < a0_0) = true := decide_eq_true c2
    clear c2 c1
    go_enter Try.func36, Try.ntmps36
    go_wp2
    go_ret2
    exact ⟨rfl, by repeat (first | (with_reducible first | exact HB.out | apply below_alloc | apply pw_below_drewN | apply below_drew1) | exact HB.out)⟩
  rw [if_neg c2] at h
  have d2 : decide (5 < a0_0) = false := decide_eq_false c2
  by_cases c3 : a0_1 < 0
  case pos =>
    rw [if_pos c3] at h
    simp only [Option.some.injEq, Prod.mk.injEq] at h
    obtain ⟨rfl, rfl⟩ := h
    have d3 : decide (a0_1 < 0) = true := decide_eq_true c3
    clear c3 c1 c2
    go_enter Try.func36, Try.ntmps36
    go_wp2
    go_ret2
    exact ⟨rfl, by repeat (first | (with_reducible first | exact HB.out | apply below_alloc | apply pw_below_drewN | apply below_drew1) | exact HB.out)⟩
  rw [if_neg c3] at h
  have d3 : decide (a0_1 < 0) = false := decide_eq_false c3
  by_cases c4 : a0_1 > 2047
  case pos =>
    rw [if_pos c4] at h
    simp only [Option.some.injEq, Prod.mk.injEq] at h
    obtain ⟨rfl, rfl⟩ := h
    have d4 : decide (2047 < a0_1) = true := decide_eq_true c4
    clear c4 c1 c2 c3
    go_enter Try.func36, Try.ntmps36
    go_wp2
    go_ret2
    exact ⟨rfl, by repeat (first | (with_reducible first | exact HB.out | apply below_alloc | apply pw_below_drewN | apply below_drew1) | exact HB.out)⟩
  rw [if_neg c4] at h
  have d4 : decide (2047 < a0_1) = false := decide_eq_false c4
  by_cases c5 : l0_2.length > 5
  case pos =>
    rw [if_pos c5] at h
    simp only [Option.some.injEq, Prod.mk.injEq] at h
    obtain ⟨rfl, rfl⟩ := h
    have d5 : decide (5 < (l0_2.length : Int)) = true := decide_eq_true (by omega)
    clear c5 c1 c2 c3 c4
    go_enter Try.func36, Try.ntmps36
    go_wp2
    go_ret2
    exact ⟨rfl, by repeat (first | (with_reducible first | exact HB.out | apply below_alloc | apply pw_below_drewN | apply below_drew1) | exact HB.out)⟩
  rw [if_neg c5] at h
  have d5 : decide (5 < (l0_2.length : Int)) = false := decide_eq_false (by omega)
  have HN := Aside0.mk (show l0_2.length ≤ 5 by omega)
  replace h := Option.bind_eq_some_iff.mp h
  obtain ⟨p, hput, h⟩ := h
  by_cases c6 : p.1.size ≤ 250
  case neg => rw [if_neg c6] at h; cases h
  rw [if_pos c6] at h
  have H' := Aside0.mk h
  have HPut := Aside0.mk hput
  have H6 := Aside0.mk c6
  have hcv : ∀ W : World, (convert 79 9 (.slice (some ⟨W.heap.size, 0, none⟩) 2 2)).run Try.prog (W.alloc (.cells #[.int .u8 3, .int .u8 (a0_0 % 256)] 5)) = .ok (.string (strOfNums [3, a0_0 % 256])) (W.alloc (.cells #[.int .u8 3, .int .u8 (a0_0 % 256)] 5)) := fun W =>
    own_string (P := Try.prog) (e := 5) (base := W.heap.size) Try.underlying79 Try.underlying5 Try.underlying9 (own_lit W W.heap.size 5 .u8 [3, a0_0 % 256] (Nat.le_refl _) (by simp))
  have hs2 : (strOfNums [3, a0_0 % 256]).size = 2 := strOfNums_size [3, a0_0 % 256]
  have hs3 : (9223372036854775807 < 2 + p.1.size) = False := eq_false (by omega)
  have hs4 : ¬ 9223372036854775807 < 2 + p.1.size := by omega
  clear h hput c1 c2 c3 c4 c5 c6
  go_enter Try.func36, Try.ntmps36
  go_wp2_with (first | (go_at_call 50; refine (num_Put.calls k (IntKind.u64.wrap a0_1) 2 p.1 p.2 _ HPut.out).mono ?_; rintro e w2 ⟨rfl, hb2⟩) | (refine wpList_make_bytes rfl rfl ?_; intro w3 E3; have BX2 := blk_below (o := (.cells #[.int .i64 a0_0, .int .i64 a0_1, .slice A0_2 l0_2.length c0_2] 64 (0, 0))) (blk_new_at (w := w) rfl rfl) hb2; have BX3 := Aside0.mk (show w3.heap[w.heap.size]? = some (.cells #[.int .i64 a0_0, .int .i64 a0_1, .slice A0_2 l0_2.length c0_2] 64 (0, 0)) by (rw [E3.out]; exact blk_alloc BX2 _)); have BO3 := Aside0.mk (show w3.heap[w2.heap.size]? = some (.cells (Lib.byteCells (List.replicate 256 0)).toArray 5 (0, 0)) by (rw [E3.out]; exact blk_new _ _)); have HB2 := below_step (below_alloc HB.out (.cells #[.int .i64 a0_0, .int .i64 a0_1, .slice A0_2 l0_2.length c0_2] 64 (0, 0))) hb2; have HB3 := Aside0.mk (show Below w.heap.size w w3 by (rw [E3.out]; exact below_alloc HB2 _)); have HLt := Aside0.mk (show w.heap.size < w2.heap.size from Nat.lt_of_lt_of_le (by rw [World.size_alloc]; omega) hb2.size); have b0 := (blk_cell BX3.out 0).trans rfl; have b1 := (blk_cell BX3.out 1).trans rfl; have b2 := (blk_cell BX3.out 2).trans rfl; clear BX2 E3 hb2 HB2) | (refine wpList_copy_str rfl (.tmp 43) (.tmp 50) 79 9 rfl 5 Try.underlying79 (by kernel_rfl) (some ⟨w2.heap.size, 0, none⟩) 256 256 (strOfNums [3, a0_0 % 256] ++ p.1) rfl rfl w2.heap.size 0 (List.replicate 256 0) 5 (blk_alloc BO3.out _) (by have := H6.out; rw [ByteArray.size_append, strOfNums_size]; simp only [List.length_cons, List.length_nil]; omega) (fun _ => rfl) (by have := H6.out; rw [ByteArray.size_append, strOfNums_size, List.length_replicate]; simp only [List.length_cons, List.length_nil]; omega) ?_; intro w4 HL4; have b20 := (blk_cell (HL4.out.2.2.2 _ _ (by have := HLt.out; omega) (blk_alloc BX3.out _)) 2).trans rfl))
  have HLL := Aside0.mk (packHead_length a0_0 p.1 H6.out)
  have BX4 := Aside0.mk (HL4.out.2.2.2 _ _ (by have := HLt.out; omega) (blk_alloc BX3.out _))
  have BO4 := Aside0.mk (show w4.heap[w2.heap.size]? = some (.cells (Lib.byteCells (packHead a0_0 p.1)).toArray 5 (0, 0)) from HL4.out.1)
  have HB4 := Aside0.mk (HL4.out.2.2.1 _ _ (below_alloc HB3.out _) (by have := HLt.out; omega))
  clear HB BX3 BO3 HB3 HL4 b0 b1 b2 b20 hcv hs2 hs3 hs4 HPut H6 d1 d2 d3 d4 d5
  obtain ⟨g, hg⟩ : ∃ g, g = w2.heap.size := ⟨_, rfl⟩
  rw [← hg] at HLt BO4
  rw [← hg]
  have HG := Aside0.mk hg
  clear hg
  go_loopg [55] 5 (fun kq v55 wr => ∃ (i : Nat) (L : List UInt8), v55 = .int .i64 (i : Int) ∧ i ≤ l0_2.length ∧ Aside0 (kq = 5 - i) ∧ Aside0 (L.length = 256) ∧ Aside0 (packFrom k l0_2 (l0_2.length - i) i L = some (r1, r2)) ∧ Aside0 (wr.heap[w.heap.size]? = some (.cells #[.int .i64 a0_0, .int .i64 a0_1, .slice A0_2 l0_2.length c0_2] 64 (0, 0))) ∧ Aside0 (wr.heap[g]? = some (.cells (Lib.byteCells L).toArray 5 (0, 0))) ∧ Aside0 (Below w.heap.size w wr))
  case atStart => exact ⟨0, _, rfl, by omega, ⟨rfl⟩, HLL, H', BX4, BO4, HB4⟩
  case round =>
    clear H' HLL BX4 BO4 HB4
    obtain ⟨i, L, rfl, hin, hkq, HLL, HF, BX, BO, HB⟩ := hrel
    by_cases hi : i < l0_2.length
    · have H := HF.out
      rw [show l0_2.length - i = (l0_2.length - (i + 1)) + 1 by omega] at H
      simp only [packFrom] at H
      replace H := Option.bind_eq_some_iff.mp H
      obtain ⟨e, hmay, H⟩ := H
      have HMay := Aside0.mk hmay
      have HH := Aside0.mk H
      clear H HF hmay
      have hi5 : i < 5 := by have := HN.out; omega
      obtain ⟨ad, B2, d2, rfl, g0, g1, g2, g3, g4, g5, hd2, hk2⟩ := at_T76 HR.out (i : Int) (by omega) (by omega)
      rw [show ((i : Int)).toNat = i by omega] at g0 g1 g2 g3 g4 g5
      replace g0 := (HB.out.cell (World.block_lt_of_cell? w _ g0)).trans g0
      replace g1 := (HB.out.cell (World.block_lt_of_cell? w _ g1)).trans g1
      replace g2 := (HB.out.cell (World.block_lt_of_cell? w _ g2)).trans g2
      replace g3 := (HB.out.cell (World.block_lt_of_cell? w _ g3)).trans g3
      replace g4 := (HB.out.cell (World.block_lt_of_cell? w _ g4)).trans g4
      replace g5 := (HB.out.cell (World.block_lt_of_cell? w _ g5)).trans g5
      have HD2 := Aside0.mk hd2
      have HK2 := Aside0.mk (show (Kd.int .u64).C wr B2 (rd_T76 l0_2 (i : Int)).f2.length (rd_T76 l0_2 (i : Int)).f2 from Kd.C_below hk2 HB.out)
      have hkw := hk2
      clear hd2 hk2
      have hi0 : 0 ≤ (i : Int) := by omega
      have hiz : (i : Int) < (l0_2.length : Int) := by omega
      have hic : (i : Int) ≤ (c0_2 : Int) := by have := HC.out; omega
      have hcon := fun (W : World) (hb : Below w.heap.size w W) (bn : Nat) (hx : W.cell? ⟨bn, 0, none⟩ = some (.int .u64 (rd_T76 l0_2 (i : Int)).f0)) => slot_contains.calls (some ad) c0_2 i l0_2 bn (rd_T76 l0_2 (i : Int)).f0 W (Kd.C_below HR.out hb) (by omega) (by have := HN.out; omega) hx
      have HCon := Aside0.mk hcon
      clear hcon
      by_cases he : e = 0
      · have H := HH.out
        rw [if_pos he] at H
        have hed : decide (e = 0) = true := decide_eq_true he
        have hen : (e != 0) = false := by rw [he]; rfl
        by_cases ht : twice l0_2 (rd_T76 l0_2 (i : Int)).f0 i = true
        · rw [if_pos ht] at H
          simp only [Option.some.injEq, Prod.mk.injEq] at H
          obtain ⟨rfl, rfl⟩ := H
          subst he
          clear hed hen hkw
          go_wp2_with (first | (go_at_call 56; refine (slot_may.calls k (rd_T76 l0_2 (i : Int)).f0 (rd_T76 l0_2 (i : Int)).f1 B2 d2 (rd_T76 l0_2 (i : Int)).f2 (rd_T76 l0_2 (i : Int)).f3 (rd_T76 l0_2 (i : Int)).f4 (rd_T76 l0_2 (i : Int)).f5 0 _ (Kd.C_alloc HK2.out _) HD2.out HMay.out).mono ?_; rintro e w5 ⟨rfl, hb5⟩; have BX5 := Aside0.mk (blk_below (blk_alloc BX.out (.cells #[.int .u64 (rd_T76 l0_2 (i : Int)).f0, .string (rd_T76 l0_2 (i : Int)).f1, .slice B2 (rd_T76 l0_2 (i : Int)).f2.length d2, .int .i64 (rd_T76 l0_2 (i : Int)).f3, .bool (rd_T76 l0_2 (i : Int)).f4, .int .u64 (rd_T76 l0_2 (i : Int)).f5] 76 (0, 0))) hb5); have BO5 := Aside0.mk (blk_below (blk_alloc BO.out (.cells #[.int .u64 (rd_T76 l0_2 (i : Int)).f0, .string (rd_T76 l0_2 (i : Int)).f1, .slice B2 (rd_T76 l0_2 (i : Int)).f2.length d2, .int .i64 (rd_T76 l0_2 (i : Int)).f3, .bool (rd_T76 l0_2 (i : Int)).f4, .int .u64 (rd_T76 l0_2 (i : Int)).f5] 76 (0, 0))) hb5); have BN5 := Aside0.mk (blk_below (blk_new wr (.cells #[.int .u64 (rd_T76 l0_2 (i : Int)).f0, .string (rd_T76 l0_2 (i : Int)).f1, .slice B2 (rd_T76 l0_2 (i : Int)).f2.length d2, .int .i64 (rd_T76 l0_2 (i : Int)).f3, .bool (rd_T76 l0_2 (i : Int)).f4, .int .u64 (rd_T76 l0_2 (i : Int)).f5] 76 (0, 0))) hb5); have HB5 := Aside0.mk (below_step (below_alloc HB.out (.cells #[.int .u64 (rd_T76 l0_2 (i : Int)).f0, .string (rd_T76 l0_2 (i : Int)).f1, .slice B2 (rd_T76 l0_2 (i : Int)).f2.length d2, .int .i64 (rd_T76 l0_2 (i : Int)).f3, .bool (rd_T76 l0_2 (i : Int)).f4, .int .u64 (rd_T76 l0_2 (i : Int)).f5] 76 (0, 0))) hb5); have n0 := (blk_cell BN5.out 0).trans rfl; have n1 := (blk_cell BN5.out 1).trans rfl; have n2 := (blk_cell BN5.out 2).trans rfl; have n3 := (blk_cell BN5.out 3).trans rfl; have n4 := (blk_cell BN5.out 4).trans rfl; have n5 := (blk_cell BN5.out 5).trans rfl; have x2 := (blk_cell BX5.out 2).trans rfl; clear hb5) | (go_at_call 57; refine (HCon.out _ HB5.out _ n0).mono ?_; rintro e w6 ⟨rfl, hb6⟩; have BX6 := Aside0.mk (blk_below BX5.out hb6); have BO6 := Aside0.mk (blk_below BO5.out hb6); have BN6 := Aside0.mk (blk_below BN5.out hb6); have HB6 := Aside0.mk (below_step HB5.out hb6); clear n0 n1 n2 n3 n4 n5 x2 hb6; have n0 := (blk_cell BN6.out 0).trans rfl; have n1 := (blk_cell BN6.out 1).trans rfl; have n2 := (blk_cell BN6.out 2).trans rfl; have n3 := (blk_cell BN6.out 3).trans rfl; have n4 := (blk_cell BN6.out 4).trans rfl; have n5 := (blk_cell BN6.out 5).trans rfl))
          go_ret2
          exact ⟨rfl, HB6.out⟩
        · rw [if_neg ht] at H
          have htf : twice l0_2 (rd_T76 l0_2 (i : Int)).f0 i = false := by simpa using ht
          replace H := Option.bind_eq_some_iff.mp H
          obtain ⟨S, hwr, H⟩ := H
          have HWr := Aside0.mk hwr
          have H' := Aside0.mk H
          have hS : S.length = 48 := by
            unfold slot_write.f at hwr
            by_cases h1 : (rd_T76 l0_2 (i : Int)).f1.size ≤ 44
            case neg => rw [if_neg h1] at hwr; cases hwr
            rw [if_pos h1] at hwr
            by_cases h2 : (rd_T76 l0_2 (i : Int)).f2.length ≤ 4
            case neg => rw [if_neg h2] at hwr; cases hwr
            rw [if_pos h2] at hwr
            by_cases h0 : 0 ≤ (rd_T76 l0_2 (i : Int)).f0
            case neg => rw [if_neg h0] at hwr; cases hwr
            rw [if_pos h0] at hwr
            replace hwr := Option.bind_eq_some_iff.mp hwr
            obtain ⟨LF, hF, hK⟩ := hwr
            exact laidOver_length k _ _ _ (laidOver_length k _ _ _ (slotHead_length _ h1) hF) hK
          have hn48 : (Lib.byteCells S).toArray.size = 48 := by rw [List.size_toArray, Lib.byteCells_length]; exact hS
          have X1 := Aside0.mk (show (Try.prog.info? 96).map (·.size) = some (Lib.byteCells S).toArray.size by rw [hn48]; kernel_rfl)
          have X2 := Aside0.mk (show (Lib.byteCells (List.replicate 48 0)).toArray.size = (Lib.byteCells S).toArray.size by rw [hn48, List.size_toArray, Lib.byteCells_length, List.length_replicate])
          have X3 := Aside0.mk (show (Lib.byteCells S).toArray.all (·.oneCell') = true by rw [Array.all_eq_true_iff_forall_mem]; intro x hx; exact Lib.byteCells_one S x (by simpa using hx))
          have HKW := Aside0.mk (show (Kd.int .u64).C w B2 (rd_T76 l0_2 (i : Int)).f2.length (rd_T76 l0_2 (i : Int)).f2 from hkw)
          have HS := Aside0.mk hS
          subst he
          clear hed hen ht hwr H hS hn48 hkw
          go_wp2_with (first | (go_at_call 56; refine (slot_may.calls k (rd_T76 l0_2 (i : Int)).f0 (rd_T76 l0_2 (i : Int)).f1 B2 d2 (rd_T76 l0_2 (i : Int)).f2 (rd_T76 l0_2 (i : Int)).f3 (rd_T76 l0_2 (i : Int)).f4 (rd_T76 l0_2 (i : Int)).f5 0 _ (Kd.C_alloc HK2.out _) HD2.out HMay.out).mono ?_; rintro e w5 ⟨rfl, hb5⟩; have BX5 := Aside0.mk (blk_below (blk_alloc BX.out (.cells #[.int .u64 (rd_T76 l0_2 (i : Int)).f0, .string (rd_T76 l0_2 (i : Int)).f1, .slice B2 (rd_T76 l0_2 (i : Int)).f2.length d2, .int .i64 (rd_T76 l0_2 (i : Int)).f3, .bool (rd_T76 l0_2 (i : Int)).f4, .int .u64 (rd_T76 l0_2 (i : Int)).f5] 76 (0, 0))) hb5); have BO5 := Aside0.mk (blk_below (blk_alloc BO.out (.cells #[.int .u64 (rd_T76 l0_2 (i : Int)).f0, .string (rd_T76 l0_2 (i : Int)).f1, .slice B2 (rd_T76 l0_2 (i : Int)).f2.length d2, .int .i64 (rd_T76 l0_2 (i : Int)).f3, .bool (rd_T76 l0_2 (i : Int)).f4, .int .u64 (rd_T76 l0_2 (i : Int)).f5] 76 (0, 0))) hb5); have BN5 := Aside0.mk (blk_below (blk_new wr (.cells #[.int .u64 (rd_T76 l0_2 (i : Int)).f0, .string (rd_T76 l0_2 (i : Int)).f1, .slice B2 (rd_T76 l0_2 (i : Int)).f2.length d2, .int .i64 (rd_T76 l0_2 (i : Int)).f3, .bool (rd_T76 l0_2 (i : Int)).f4, .int .u64 (rd_T76 l0_2 (i : Int)).f5] 76 (0, 0))) hb5); have HB5 := Aside0.mk (below_step (below_alloc HB.out (.cells #[.int .u64 (rd_T76 l0_2 (i : Int)).f0, .string (rd_T76 l0_2 (i : Int)).f1, .slice B2 (rd_T76 l0_2 (i : Int)).f2.length d2, .int .i64 (rd_T76 l0_2 (i : Int)).f3, .bool (rd_T76 l0_2 (i : Int)).f4, .int .u64 (rd_T76 l0_2 (i : Int)).f5] 76 (0, 0))) hb5); have n0 := (blk_cell BN5.out 0).trans rfl; have n1 := (blk_cell BN5.out 1).trans rfl; have n2 := (blk_cell BN5.out 2).trans rfl; have n3 := (blk_cell BN5.out 3).trans rfl; have n4 := (blk_cell BN5.out 4).trans rfl; have n5 := (blk_cell BN5.out 5).trans rfl; have x2 := (blk_cell BX5.out 2).trans rfl; clear hb5) | (go_at_call 57; refine (HCon.out _ HB5.out _ n0).mono ?_; rintro e w6 ⟨rfl, hb6⟩; have BX6 := Aside0.mk (blk_below BX5.out hb6); have BO6 := Aside0.mk (blk_below BO5.out hb6); have BN6 := Aside0.mk (blk_below BN5.out hb6); have HB6 := Aside0.mk (below_step HB5.out hb6); clear n0 n1 n2 n3 n4 n5 x2 hb6; have n0 := (blk_cell BN6.out 0).trans rfl; have n1 := (blk_cell BN6.out 1).trans rfl; have n2 := (blk_cell BN6.out 2).trans rfl; have n3 := (blk_cell BN6.out 3).trans rfl; have n4 := (blk_cell BN6.out 4).trans rfl; have n5 := (blk_cell BN6.out 5).trans rfl) | (go_at_call 59; refine (slot_write.calls k (rd_T76 l0_2 (i : Int)).f0 (rd_T76 l0_2 (i : Int)).f1 B2 d2 (rd_T76 l0_2 (i : Int)).f2 (rd_T76 l0_2 (i : Int)).f3 (rd_T76 l0_2 (i : Int)).f4 (rd_T76 l0_2 (i : Int)).f5 S _ (Kd.C_below HKW.out HB6.out) HD2.out HWr.out).mono ?_; rintro e w7 ⟨rfl, hb7⟩; have BX7 := Aside0.mk (blk_below BX6.out hb7); have BO7 := Aside0.mk (blk_below BO6.out hb7); have HB7 := Aside0.mk (below_step HB6.out hb7); clear n0 n1 n2 n3 n4 n5 hb7) | (refine wpList_store_row rfl 96 (.tmp 10) (.tmp 72) rfl w7.heap.size (Lib.byteCells S).toArray rfl rfl 96 (Lib.byteCells (List.replicate 48 0)).toArray (blk_new_at rfl rfl) X1.out X2.out X3.out ?_))
          simp only [Act.put]
          generalize hw8 : World.setRow _ _ _ = w8
          have l1 := blk_lt BX7.out
          have l2 := blk_lt BO7.out
          have BX8 := Aside0.mk (show w8.heap[w.heap.size]? = some (.cells #[.int .i64 a0_0, .int .i64 a0_1, .slice (some ad) l0_2.length c0_2] 64 (0, 0)) by rw [← hw8, setRow_other _ _ _ _ (by omega)]; exact blk_alloc BX7.out _)
          have BO8 := Aside0.mk (show w8.heap[g]? = some (.cells (Lib.byteCells L).toArray 5 (0, 0)) by rw [← hw8, setRow_other _ _ _ _ (by omega)]; exact blk_alloc BO7.out _)
          have BS8 := Aside0.mk (show w8.heap[w7.heap.size]? = some (.cells (Lib.byteCells S).toArray 96 (0, 0)) by rw [← hw8]; exact setRow_heap _ _ (Lib.byteCells (List.replicate 48 0)).toArray _ 96 _ (blk_new_at rfl rfl))
          have HB8 := Aside0.mk (show Below w.heap.size w w8 by rw [← hw8]; exact below_setRow (below_alloc HB7.out _) (by omega) _)
          have HL1 := Aside0.mk l1
          clear hw8 l1 l2 BX7 BO7 HB7 BX6 BO6 HB6 BN6 BX5 BO5 HB5 BN5 BX BO HB g0 g1 g2 g3 g4 g5
          have hiN : i < 5 := hi5
          clear hi5
          have hw1 : IntKind.i64.wrap (48 * (i : Int)) = 48 * (i : Int) := by rw [IntKind.wrap_i64]; omega
          have hw2 : IntKind.i64.wrap (16 + 48 * (i : Int)) = 16 + 48 * (i : Int) := by rw [IntKind.wrap_i64]; clear hw1; omega
          have HW1 := Aside0.mk hw1
          have HW2 := Aside0.mk hw2
          have HI5 := Aside0.mk hiN
          clear hw1 hw2
          have hs0 : 0 ≤ 16 + 48 * (i : Int) := by omega
          have hs256 : 16 + 48 * (i : Int) ≤ 256 := by omega
          have hst : (16 + 48 * (i : Int)).toNat = 16 + 48 * i := by omega
          have hsn : (256 = 16 + 48 * i) = False := eq_false (by omega)
          have HNg := Aside0.mk (show w.heap.size ≠ g by have := HLt.out; omega)
          clear hiN
          have hw1 := HW1.out
          have hw2 := HW2.out
          go_region_held3 (fun w' => w'.cell? ⟨w.heap.size, 0, none⟩ = some (.int .i64 a0_0)) (first | exact (blk_cell (blk_drew BX8.out) 0).trans rfl | exact (blk_cell (HL9.out.2.2.2 _ _ HNg.out (blk_drew BX8.out)) 0).trans rfl) (first | (refine step_copy_row rfl (.tmp 77) (.tmp 78) 79 79 rfl 5 Try.underlying79 (by kernel_rfl) (256 - (16 + 48 * i)) (256 - (16 + 48 * i)) w7.heap.size 48 48 S 96 g (16 + 48 * i) L 5 rfl rfl BO8.out BS8.out (by rw [HS.out]; show 48 = min 48 (256 - (16 + 48 * i)); have := HI5.out; clear hw1 hw2; omega) (by have := HI5.out; clear hw1 hw2; rw [HS.out, HLL.out]; omega) ?_; intro w9 HL9))
          clear hw1 hw2 hs0 hs256 hst hsn
          have hi5z : (i : Int) < 5 := by have := HI5.out; omega
          go_wp2
          go_roundg (5 - (i + 1))
          case measure => have := hkq.out; have := HI5.out; omega
          case rel => exact ⟨i + 1, splice L (16 + 48 * i) S, by first | rfl | (simp; done), by omega, ⟨rfl⟩, ⟨by rw [length_splice _ _ _ (by have := HI5.out; rw [HS.out, HLL.out]; omega)]; exact HLL.out⟩, H', ⟨HL9.out.2.2.2 _ _ HNg.out (blk_drew BX8.out)⟩, ⟨HL9.out.1⟩, ⟨HL9.out.2.2.1 _ _ (below_drew1 HB8.out) (by have := HLt.out; omega)⟩⟩
      · have H := HH.out
        rw [if_neg he] at H
        simp only [Option.some.injEq, Prod.mk.injEq] at H
        obtain ⟨rfl, rfl⟩ := H
        have hed : decide (e = 0) = false := decide_eq_false he
        have hen : (e != 0) = true := bne_iff_ne.2 he
        have hee : (e == 0) = false := beq_eq_false_iff_ne.2 he
        clear he hkw
        go_wp2_with (first | (go_at_call 56; refine (slot_may.calls k (rd_T76 l0_2 (i : Int)).f0 (rd_T76 l0_2 (i : Int)).f1 B2 d2 (rd_T76 l0_2 (i : Int)).f2 (rd_T76 l0_2 (i : Int)).f3 (rd_T76 l0_2 (i : Int)).f4 (rd_T76 l0_2 (i : Int)).f5 e _ (Kd.C_alloc HK2.out _) HD2.out HMay.out).mono ?_; rintro e w5 ⟨rfl, hb5⟩; have BX5 := Aside0.mk (blk_below (blk_alloc BX.out (.cells #[.int .u64 (rd_T76 l0_2 (i : Int)).f0, .string (rd_T76 l0_2 (i : Int)).f1, .slice B2 (rd_T76 l0_2 (i : Int)).f2.length d2, .int .i64 (rd_T76 l0_2 (i : Int)).f3, .bool (rd_T76 l0_2 (i : Int)).f4, .int .u64 (rd_T76 l0_2 (i : Int)).f5] 76 (0, 0))) hb5); have BO5 := Aside0.mk (blk_below (blk_alloc BO.out (.cells #[.int .u64 (rd_T76 l0_2 (i : Int)).f0, .string (rd_T76 l0_2 (i : Int)).f1, .slice B2 (rd_T76 l0_2 (i : Int)).f2.length d2, .int .i64 (rd_T76 l0_2 (i : Int)).f3, .bool (rd_T76 l0_2 (i : Int)).f4, .int .u64 (rd_T76 l0_2 (i : Int)).f5] 76 (0, 0))) hb5); have BN5 := Aside0.mk (blk_below (blk_new wr (.cells #[.int .u64 (rd_T76 l0_2 (i : Int)).f0, .string (rd_T76 l0_2 (i : Int)).f1, .slice B2 (rd_T76 l0_2 (i : Int)).f2.length d2, .int .i64 (rd_T76 l0_2 (i : Int)).f3, .bool (rd_T76 l0_2 (i : Int)).f4, .int .u64 (rd_T76 l0_2 (i : Int)).f5] 76 (0, 0))) hb5); have HB5 := Aside0.mk (below_step (below_alloc HB.out (.cells #[.int .u64 (rd_T76 l0_2 (i : Int)).f0, .string (rd_T76 l0_2 (i : Int)).f1, .slice B2 (rd_T76 l0_2 (i : Int)).f2.length d2, .int .i64 (rd_T76 l0_2 (i : Int)).f3, .bool (rd_T76 l0_2 (i : Int)).f4, .int .u64 (rd_T76 l0_2 (i : Int)).f5] 76 (0, 0))) hb5); have n0 := (blk_cell BN5.out 0).trans rfl; have n1 := (blk_cell BN5.out 1).trans rfl; have n2 := (blk_cell BN5.out 2).trans rfl; have n3 := (blk_cell BN5.out 3).trans rfl; have n4 := (blk_cell BN5.out 4).trans rfl; have n5 := (blk_cell BN5.out 5).trans rfl; have x2 := (blk_cell BX5.out 2).trans rfl; clear hb5) | (fail))
        go_ret2
        exact ⟨rfl, HB5.out⟩
    · obtain rfl : i = l0_2.length := by omega
      have H := HF.out
      rw [Nat.sub_self] at H
      simp only [packFrom, Option.some.injEq, Prod.mk.injEq] at H
      obtain ⟨rfl, rfl⟩ := H
      have hcv : (convert 79 9 (.slice (some ⟨g, 0, none⟩) 256 256)).run Try.prog wr = .ok (.string ⟨L.toArray⟩) wr := by
        have h := run_convert_bytes_back wr 79 9 5 ⟨g, 0, none⟩ 256 L Try.underlying79 Try.underlying5 Try.underlying9 (fun j hj => by
          have hc := blk_cell BO.out j
          have ha : (⟨g, 0, none⟩ : Addr).add j = ⟨g, 0 + j, none⟩ := by unfold Addr.add; split <;> simp_all
          rw [ha, Nat.zero_add, hc]
          simp [Lib.byteCells, hj])
        rw [HLL.out] at h
        exact h
      clear HF hin hi
      go_wp2
      go_ret2
      exact ⟨rfl, HB.out⟩

end Go.Proofs.Ytdieanikopjbjaa.QSlotUn
