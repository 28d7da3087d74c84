/- The contract of sort.Search, whatever the predicate says: the place at which its halvings end. No condition beside fewer than 2^62 places. -/
import Derived.Test.YtdieanikopjbjaaProg
import Derived.Test.YtdieanikopjbjaaVMore
import Derived.Test.YtdieanikopjbjaaVLast
import Derived.WalkKit
import Derived.Deep.LoopGhost
import Derived.Deep.QuietTactic
import Derived.Shelf.Abstract
namespace Go.Proofs.Ytdieanikopjbjaa.Search
open Go.RowKit Go.Proofs.YtdieanikopjbjaaW.PrintWords Go.Proofs.YtdieanikopjbjaaW.PrintLast Go.Proofs.YtdieanikopjbjaaW.PrintMore
/-- Where the halvings end. -/
def halvings (p : Nat → Bool) : Nat → Nat → Nat → Nat
  | 0, lo, _ => lo
  | m + 1, lo, hi => if lo < hi then (if p ((lo + hi) / 2) = true then halvings p m lo ((lo + hi) / 2) else halvings p m ((lo + hi) / 2 + 1) hi) else lo
theorem halvings_more (p : Nat → Bool) (m lo hi : Nat) (h : hi - lo ≤ m) : halvings p (m + 1) lo hi = halvings p m lo hi := by
  induction m generalizing lo hi with
  | zero => simp only [halvings]; rw [if_neg (by omega)]
  | succ m ih =>
    rw [halvings]
    conv => rhs; rw [halvings]
    by_cases hl : lo < hi
    · rw [if_pos hl, if_pos hl, ih lo ((lo + hi) / 2) (by omega), ih ((lo + hi) / 2 + 1) hi (by omega)]
    · rw [if_neg hl, if_neg hl]
theorem halvings_enough (p : Nat → Bool) (m lo hi : Nat) (h : hi - lo ≤ m) : halvings p m lo hi = halvings p (hi - lo) lo hi := by
  obtain ⟨j, rfl⟩ : ∃ j, m = (hi - lo) + j := ⟨m - (hi - lo), by omega⟩
  clear h
  induction j with
  | zero => rfl
  | succ j ih => rw [show hi - lo + (j + 1) = (hi - lo + j) + 1 from rfl, halvings_more p _ lo hi (by omega), ih]
set_option maxHeartbeats 4000000 in
set_option maxRecDepth 1000000 in
theorem search_c (g : Nat) (cb : Array Value) (n : Nat) (p : Nat → Bool) (w : World) (eg : ∀ args w, (callFunc g args).run Try.prog w = .ok (.enter g args) w) (hsz : n < 4611686018427387904)
    (hf : ∀ (m i : Nat), i < n → Calls Try.prog g (#[.int .i64 i] ++ cb) (w.drewN m) fun e w' => e = .returned (.bool (p i)) ∧ ∃ q, w' = (w.drewN m).drewN q) :
    Calls Try.prog 45 #[.int .i64 n, .func (.func g) #[] cb] w fun e w' => e = .returned (.int .i64 (halvings p n 0 n)) ∧ ∃ q, w' = w.drewN q := by
  have HF := Aside0.mk hf
  clear hf
  go_enter Try.func45, Try.ntmps45
  go_wp2
  go_loopg [5, 6] n (fun kx s5 s6 wr => ∃ (lo hi q : Nat), s5 = .int .i64 lo ∧ s6 = .int .i64 hi ∧ lo ≤ hi ∧ hi ≤ n ∧ hi - lo ≤ kx ∧ wr = w.drewN q ∧
    Aside0 (halvings p n 0 n = halvings p (hi - lo) lo hi))
  case atStart => exact ⟨0, n, 0, rfl, rfl, Nat.zero_le _, Nat.le_refl _, by omega, rfl, ⟨rfl⟩⟩
  case round =>
    obtain ⟨lo, hi, q, rfl, rfl, hlh, hin, hg, rfl, I⟩ := hrel
    by_cases hlt : lo < hi
    · have hc := HF.out q ((lo + hi) / 2) (by omega)
      rw [show (((lo + hi) / 2 : Nat) : Int) = ((lo : Int) + (hi : Int)) / 2 by omega] at hc
      cases hp : p ((lo + hi) / 2) <;> rw [hp] at hc
      · have HP := Aside0.mk hp
        clear hp
        go_wp2_with (go_at_fn g; refine hc.mono ?_; rintro e w' ⟨rfl, nq, rfl⟩)
        go_roundg (hi - ((lo + hi) / 2 + 1))
        case measure => omega
        case rel =>
          have I2 : halvings p n 0 n = halvings p (hi - ((lo + hi) / 2 + 1)) ((lo + hi) / 2 + 1) hi := by
            rw [I.out, show hi - lo = (hi - lo - 1) + 1 by omega, halvings, if_pos hlt, if_neg (by rw [HP.out]; decide), halvings_enough p _ ((lo + hi) / 2 + 1) hi (by omega)]
          exact ⟨(lo + hi) / 2 + 1, hi, q + nq, by rw [show ((lo : Int) + (hi : Int)) / 2 + 1 = (((lo + hi) / 2 + 1 : Nat) : Int) by omega], rfl, by omega, hin, Nat.le_refl _, rfl, ⟨I2⟩⟩
      · have HP := Aside0.mk hp
        clear hp
        go_wp2_with (go_at_fn g; refine hc.mono ?_; rintro e w' ⟨rfl, nq, rfl⟩)
        go_roundg ((lo + hi) / 2 - lo)
        case measure => omega
        case rel =>
          have I2 : halvings p n 0 n = halvings p ((lo + hi) / 2 - lo) lo ((lo + hi) / 2) := by
            rw [I.out, show hi - lo = (hi - lo - 1) + 1 by omega, halvings, if_pos hlt, if_pos HP.out, halvings_enough p _ lo ((lo + hi) / 2) (by omega)]
          exact ⟨lo, (lo + hi) / 2, q + nq, rfl, by rw [show ((lo : Int) + (hi : Int)) / 2 = (((lo + hi) / 2 : Nat) : Int) by omega], by omega, by omega, Nat.le_refl _, rfl, ⟨I2⟩⟩
    · have e : halvings p n 0 n = lo := by
        rw [I.out, show hi - lo = 0 by omega]
        rfl
      have E := Aside0.mk e
      have hd : decide (lo < hi) = false := decide_eq_false hlt
      clear e hlh hg I
      go_wp2
      go_ret
      exact ⟨by rw [E.out]; rfl, q, rfl⟩
end Go.Proofs.Ytdieanikopjbjaa.Search
