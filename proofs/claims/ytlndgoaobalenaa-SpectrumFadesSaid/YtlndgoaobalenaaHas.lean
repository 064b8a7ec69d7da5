/- Walks: a number in a list. -/
import Derived.Test.YtlndgoaobalenaaSpec2
namespace Go.Proofs.Ytlndgoaobalenaa
open Go.RowKit
set_option linter.unusedVariables false
set_option linter.unusedSimpArgs false
set_option maxHeartbeats 4000000
set_option maxRecDepth 100000
def hasB (xs : List Int) (c : Int) : Bool := xs.any fun x => decide (x = c)
theorem xIndex (xs : List Int) (c : Int) (v : Value) (w : World) (h : SlV 1 KI w v xs) : Calls Try.prog 48 #[v, .int .i64 c] w fun e w' => e = .returned (.int .i64 (idxI (fun x => decide (x = c)) xs)) ∧ w = w' := by
  obtain ⟨A, cc, rfl, hc, hm, hr⟩ := h
  unfold big at hm
  go_enter Try.func48, Try.ntmps48
  go_wp2_with fail
  go_loopw [8] (fun i wr => ∃ k : Nat, k ≤ xs.length ∧ i = .int .i64 k ∧ allTo (fun x => !decide (x = c)) xs k ∧ w = wr) (fun i _ => xs.length - (intOf i).toNat)
  case atStart => exact ⟨0, Nat.zero_le _, rfl, allTo.zero _ _, rfl⟩
  case round =>
    obtain ⟨k, hk, rfl, ha, rfl⟩ := hrel
    by_cases hlt : k < xs.length
    · obtain ⟨x, hx⟩ : ∃ x, xs[k]? = some x := ⟨_, List.getElem?_eq_getElem hlt⟩
      obtain ⟨b, off, rfl, h0⟩ := hr.int (Below.refl _ _) hx
      have Hx := Lib.hid hx
      clear hx
      by_cases q : c = x
      · have g : (c == x) = true := by simpa using q
        have Hq := Lib.hid q
        clear q
        go_wp2
        go_ret
        exact ⟨ret_int (idx_some ha Hx.out (by simp [Hq.out])), rfl⟩
      · have g : (c == x) = false := by simpa using q
        go_wp2
        go_roundw
        case rel => exact ⟨k + 1, by omega, by go_num, ha.succ Hx.out (by simp; exact fun e => q e.symm), trivial⟩
        case measure => simp [intOf]; omega
    · go_wp2
      go_ret
      exact ⟨ret_int (idx_none ha (by omega)), rfl⟩
theorem xContains (xs : List Int) (c : Int) (v : Value) (w : World) (h : SlV 1 KI w v xs) : Calls Try.prog 20 #[v, .int .i64 c] w fun e w' => e = .returned (.bool (hasB xs c)) ∧ w = w' := by
  have hh := h
  obtain ⟨A, cc, rfl, hc, hm, hr⟩ := h
  go_enter Try.func20, Try.ntmps20
  go_wp2_with fail
  refine (xIndex xs c _ _ hh).mono ?_
  rintro e w2 ⟨rfl, rfl⟩
  go_wp2
  go_ret
  exact ⟨ret_bool (by rw [hasB, ← idx_any]), rfl⟩
theorem r06has (xs : List Int) (c : Int) (v : Value) (w : World) (h : SlV 1 KI w v xs) : Calls Try.prog 51 #[v, .int .i64 c] w fun e w' => e = .returned (.bool (hasB xs c)) ∧ w = w' := by
  obtain ⟨A, cc, rfl, hc, hm, hr⟩ := h
  unfold big at hm
  go_enter Try.func51, Try.ntmps51
  go_wp2_with fail
  go_loopw [5] (fun i wr => ∃ k : Nat, k ≤ xs.length ∧ i = .int .i64 k ∧ allTo (fun x => !decide (x = c)) xs k ∧ w = wr) (fun i _ => xs.length - (intOf i).toNat)
  case atStart => exact ⟨0, Nat.zero_le _, rfl, allTo.zero _ _, rfl⟩
  case round =>
    obtain ⟨k, hk, rfl, ha, rfl⟩ := hrel
    by_cases hlt : k < xs.length
    · obtain ⟨x, hx⟩ : ∃ x, xs[k]? = some x := ⟨_, List.getElem?_eq_getElem hlt⟩
      obtain ⟨b, off, rfl, h0⟩ := hr.int (Below.refl _ _) hx
      have Hx := Lib.hid hx
      clear hx
      by_cases q : x = c
      · have g : (x == c) = true := by simpa using q
        have Hq := Lib.hid q
        clear q
        go_wp2
        go_ret
        exact ⟨ret_bool (by rw [hasB]; exact (List.any_eq_true.2 ⟨x, List.mem_of_getElem? Hx.out, by simpa using Hq.out⟩).symm), rfl⟩
      · have g : (x == c) = false := by simpa using q
        go_wp2
        go_roundw
        case rel => exact ⟨k + 1, by omega, by go_num, ha.succ Hx.out (by simp; exact q), trivial⟩
        case measure => simp [intOf]; omega
    · go_wp2
      go_ret
      exact ⟨ret_bool (by rw [hasB, ← idx_any, ← idx_none ha (by omega)]; rfl), rfl⟩
end Go.Proofs.Ytlndgoaobalenaa
