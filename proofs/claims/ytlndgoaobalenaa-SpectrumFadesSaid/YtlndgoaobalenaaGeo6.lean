/- Walks: scaling a power; the walls that a path crosses. -/
import Derived.Test.YtlndgoaobalenaaGeo4
import Derived.Test.YtlndgoaobalenaaGeo5
import Derived.Test.YtlndgoaobalenaaSpec5
import Derived.Test.YtlndgoaobalenaaRng
namespace Go.Proofs.Ytlndgoaobalenaa
open Go.RowKit Go.Shelf
attribute [local go_sem] Oper.semAt_some
set_option linter.unusedVariables false
set_option linter.unusedSimpArgs false
set_option maxHeartbeats 4000000
set_option maxRecDepth 100000
def scaleB (p f : Int) : Bool := powB p && decide (0 ≤ f) && decide (f ≤ 1000)
def scaleE (p f : Int) : Int := if scaleB p f then 0 else 2
def scaleN (p f : Int) : Int := if scaleB p f then p * f / 1000 else 0
theorem pScale (p f : Int) (w : World) : Calls Try.prog 58 #[.int .i64 p, .int .i64 f] w fun e w' => e = .returned (.tuple #[.int .i64 (scaleN p f), .int .i64 (scaleE p f)]) ∧ w = w' := by
  go_enter Try.func58, Try.ntmps58
  go_wp2_with fail
  refine (pPower p _).mono ?_
  rintro e w2 ⟨rfl, rfl⟩
  rcases Bool.eq_false_or_eq_true (powB p) with q | q
  · rw [q]
    have Hq := Lib.hid q
    obtain ⟨h0, h1⟩ := pow_is q
    clear q
    by_cases hf : 0 ≤ f ∧ f ≤ 1000
    · obtain ⟨f0, f1⟩ := hf
      have hm0 : 0 ≤ p * f := Int.mul_nonneg h0 f0
      have hm1 : p * f ≤ 68719476736 * 1000 := Int.mul_le_mul h1 f1 f0 (by omega)
      have hw : wrap64 (p * f) = p * f := w64 (by omega) (by omega)
      have hs : scaleB p f = true := by simp [scaleB, Hq.out, f0, f1]
      have Hs := Lib.hid hs
      clear hs
      go_wp2
      go_ret2
      exact ⟨ret_two (by simp [scaleN, Hs.out]) (by simp [scaleE, Hs.out]), rfl⟩
    · have hs : scaleB p f = false := by simp only [scaleB, Hq.out, Bool.true_and]; rw [Bool.eq_false_iff]; intro h; simp only [Bool.and_eq_true, decide_eq_true_eq] at h; exact hf h
      have Hs := Lib.hid hs
      have Hf := Lib.hid hf
      clear hs hf
      go_wp2_with fail
      all_goals first
        | (go_ret2; exact ⟨ret_two (by simp [scaleN, Hs.out]) (by simp [scaleE, Hs.out]), rfl⟩)
        | (exfalso; have := Hf.out; omega)
  · rw [q]
    have hs : scaleB p f = false := by simp [scaleB, q]
    have Hs := Lib.hid hs
    clear hs
    go_wp2
    go_ret2
    exact ⟨ret_two (by simp [scaleN, Hs.out]) (by simp [scaleE, Hs.out]), rfl⟩
end Go.Proofs.Ytlndgoaobalenaa
