/- When a transmitter is on: a point of the interval at which its period says so. -/
import Derived.Test.YtlndgoaobalenaaSpec2
namespace Go.Proofs.Ytlndgoaobalenaa
open Go.RowKit
set_option linter.unusedVariables false
set_option linter.unusedSimpArgs false
theorem on_iff {s : Src} (hs : srcB s = true) {f t : Int} (h0 : 0 ≤ f) (h : f ≤ t) : onB s f t = true ↔ ∃ x, f ≤ x ∧ x < t ∧ s.frm ≤ x % s.per ∧ x % s.per < s.to := by
  obtain ⟨p0, p1, p2, p3, p4⟩ := srcB_per hs
  have hp : 0 < s.per := by omega
  have r0 : 0 ≤ f % s.per := Int.emod_nonneg _ (by omega)
  have r1 : f % s.per < s.per := Int.emod_lt_of_pos _ hp
  have r2 : s.per * (f / s.per) + f % s.per = f := Int.mul_ediv_add_emod f s.per
  have point : ∀ k : Int, s.frm < s.to → (s.per * k + s.frm) % s.per = s.frm := fun k hk => by
    rw [Int.add_comm, Int.add_mul_emod_self_left]
    exact Int.emod_eq_of_lt p0 (by omega)
  constructor
  · intro hon
    simp only [onB, Bool.and_eq_true, Bool.or_eq_true, decide_eq_true_eq, ne_eq, decide_not, Bool.not_eq_true', decide_eq_false_iff_not] at hon
    obtain ⟨⟨h1, h2⟩, h3⟩ := hon
    have h4 : s.frm < s.to := by omega
    rcases h3 with ⟨h5, h6⟩ | h5
    · by_cases c : s.frm ≤ f % s.per
      · exact ⟨f, by omega, by omega, c, h5⟩
      · refine ⟨s.per * (f / s.per) + s.frm, by omega, by omega, ?_, ?_⟩ <;> rw [point _ h4] <;> omega
    · have e : s.per * (f / s.per + 1) = s.per * (f / s.per) + s.per := by rw [Int.mul_add, Int.mul_one]
      refine ⟨s.per * (f / s.per + 1) + s.frm, by omega, by omega, ?_, ?_⟩ <;> rw [point _ h4] <;> omega
  · rintro ⟨x, h1, h2, h3, h4⟩
    have q0 : 0 ≤ x % s.per := Int.emod_nonneg _ (by omega)
    have q2 : s.per * (x / s.per) + x % s.per = x := Int.mul_ediv_add_emod x s.per
    have q3 : f / s.per ≤ x / s.per := Int.ediv_le_ediv hp h1
    simp only [onB, Bool.and_eq_true, Bool.or_eq_true, decide_eq_true_eq, ne_eq, decide_not, Bool.not_eq_true', decide_eq_false_iff_not]
    refine ⟨⟨by omega, by omega⟩, ?_⟩
    by_cases c : f / s.per < x / s.per
    · right
      have e : s.per * (f / s.per + 1) ≤ s.per * (x / s.per) := Int.mul_le_mul_of_nonneg_left (by omega) (by omega)
      rw [Int.mul_add, Int.mul_one] at e
      omega
    · left
      have e : x / s.per = f / s.per := by omega
      rw [e] at q2
      omega
theorem on_self (s : Src) (f : Int) : isOn s f f = false := by simp [isOn, onB]
theorem on_parts (s : Src) {a b c : Int} (h0 : 0 ≤ a) (h1 : a ≤ b) (h2 : b ≤ c) (h3 : c ≤ 1099511627776) : isOn s a c = (isOn s a b || isOn s b c) := by
  unfold isOn
  have i0 : ivB a c = true := by simp [ivB]; omega
  have i1 : ivB a b = true := by simp [ivB]; omega
  have i2 : ivB b c = true := by simp [ivB]; omega
  rw [i0, i1, i2]
  rcases Bool.eq_false_or_eq_true (srcB s) with q | q
  · rw [q, Bool.eq_iff_iff]
    simp only [Bool.true_and, Bool.or_eq_true]
    rw [on_iff q h0 (by omega), on_iff q h0 h1, on_iff q (by omega) h2]
    constructor
    · rintro ⟨x, x1, x2, x3, x4⟩
      by_cases d : x < b
      · exact .inl ⟨x, x1, d, x3, x4⟩
      · exact .inr ⟨x, by omega, x2, x3, x4⟩
    · rintro (⟨x, x1, x2, x3, x4⟩ | ⟨x, x1, x2, x3, x4⟩)
      · exact ⟨x, x1, by omega, x3, x4⟩
      · exact ⟨x, by omega, x2, x3, x4⟩
  · rw [q]; rfl
theorem on_at (s : Src) (hs : srcB s = true) {a : Int} (h0 : 0 ≤ a) (h1 : a < 1099511627776) : isOn s a (a + 1) = (decide (s.frm ≤ a % s.per) && decide (a % s.per < s.to)) := by
  have i0 : ivB a (a + 1) = true := by simp [ivB]; omega
  rw [Bool.eq_iff_iff]
  simp only [isOn, hs, i0, Bool.true_and, Bool.and_eq_true, decide_eq_true_eq]
  rw [on_iff hs h0 (by omega)]
  constructor
  · rintro ⟨x, x1, x2, x3, x4⟩
    obtain rfl : x = a := by omega
    exact ⟨x3, x4⟩
  · rintro ⟨x3, x4⟩
    exact ⟨a, by omega, by omega, x3, x4⟩
theorem on_round (s : Src) (hs : srcB s = true) {a : Int} (h0 : 0 ≤ a) (h1 : a < 1099511627776) :
    isOn s a (min (a + s.per) 1099511627776) = (decide (s.frm < s.to) && (decide (a + s.per ≤ 1099511627776) || isOn s a 1099511627776)) := by
  obtain ⟨p0, p1, p2, p3, p4⟩ := srcB_per hs
  have r0 : 0 ≤ a % s.per := Int.emod_nonneg _ (by omega)
  have r1 : a % s.per < s.per := Int.emod_lt_of_pos _ (by omega)
  by_cases c : a + s.per ≤ 1099511627776
  · rw [Int.min_eq_left c, Bool.eq_iff_iff]
    simp [isOn, hs, ivB, onB, c]
    omega
  · rw [Int.min_eq_right (by omega), Bool.eq_iff_iff]
    simp [isOn, hs, ivB, onB, c]
    omega
end Go.Proofs.Ytlndgoaobalenaa
