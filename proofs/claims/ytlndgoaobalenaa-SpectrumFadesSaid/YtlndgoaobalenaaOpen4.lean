/- The arguments of the laws of 06, opened: sites, and a query with more. -/
import Derived.Test.YtlndgoaobalenaaOpen3
namespace Go.Proofs.Ytlndgoaobalenaa
open Go.RowKit Go.ChangeShapes Go.WideShapes
set_option linter.unusedVariables false
set_option linter.unusedSimpArgs false
set_option maxRecDepth 100000
theorem cps : Try.prog.cellsOf 42 = 1 := by kernel_rfl
theorem cws : Try.prog.cellsOf 43 = 1 := by kernel_rfl
theorem ow : Opens Try.prog KWl 92 := by
  intro H enc w fuel cs x h hw
  obtain ⟨hl, hf⟩ := trod_fields Try.underlying92 h hw
  rw [show Try.prog.cellsOf 92 = 5 by kernel_rfl] at hl
  obtain _ | ⟨c0, cs⟩ := cs
  · simp at hl
  obtain _ | ⟨c1, cs⟩ := cs
  · simp at hl
  obtain _ | ⟨c2, cs⟩ := cs
  · simp at hl
  obtain _ | ⟨c3, cs⟩ := cs
  · simp at hl
  obtain _ | ⟨c4, cs⟩ := cs
  · simp at hl
  obtain _ | ⟨cz, cs⟩ := cs
  rotate_left
  · simp at hl
  obtain ⟨a0, e0⟩ := (op).part (hf 0 _ rfl) (cs' := [c0, c1]) (by simp [ci, cp, cl, css, cfs])
  obtain ⟨a1, e1⟩ := (op).part (hf 1 _ rfl) (cs' := [c2, c3]) (by simp [ci, cp, cl, css, cfs])
  obtain ⟨a2, e2⟩ := (oi).part (hf 2 _ rfl) (cs' := [c4]) (by simp [ci, cp, cl, css, cfs])
  exact ⟨⟨a0, a1, a2⟩, by simp_all [KPt, KI, KWl]⟩
theorem ops : Opens Try.prog (KSl 2 KPt) 42 := opens_slice op Try.underlying42 (by kernel_rfl) (by decide) (of_decide_eq_true (by kernel_rfl))
theorem ows : Opens Try.prog (KSl 5 KWl) 43 := opens_slice ow Try.underlying43 (by kernel_rfl) (by decide) (of_decide_eq_true (by kernel_rfl))
def KSite (w : World) (x : Site) (l : List Value) : Prop := SiteV w (.agg l.toArray) x
theorem osite : Opens Try.prog KSite 45 := by
  intro H enc w fuel cs x h hw
  obtain ⟨hl, hf⟩ := trod_fields Try.underlying45 h hw
  rw [show Try.prog.cellsOf 45 = 6 by kernel_rfl] at hl
  obtain _ | ⟨c0, cs⟩ := cs
  · simp at hl
  obtain _ | ⟨c1, cs⟩ := cs
  · simp at hl
  obtain _ | ⟨c2, cs⟩ := cs
  · simp at hl
  obtain _ | ⟨c3, cs⟩ := cs
  · simp at hl
  obtain _ | ⟨c4, cs⟩ := cs
  · simp at hl
  obtain _ | ⟨c5, cs⟩ := cs
  · simp at hl
  obtain _ | ⟨cz, cs⟩ := cs
  rotate_left
  · simp at hl
  obtain ⟨a0, e0⟩ := (ops).part (hf 0 _ rfl) (cs' := [c0]) (by simp [cps])
  obtain ⟨a1, e1⟩ := (ol).part (hf 1 _ rfl) (cs' := [c1]) (by simp [cl])
  obtain ⟨a2, e2⟩ := (ows).part (hf 2 _ rfl) (cs' := [c2]) (by simp [cws])
  obtain ⟨a3, e3⟩ := (oi).part (hf 3 _ rfl) (cs' := [c3]) (by simp [ci])
  obtain ⟨a4, e4⟩ := (oi).part (hf 4 _ rfl) (cs' := [c4]) (by simp [ci])
  obtain ⟨a5, e5⟩ := (oi).part (hf 5 _ rfl) (cs' := [c5]) (by simp [ci])
  obtain ⟨v0, e0, h0⟩ := e0
  obtain ⟨v1, e1, h1⟩ := e1
  obtain ⟨v2, e2, h2⟩ := e2
  exact ⟨⟨a0, a1, a2, a3, a4, a5⟩, v0, v1, v2, by simp_all [KI], h0, h1, h2⟩
end Go.Proofs.Ytlndgoaobalenaa
