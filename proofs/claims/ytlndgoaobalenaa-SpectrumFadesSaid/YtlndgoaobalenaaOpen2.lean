/- The program's types, opened. -/
import Derived.Test.YtlndgoaobalenaaOpen
namespace Go.Proofs.Ytlndgoaobalenaa
open Go.RowKit Go.ChangeShapes Go.WideShapes
set_option linter.unusedVariables false
set_option linter.unusedSimpArgs false
set_option maxRecDepth 100000
theorem Opens.part {α : Type} {P : Program} {K : World → α → List Value → Prop} {t : TypeId} (hO : Opens P K t) {H : Type} {enc : TypeId × Value → H} {w : World} {cs cs' : List Value}
    (h : ∃ (fuel : Nat) (x : DataW H × List MemPlace), DataW.trod enc P w 0 (fun _ => true) true fuel t cs = some x ∧ okW (DataW.weights P t x.1)) (e : cs = cs') : ∃ a, K w a cs' := by
  obtain ⟨fuel, x, h, hw⟩ := h
  exact e ▸ hO H enc w fuel cs x h hw
theorem css : Try.prog.cellsOf 22 = 1 := by kernel_rfl
theorem cfs : Try.prog.cellsOf 23 = 1 := by kernel_rfl
theorem ci : Try.prog.cellsOf 3 = 1 := by kernel_rfl
theorem cl : Try.prog.cellsOf 28 = 1 := by kernel_rfl
theorem cp : Try.prog.cellsOf 27 = 2 := by kernel_rfl
theorem oi : Opens Try.prog KI 3 := opens_int Try.underlying3
theorem ol : Opens Try.prog (KSl 1 KI) 28 := opens_slice oi Try.underlying28 ci (by decide) (of_decide_eq_true (by kernel_rfl))
theorem op : Opens Try.prog KPt 27 := by
  intro H enc w fuel cs x h hw
  obtain ⟨hl, hf⟩ := trod_fields Try.underlying27 h hw
  rw [show Try.prog.cellsOf 27 = 2 by kernel_rfl] at hl
  obtain _ | ⟨c0, cs⟩ := cs
  · simp at hl
  obtain _ | ⟨c1, cs⟩ := cs
  · simp at hl
  obtain _ | ⟨cz, cs⟩ := cs
  rotate_left
  · simp at hl
  obtain ⟨a0, e0⟩ := (oi).part (hf 0 _ rfl) (cs' := [c0]) (by simp [ci, cp, cl, css, cfs])
  obtain ⟨a1, e1⟩ := (oi).part (hf 1 _ rfl) (cs' := [c1]) (by simp [ci, cp, cl, css, cfs])
  exact ⟨⟨a0, a1⟩, by simp_all [KPt, KI]⟩
theorem osc : Opens Try.prog KSrc 30 := by
  intro H enc w fuel cs x h hw
  obtain ⟨hl, hf⟩ := trod_fields Try.underlying30 h hw
  rw [show Try.prog.cellsOf 30 = 7 by kernel_rfl] at hl
  obtain _ | ⟨c0, cs⟩ := cs
  · simp at hl
  obtain _ | ⟨c1, cs⟩ := cs
  · simp at hl
  obtain _ | ⟨c2, cs⟩ := cs
  · simp at hl
  obtain _ | ⟨c3, cs⟩ := cs
  · simp at hl
  obtain _ | ⟨c4, cs⟩ := cs
  · simp at hl
  obtain _ | ⟨c5, cs⟩ := cs
  · simp at hl
  obtain _ | ⟨c6, cs⟩ := cs
  · simp at hl
  obtain _ | ⟨cz, cs⟩ := cs
  rotate_left
  · simp at hl
  obtain ⟨a0, e0⟩ := (op).part (hf 0 _ rfl) (cs' := [c0, c1]) (by simp [ci, cp, cl, css, cfs])
  obtain ⟨a1, e1⟩ := (oi).part (hf 1 _ rfl) (cs' := [c2]) (by simp [ci, cp, cl, css, cfs])
  obtain ⟨a2, e2⟩ := (ol).part (hf 2 _ rfl) (cs' := [c3]) (by simp [ci, cp, cl, css, cfs])
  obtain ⟨a3, e3⟩ := (oi).part (hf 3 _ rfl) (cs' := [c4]) (by simp [ci, cp, cl, css, cfs])
  obtain ⟨a4, e4⟩ := (oi).part (hf 4 _ rfl) (cs' := [c5]) (by simp [ci, cp, cl, css, cfs])
  obtain ⟨a5, e5⟩ := (oi).part (hf 5 _ rfl) (cs' := [c6]) (by simp [ci, cp, cl, css, cfs])
  obtain ⟨v, e2, hv⟩ := e2
  exact ⟨⟨a0, a1, a2, a3, a4, a5⟩, v, by simp_all [KPt, KI], hv⟩
theorem of_ : Opens Try.prog KFd 47 := by
  intro H enc w fuel cs x h hw
  obtain ⟨hl, hf⟩ := trod_fields Try.underlying47 h hw
  rw [show Try.prog.cellsOf 47 = 6 by kernel_rfl] at hl
  obtain _ | ⟨c0, cs⟩ := cs
  · simp at hl
  obtain _ | ⟨c1, cs⟩ := cs
  · simp at hl
  obtain _ | ⟨c2, cs⟩ := cs
  · simp at hl
  obtain _ | ⟨c3, cs⟩ := cs
  · simp at hl
  obtain _ | ⟨c4, cs⟩ := cs
  · simp at hl
  obtain _ | ⟨c5, cs⟩ := cs
  · simp at hl
  obtain _ | ⟨cz, cs⟩ := cs
  rotate_left
  · simp at hl
  obtain ⟨a0, e0⟩ := (oi).part (hf 0 _ rfl) (cs' := [c0]) (by simp [ci, cp, cl, css, cfs])
  obtain ⟨a1, e1⟩ := (oi).part (hf 1 _ rfl) (cs' := [c1]) (by simp [ci, cp, cl, css, cfs])
  obtain ⟨a2, e2⟩ := (oi).part (hf 2 _ rfl) (cs' := [c2]) (by simp [ci, cp, cl, css, cfs])
  obtain ⟨a3, e3⟩ := (oi).part (hf 3 _ rfl) (cs' := [c3]) (by simp [ci, cp, cl, css, cfs])
  obtain ⟨a4, e4⟩ := (oi).part (hf 4 _ rfl) (cs' := [c4]) (by simp [ci, cp, cl, css, cfs])
  obtain ⟨a5, e5⟩ := (oi).part (hf 5 _ rfl) (cs' := [c5]) (by simp [ci, cp, cl, css, cfs])
  exact ⟨⟨a0, a1, a2, a3, a4, a5⟩, by simp_all [KFd, KI]⟩
theorem oss : Opens Try.prog (KSl 7 KSrc) 22 := opens_slice osc Try.underlying22 (by kernel_rfl) (by decide) (of_decide_eq_true (by kernel_rfl))
theorem ofs : Opens Try.prog (KSl 6 KFd) 23 := opens_slice of_ Try.underlying23 (by kernel_rfl) (by decide) (of_decide_eq_true (by kernel_rfl))
def KSpm (w : World) (x : Spm) (l : List Value) : Prop := SpmV w (.agg l.toArray) x
theorem ox : Opens Try.prog KSpm 25 := by
  intro H enc w fuel cs x h hw
  obtain ⟨hl, hf⟩ := trod_fields Try.underlying25 h hw
  rw [show Try.prog.cellsOf 25 = 2 by kernel_rfl] at hl
  obtain _ | ⟨c0, cs⟩ := cs
  · simp at hl
  obtain _ | ⟨c1, cs⟩ := cs
  · simp at hl
  obtain _ | ⟨cz, cs⟩ := cs
  rotate_left
  · simp at hl
  obtain ⟨a0, e0⟩ := (oss).part (hf 0 _ rfl) (cs' := [c0]) (by simp [ci, cp, cl, css, cfs])
  obtain ⟨a1, e1⟩ := (ofs).part (hf 1 _ rfl) (cs' := [c1]) (by simp [ci, cp, cl, css, cfs])
  obtain ⟨v0, e0, h0⟩ := e0
  obtain ⟨v1, e1, h1⟩ := e1
  exact ⟨⟨a0, a1⟩, v0, v1, by simp_all, h0, h1⟩
/-- A struct argument, opened. -/
theorem open_struct {α : Type} {K : World → α → List Value → Prop} {P : Program} {t : TypeId} {fs : Array Field} (hO : Opens P K t) (hs : P.underlying t = some (.struct fs)) {H : Type} {enc : TypeId × Value → H} {W : World} {r : Reach} {b0 : Nat} {v : Value} {d : DataW H} {p : List MemPlace}
    (hv : Value.okWide P W r b0 t v) (h : DataW.Trod enc P W 0 (fun _ => true) true t v d p) (hw : okW (DataW.weights P t d)) : ∃ a cs, v = .agg cs ∧ K W a cs.toList := by
  obtain ⟨cs, rfl, hsz⟩ := okWide_struct hs hv
  obtain ⟨fuel, hf⟩ := h
  obtain ⟨a, ha⟩ := hO H enc W fuel _ _ hf hw
  exact ⟨a, cs, rfl, ha⟩
end Go.Proofs.Ytlndgoaobalenaa
