/- The arguments of the laws of 06, opened: pairs, and queries with more. -/
import Derived.Test.YtlndgoaobalenaaOpen4
namespace Go.Proofs.Ytlndgoaobalenaa
open Go.RowKit Go.ChangeShapes Go.WideShapes
set_option linter.unusedVariables false
set_option linter.unusedSimpArgs false
set_option maxRecDepth 100000
def K2 (_ : World) (x : Int × Int) (l : List Value) : Prop := l = [.int .i64 x.1, .int .i64 x.2]
theorem o2 : Opens Try.prog K2 61 := by
  intro H enc w fuel cs x h hw
  obtain ⟨hl, hf⟩ := trod_items Try.underlying61 h hw
  rw [show Try.prog.cellsOf 61 = 2 by kernel_rfl] at hl
  obtain _ | ⟨c0, cs⟩ := cs
  · simp at hl
  obtain _ | ⟨c1, cs⟩ := cs
  · simp at hl
  obtain _ | ⟨cz, cs⟩ := cs
  rotate_left
  · simp at hl
  obtain ⟨a0, e0⟩ := (oi).part (hf 0 (by decide)) (cs' := [c0]) (by simp [ci])
  obtain ⟨a1, e1⟩ := (oi).part (hf 1 (by decide)) (cs' := [c1]) (by simp [ci])
  exact ⟨⟨a0, a1⟩, by simp_all [K2, KI]⟩
structure Mr where
  q : Qr
  longer : Int
  s : Src
  fd : Fd
def moreV (m : Mr) (v : Value) : List Value := [.int .i64 m.q.a, .int .i64 m.q.b, .int .i64 m.q.c, .int .i64 m.q.f, .int .i64 m.q.t, .int .i64 m.longer, .int .i64 m.s.pt.x, .int .i64 m.s.pt.y, .int .i64 m.s.pow, v, .int .i64 m.s.per, .int .i64 m.s.frm, .int .i64 m.s.to,
  .int .i64 m.fd.frm, .int .i64 m.fd.to, .int .i64 m.fd.ch, .int .i64 m.fd.first, .int .i64 m.fd.til, .int .i64 m.fd.fac]
def KMr (w : World) (m : Mr) (l : List Value) : Prop := ∃ v, l = moreV m v ∧ SlV 1 KI w v m.s.ch
theorem om : Opens Try.prog KMr 49 := by
  intro H enc w fuel cs x h hw
  obtain ⟨hl, hf⟩ := trod_fields Try.underlying49 h hw
  have cq : Try.prog.cellsOf 32 = 5 := by kernel_rfl
  have cs7 : Try.prog.cellsOf 30 = 7 := by kernel_rfl
  have cf6 : Try.prog.cellsOf 47 = 6 := by kernel_rfl
  rw [show Try.prog.cellsOf 49 = 19 by kernel_rfl] at hl
  obtain _ | ⟨c0, cs⟩ := cs
  · simp at hl
  obtain _ | ⟨c1, cs⟩ := cs
  · simp at hl
  obtain _ | ⟨c2, cs⟩ := cs
  · simp at hl
  obtain _ | ⟨c3, cs⟩ := cs
  · simp at hl
  obtain _ | ⟨c4, cs⟩ := cs
  · simp at hl
  obtain _ | ⟨c5, cs⟩ := cs
  · simp at hl
  obtain _ | ⟨c6, cs⟩ := cs
  · simp at hl
  obtain _ | ⟨c7, cs⟩ := cs
  · simp at hl
  obtain _ | ⟨c8, cs⟩ := cs
  · simp at hl
  obtain _ | ⟨c9, cs⟩ := cs
  · simp at hl
  obtain _ | ⟨c10, cs⟩ := cs
  · simp at hl
  obtain _ | ⟨c11, cs⟩ := cs
  · simp at hl
  obtain _ | ⟨c12, cs⟩ := cs
  · simp at hl
  obtain _ | ⟨c13, cs⟩ := cs
  · simp at hl
  obtain _ | ⟨c14, cs⟩ := cs
  · simp at hl
  obtain _ | ⟨c15, cs⟩ := cs
  · simp at hl
  obtain _ | ⟨c16, cs⟩ := cs
  · simp at hl
  obtain _ | ⟨c17, cs⟩ := cs
  · simp at hl
  obtain _ | ⟨c18, cs⟩ := cs
  · simp at hl
  obtain _ | ⟨cz, cs⟩ := cs
  rotate_left
  · simp at hl
  obtain ⟨a0, e0⟩ := (oq).part (hf 0 _ rfl) (cs' := [c0, c1, c2, c3, c4]) (by simp [cq])
  obtain ⟨a1, e1⟩ := (oi).part (hf 1 _ rfl) (cs' := [c5]) (by simp [ci])
  obtain ⟨a2, e2⟩ := (osc).part (hf 2 _ rfl) (cs' := [c6, c7, c8, c9, c10, c11, c12]) (by simp [cs7])
  obtain ⟨a3, e3⟩ := (of_).part (hf 3 _ rfl) (cs' := [c13, c14, c15, c16, c17, c18]) (by simp [cf6])
  obtain ⟨v, e2, hv⟩ := e2
  exact ⟨⟨a0, a1, a2, a3⟩, v, by simp_all [KQr, KI, KFd, moreV], hv⟩
end Go.Proofs.Ytlndgoaobalenaa
