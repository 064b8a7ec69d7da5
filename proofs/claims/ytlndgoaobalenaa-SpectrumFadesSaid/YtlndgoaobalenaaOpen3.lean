/- The arguments of the laws of 06, opened. -/
import Derived.Test.YtlndgoaobalenaaOpen2
namespace Go.Proofs.Ytlndgoaobalenaa
open Go.RowKit Go.ChangeShapes Go.WideShapes
set_option linter.unusedVariables false
set_option linter.unusedSimpArgs false
set_option maxRecDepth 100000
theorem open_array {α : Type} {K : World → α → List Value → Prop} {P : Program} {t e : TypeId} {m : Nat} (hO : Opens P K t) (hs : P.underlying t = some (.array m e)) {H : Type} {enc : TypeId × Value → H} {W : World} {r : Reach} {b0 : Nat} {v : Value} {d : DataW H} {p : List MemPlace}
    (hv : Value.okWide P W r b0 t v) (h : DataW.Trod enc P W 0 (fun _ => true) true t v d p) (hw : okW (DataW.weights P t d)) : ∃ a cs, v = .agg cs ∧ K W a cs.toList := by
  have hv' := hv
  simp only [Value.okWide, hs] at hv'
  obtain ⟨cs, rfl, _⟩ := hv'
  obtain ⟨fuel, hf⟩ := h
  obtain ⟨a, ha⟩ := hO H enc W fuel _ _ hf hw
  exact ⟨a, cs, rfl, ha⟩
def K3 (_ : World) (x : Int × Int × Int) (l : List Value) : Prop := l = [.int .i64 x.1, .int .i64 x.2.1, .int .i64 x.2.2]
theorem o3 : Opens Try.prog K3 40 := by
  intro H enc w fuel cs x h hw
  obtain ⟨hl, hf⟩ := trod_items Try.underlying40 h hw
  rw [show Try.prog.cellsOf 40 = 3 by kernel_rfl] at hl
  obtain _ | ⟨c0, cs⟩ := cs
  · simp at hl
  obtain _ | ⟨c1, cs⟩ := cs
  · simp at hl
  obtain _ | ⟨c2, cs⟩ := cs
  · simp at hl
  obtain _ | ⟨cz, cs⟩ := cs
  rotate_left
  · simp at hl
  obtain ⟨a0, e0⟩ := (oi).part (hf 0 (by decide)) (cs' := [c0]) (by simp [ci])
  obtain ⟨a1, e1⟩ := (oi).part (hf 1 (by decide)) (cs' := [c1]) (by simp [ci])
  obtain ⟨a2, e2⟩ := (oi).part (hf 2 (by decide)) (cs' := [c2]) (by simp [ci])
  exact ⟨⟨a0, a1, a2⟩, by simp_all [K3, KI]⟩
structure Qr where
  a : Int
  b : Int
  c : Int
  f : Int
  t : Int
def KQr (_ : World) (x : Qr) (l : List Value) : Prop := l = [.int .i64 x.a, .int .i64 x.b, .int .i64 x.c, .int .i64 x.f, .int .i64 x.t]
theorem oq : Opens Try.prog KQr 32 := by
  intro H enc w fuel cs x h hw
  obtain ⟨hl, hf⟩ := trod_fields Try.underlying32 h hw
  rw [show Try.prog.cellsOf 32 = 5 by kernel_rfl] at hl
  obtain _ | ⟨c0, cs⟩ := cs
  · simp at hl
  obtain _ | ⟨c1, cs⟩ := cs
  · simp at hl
  obtain _ | ⟨c2, cs⟩ := cs
  · simp at hl
  obtain _ | ⟨c3, cs⟩ := cs
  · simp at hl
  obtain _ | ⟨c4, cs⟩ := cs
  · simp at hl
  obtain _ | ⟨cz, cs⟩ := cs
  rotate_left
  · simp at hl
  obtain ⟨a0, e0⟩ := (oi).part (hf 0 _ rfl) (cs' := [c0]) (by simp [ci, cp, cl, css, cfs])
  obtain ⟨a1, e1⟩ := (oi).part (hf 1 _ rfl) (cs' := [c1]) (by simp [ci, cp, cl, css, cfs])
  obtain ⟨a2, e2⟩ := (oi).part (hf 2 _ rfl) (cs' := [c2]) (by simp [ci, cp, cl, css, cfs])
  obtain ⟨a3, e3⟩ := (oi).part (hf 3 _ rfl) (cs' := [c3]) (by simp [ci, cp, cl, css, cfs])
  obtain ⟨a4, e4⟩ := (oi).part (hf 4 _ rfl) (cs' := [c4]) (by simp [ci, cp, cl, css, cfs])
  exact ⟨⟨a0, a1, a2, a3, a4⟩, by simp_all [KQr, KI]⟩
end Go.Proofs.Ytlndgoaobalenaa
