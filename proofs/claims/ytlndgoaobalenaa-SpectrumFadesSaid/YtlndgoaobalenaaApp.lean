/- Appending a number, the box's number given apart. -/
import Derived.Test.YtlndgoaobalenaaRng
namespace Go.Proofs.Ytlndgoaobalenaa
open Go.RowKit
set_option linter.unusedVariables false
/-- append(v, y), a number: behind 'at_builtin'; the world is 'W.alloc' of the variadic's box. -/
theorem append_num2 {P : Program} {ops : Array Oper} {rest : List Oper} {o : Oper} {a : Act} {Q : Exit → Act → World → Prop} {w0 W : World} (base : Nat) {B : Nat} (hB : B = W.heap.size) (hgd : o.guard = none) (s x : Operand) (t e : TypeId)
    (ho : o.op = .call { callee := .builtin .append, args := #[s, x], argTypes := #[t, t] })
    (ht : P.underlying t = some (.slice e)) (hinfo : (P.info? e).map (fun i => (i.zero, i.size, i.bytes)) = some (some (.int .i64 0), 1, 8))
    (v : Value) (xs : List Int) (y : Int) (hs : a.eval s = v) (hx : a.eval x = .slice (some ⟨B, 0, none⟩) 1 1)
    (HO : W.ownsRow base e 1 v xs.length (xs.map (Value.int .i64))) (HB : Below base w0 W) (hbase : base ≤ W.heap.size) (hl : (xs.length + 1) * 8 ≤ 140737488355328)
    (h : ∀ v1 w1, w1.ownsRow base e 1 v1 (xs ++ [y]).length ((xs ++ [y]).map (Value.int .i64)) → Below base w0 w1 → W.grownBy w1 v.ownBlock → (v1.ownBlock = v.ownBlock ∨ ∃ b, v1.ownBlock = some b ∧ W.heap.size ≤ b) → wpList P ops Q rest (a.put o.dst v1) w1) :
    wpList P ops Q (o :: rest) a (W.alloc (.cells #[.int .i64 y] e)) := by
  subst hB
  exact append_num base hgd s x t e ho ht hinfo v xs y hs hx HO HB hbase hl h
end Go.Proofs.Ytlndgoaobalenaa
