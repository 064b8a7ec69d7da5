/- A region that draws its order, within a round of a range over a function: walked once, in the order of the text. -/
import Derived.Test.YtlndgoaobalenaaRng
import Derived.Sort.QuietTacIn
import Derived.OrdersIn
namespace Go.Proofs.Ytlndgoaobalenaa
open Go.RowKit
set_option linter.unusedVariables false
theorem upon_round {n l : Nat} {P : Program} {o : Oper} {a : Act} {K : Act → World → Prop} {Q : Exit → Act → World → Prop} {r : Result Next} (h : o.uponIn Fence.wide n P a K Q r) : o.uponIn (Fence.wide.inRound l) n P a K Q r := by
  unfold Oper.uponIn at h ⊢
  split at h <;> exact h
theorem oper_round {n l : Nat} {P : Program} {o : Oper} {a : Act} {w : World} {K : Act → World → Prop} {Q : Exit → Act → World → Prop} (hd : ∀ c, o.op ≠ .defer c) (h : o.wpIn Fence.wide n P a w K Q) : o.wpIn (Fence.wide.inRound l) n P a w K Q := by
  refine ⟨fun f hf => h.1 f hf, ?_⟩
  have h2 := h.2
  have e1 : o.semAt (Fence.wide).round a.eval = execOp a.eval o := Oper.semAt_none _ _
  have e2 : o.semAt (Fence.wide.inRound l).round a.eval = execOp a.eval o := Oper.semAt_some l _ o hd
  rw [e1] at h2
  rw [e2]
  exact upon_round h2
theorem op_round {n l : Nat} {P : Program} {ops : Array Oper} {a : Act} {w : World} {K : Act → World → Prop} {Q : Exit → Act → World → Prop} {i : Nat} (hd : ∀ (j : Nat) (o : Oper), ops[j]? = some o → ∀ c, o.op ≠ .defer c)
    (h : wpOpIn Fence.wide n P ops Q i K a w) : wpOpIn (Fence.wide.inRound l) n P ops Q i K a w := by
  unfold wpOpIn at h ⊢
  split at h
  · exact h
  · rename_i o ho
    split at h
    · rename_i hw
      simp only [hw, if_true]
      exact oper_round (hd i o ho) h
    · rename_i hw
      simp only [hw]
      exact ⟨fun f hf => h.1 f hf, h.2⟩
theorem any_round {n l : Nat} {P : Program} {md : Region.Mode} {ops : Array Oper} {Q : Exit → Act → World → Prop} (hd : ∀ (j : Nat) (o : Oper), ops[j]? = some o → ∀ c, o.op ≠ .defer c) :
    ∀ (fuel : Nat) (listed : Array Bool) (a : Act) (w : World), wpAnyIn Fence.wide n P md ops Q fuel listed a w → wpAnyIn (Fence.wide.inRound l) n P md ops Q fuel listed a w
  | 0, _, _, _, h => h
  | fuel + 1, _, _, _, h => ⟨h.1, fun i hi => op_round hd (wpOpIn_mono (fun a w hh => any_round hd fuel _ a w hh) (h.2 i hi))⟩
def noDefer (o : Oper) : Bool := match o.op with | .defer _ => false | _ => true
theorem noDefer_all {os : List Oper} (h : os.all noDefer = true) : ∀ (j : Nat) (o : Oper), os.toArray[j]? = some o → ∀ c, o.op ≠ .defer c := by
  intro j o ho c e
  have h1 : o ∈ os := List.mem_of_getElem? (by simpa using ho)
  have h2 := List.all_eq_true.1 h o h1
  simp [noDefer, e] at h2
theorem quiet_wide {n : Nat} {P : Program} {ops : Array Oper} {C : World → Prop} {Q : Act → Prop} : ∀ (l : List Oper) (a : Act), wpQuiet P ops C Q l a → wpQuietIn Fence.wide n P ops C Q l a
  | [], _, h => h
  | o :: rest, a, h => by
    refine ⟨fun w _ f _ => trivial, ?_⟩
    unfold wpQuiet at h
    split at h
    · rename_i hw
      rw [if_pos hw]
      obtain ⟨v, h1, h2⟩ := h
      refine ⟨v, fun w hc => ?_, quiet_wide rest _ h2⟩
      have h3 := h1 w hc
      unfold Oper.quietAt at h3
      unfold Oper.quietAtIn
      generalize (execOp a.eval o).run P w = r at *
      cases r with
      | ok x w' =>
        cases x <;> simp only [Oper.quietUpon] at h3 <;> simp only [Oper.quietUponIn]
        case value u => exact h3
        case skip => exact h3
        case enter f args => exact ⟨h3.1, fun h => (by cases h), callsIn_wide.2 h3.2⟩
      | halt x w' => simp only [Oper.quietUpon] at h3
    · rename_i hw
      rw [if_neg hw]
      exact quiet_wide rest _ h
/-- A region that draws its order, within a round of a range over a function: its operations read, its callees leave old memory as it was. -/
theorem wpIn_region_later_round {n l id : Nat} {P : Program} {Q : Exit → Act → World → Prop} {a : Act} {w : World} {os : List Oper} (hd : os.all noDefer = true) (hm : P.follows .mixedOrders = true) (hB : Region.lexB .any os.toArray = true)
    (h : wpQuiet P os.toArray (fun w' => ∃ x : Later w, w' = x.W) (fun a' => ∀ w', (∃ x : Later w, w' = x.W) → Q .normal a' w') os a) : (Code.region id os.toArray true).wpIn (Fence.wide.inRound l) n P Q a w := by
  simp only [Region.lexB, Bool.and_eq_true] at hB
  refine wpIn_region_any hm (any_round (noDefer_all hd) _ _ _ _ (wpAnyIn_of_quiet (C := fun w' => ∃ x : Later w, w' = x.W) (Q := fun a' => ∀ w', (∃ x : Later w, w' = x.W) → Q .normal a' w') rfl (fun _ w' hw' h => h w' hw') _ _ _ _ ⟨⟨w.drew, b_drew (Below.refl _ _)⟩, rfl⟩ ?_))
  have := wpAnyQIn_lex (F := Fence.wide) (n := n) (C := fun w' => ∃ x : Later w, w' = x.W) (md := .any) hB.1 os 0 (Array.replicate os.toArray.size false) a (by simp) (by simpa using hB.2) (quiet_wide (n := n) _ _ h)
  simpa using this
end Go.Proofs.Ytlndgoaobalenaa
