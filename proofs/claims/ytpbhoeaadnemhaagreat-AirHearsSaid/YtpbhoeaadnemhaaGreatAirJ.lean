/- The law function: checks. -/
import Derived.Test.YtpbhoeaadnemhaaGreatMI
import Derived.Test.YtpbhoeaadnemhaaGreatMJ
import Derived.Test.YtpbhoeaadnemhaaGreatMF
namespace Go.Proofs.YtpbhoeaadnemhaaGreat
open Go.RowKit Go.Shelf
set_option linter.unusedVariables false
set_option linter.unusedSimpArgs false
set_option maxHeartbeats 4000000
set_option maxRecDepth 100000
theorem few_len {s : Site} {x : Spm} {l : List Em} (h : fewS s x l = true) : l.length ≤ 50 := by
  simp only [fewS, Bool.and_eq_true, decide_eq_true_eq] at h
  exact h.2
/-- A copy of a list of emissions. -/
theorem cloneS (xs : List Em) (v : Value) (w : World) (h : SlV 4 KEm w v xs) (hlen : xs.length ≤ 60) : Calls Tryz.prog 8 #[v] w fun e w' => ∃ u, e = .returned u ∧ SlV 4 KEm w' u xs ∧ Below w.heap.size w w' := by
  refine (cloneEm xs v w w (Below.refl _ _) h (by omega)).mono ?_
  rintro e w' ⟨u, cs, rfl, hown, hf, hb⟩
  exact ⟨u, rfl, own_sl2 KEm.pl hown (hf.mono KEm.st hb) (by unfold big; omega), hb⟩
end Go.Proofs.YtpbhoeaadnemhaaGreat
