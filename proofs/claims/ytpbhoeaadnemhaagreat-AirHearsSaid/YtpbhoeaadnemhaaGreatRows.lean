/-
  No cell of these rows narrows 'for every input' (looked for: loops, veiled, ifaces, maps, wideKeys, modest, calm, conditions, laid).
  DERIVED. THE GIVEN ROWS OF THIS SEAT. 2 by the template 'for every input the law returns true; each argument reads behind the call as it read before'; 0 by the template 'total and deterministic' (their statements: YtpbhoeaadnemhaaGreatTotals.lean).
  GIVEN WITH THE SEED: the statements are not yours to turn. If you find one false, say at which input.
  Laid BY PROGRAM, IN A SANDBOX (cutbox-rows.mjs): the forced cells as the released guide's own fill.sh prints them over the translation aca5c1c246818dd8… (all of the seat's roots in one cut). By AI agents, Wed Nov 11 2026. No macro, syntax, notation, axiom, sorry.
-/
import Derived.Test.YtpbhoeaadnemhaaGreatChecked
import GoSem.Claim
import GoSem.ClaimJoined
import GoSem.ClaimMapViews
import Derived.JoinedTies
import Derived.KernelRfl
namespace Go.Proofs.YtpbhoeaadnemhaaGreat
/- THE CELL 'sum', in the pinned program and in every row, IS THE sha256 OF THE DUMP (.gsa) THAT YtpbhoeaadnemhaaGreatProg.lean LOADS. Nothing in Lean hashes anything: it is a label: what it is worth is what the hold of that sum in a sandbox is worth. -/
noncomputable def Tryz.pinned : Pinned := { name := "ytpbhoeaadnemhaagreat", sum := "aca5c1c246818dd8f1356f2b6894283a640dc91a35a863838152d3f9cefedcd9", checked := Tryz.checked }
namespace Rows
def none {H : Type} : Left H := { results := [], args := [] }

/-- 'hopmeshlaw07.AirHears': WHATEVER THE INPUT: true; the input reads as it did. -/
def airHearsSpec : ChangeSpec := { name := "airHears", fn := fun _ => fun
  | [d1, d2, d3] => { results := [.lit (.bool true)], args := [d1, d2, d3] }
  | _ => none }
def airHearsRow : OpenClaim := { program := "ytpbhoeaadnemhaagreat", sum := "aca5c1c246818dd8f1356f2b6894283a640dc91a35a863838152d3f9cefedcd9", func := "hopmesh/hopmeshlaw07.AirHears", spec := "airHears", unfollowed := true, recurses := true, apart := false }
def AirHearsSaid : Prop := airHearsRow.holds Tryz.pinned (OpenSpec.ofChange airHearsSpec)

/-- ITS FALSE NEIGHBOUR: 'it returns false'. Refute it at one input. -/
def airHearsWrong : ChangeSpec := { name := "airHears", fn := fun _ => fun
  | [d1, d2, d3] => { results := [.lit (.bool false)], args := [d1, d2, d3] }
  | _ => none }
def AirHearsWrongFalsely : Prop := airHearsRow.holds Tryz.pinned (OpenSpec.ofChange airHearsWrong)

/-- 'hopmeshlaw07.AirReceives': WHATEVER THE INPUT: true; the input reads as it did. -/
def airReceivesSpec : ChangeSpec := { name := "airReceives", fn := fun _ => fun
  | [d1, d2, d3] => { results := [.lit (.bool true)], args := [d1, d2, d3] }
  | _ => none }
def airReceivesRow : OpenClaim := { program := "ytpbhoeaadnemhaagreat", sum := "aca5c1c246818dd8f1356f2b6894283a640dc91a35a863838152d3f9cefedcd9", func := "hopmesh/hopmeshlaw07.AirReceives", spec := "airReceives", unfollowed := true, recurses := true, apart := false }
def AirReceivesSaid : Prop := airReceivesRow.holds Tryz.pinned (OpenSpec.ofChange airReceivesSpec)

/-- ITS FALSE NEIGHBOUR: 'it returns false'. Refute it at one input. -/
def airReceivesWrong : ChangeSpec := { name := "airReceives", fn := fun _ => fun
  | [d1, d2, d3] => { results := [.lit (.bool false)], args := [d1, d2, d3] }
  | _ => none }
def AirReceivesWrongFalsely : Prop := airReceivesRow.holds Tryz.pinned (OpenSpec.ofChange airReceivesWrong)

/- THE SECOND FORM. 'bulk': how many values and letters a reading holds, each counted each time it is reached (what is shared counts as often as it is met; a slice's spare places count too). A statement '..UptoSaid' is the law's where the arguments, and the package variables that the reading takes, are together of bulk at most 1048576: NARROWER than '..Said'. Prove '..Said' where nothing that the law and all that it calls make is longer than what came in: it says more and counts as full. Else prove '..UptoSaid'. A law counts once. -/
mutual
def uptoBulk {H : Type} : DataW H → Nat
  | .lit (.string bytes) => bytes.length + 1
  | .lit _ => 1
  | .nil => 1
  | .ptr d => uptoBulk d + 1
  | .slice elems spare => uptoBulkAll elems + uptoBulkAll spare + 1
  | .agg parts => uptoBulkAll parts + 1
  | .iface _ d => uptoBulk d + 1
  | .map entries => uptoBulkEntries entries + 1
  | .held _ => 1
def uptoBulkAll {H : Type} : List (DataW H) → Nat
  | [] => 0
  | d :: r => uptoBulk d + uptoBulkAll r
def uptoBulkEntries {H : Type} : List (Lit × DataW H) → Nat
  | [] => 0
  | x :: r => uptoBulkEntry x + uptoBulkEntries r
def uptoBulkEntry {H : Type} : Lit × DataW H → Nat
  | (.string bytes, d) => bytes.length + uptoBulk d + 1
  | (_, d) => uptoBulk d + 1
 end
def uptoSmall : (H : Type) → List (DataW H) → Bool := fun _ ds => decide (uptoBulkAll ds ≤ 1048576)
def OpenSpec.upto (s : _root_.Go.ChangeSpec) : _root_.Go.OpenSpec := { _root_.Go.OpenSpec.ofChange s with cond := some uptoSmall }

/-- 'hopmeshlaw07.AirHears', WHERE WHAT IT READS IS OF BULK AT MOST 1048576: true; the input reads as it did. -/
def airHearsUptoRow : OpenClaim := { program := "ytpbhoeaadnemhaagreat", sum := "aca5c1c246818dd8f1356f2b6894283a640dc91a35a863838152d3f9cefedcd9", func := "hopmesh/hopmeshlaw07.AirHears", spec := "airHears", unfollowed := true, recurses := true, apart := false, narrowed := true }
def AirHearsUptoSaid : Prop := airHearsUptoRow.holds Tryz.pinned (OpenSpec.upto airHearsSpec)

/-- 'hopmeshlaw07.AirReceives', WHERE WHAT IT READS IS OF BULK AT MOST 1048576: true; the input reads as it did. -/
def airReceivesUptoRow : OpenClaim := { program := "ytpbhoeaadnemhaagreat", sum := "aca5c1c246818dd8f1356f2b6894283a640dc91a35a863838152d3f9cefedcd9", func := "hopmesh/hopmeshlaw07.AirReceives", spec := "airReceives", unfollowed := true, recurses := true, apart := false, narrowed := true }
def AirReceivesUptoSaid : Prop := airReceivesUptoRow.holds Tryz.pinned (OpenSpec.upto airReceivesSpec)

end Rows
end Go.Proofs.YtpbhoeaadnemhaaGreat
