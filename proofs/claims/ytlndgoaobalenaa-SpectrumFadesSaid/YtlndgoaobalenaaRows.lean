/-
  No cell of these rows narrows 'for every input' (looked for: loops, veiled, ifaces, maps, wideKeys, modest, calm, conditions, laid).
  DERIVED. THE GIVEN ROWS OF THIS SEAT. 7 by the template 'for every input the law returns true; each argument reads behind the call as it read before'; 0 by the template 'total and deterministic' (their statements: YtlndgoaobalenaaTotals.lean).
  GIVEN WITH THE SEED: the statements are not yours to turn. If you find one false, say at which input.
  Laid BY PROGRAM, IN A SANDBOX (cutbox-rows.mjs): the forced cells as the released guide's own fill.sh prints them over the translation 571e1abf15c59a05… (all of the seat's roots in one cut). By AI agents, Wed Nov 11 2026. No macro, syntax, notation, axiom, sorry.
-/
import Derived.Test.YtlndgoaobalenaaChecked
import GoSem.Claim
import GoSem.ClaimJoined
import GoSem.ClaimMapViews
import Derived.JoinedTies
import Derived.KernelRfl
namespace Go.Proofs.Ytlndgoaobalenaa
/- THE CELL 'sum', in the pinned program and in every row, IS THE sha256 OF THE DUMP (.gsa) THAT YtlndgoaobalenaaProg.lean LOADS. Nothing in Lean hashes anything: it is a label: what it is worth is what the hold of that sum in a sandbox is worth. -/
noncomputable def Try.pinned : Pinned := { name := "ytlndgoaobalenaa", sum := "571e1abf15c59a05edee67fad0c31d058b55a2a99714e7a8f78ee119592b2874", checked := Try.checked }
namespace Rows
def none {H : Type} : Left H := { results := [], args := [] }

/-- 'hopmeshlaw06.SpectrumSources': WHATEVER THE INPUT: true; the input reads as it did. -/
def spectrumSourcesSpec : ChangeSpec := { name := "spectrumSources", fn := fun _ => fun
  | [d1, d2, d3] => { results := [.lit (.bool true)], args := [d1, d2, d3] }
  | _ => none }
def spectrumSourcesRow : OpenClaim := { program := "ytlndgoaobalenaa", sum := "571e1abf15c59a05edee67fad0c31d058b55a2a99714e7a8f78ee119592b2874", func := "hopmesh/hopmeshlaw06.SpectrumSources", spec := "spectrumSources", unfollowed := true, recurses := true, apart := false }
def SpectrumSourcesSaid : Prop := spectrumSourcesRow.holds Try.pinned (OpenSpec.ofChange spectrumSourcesSpec)

/-- ITS FALSE NEIGHBOUR: 'it returns false'. Refute it at one input. -/
def spectrumSourcesWrong : ChangeSpec := { name := "spectrumSources", fn := fun _ => fun
  | [d1, d2, d3] => { results := [.lit (.bool false)], args := [d1, d2, d3] }
  | _ => none }
def SpectrumSourcesWrongFalsely : Prop := spectrumSourcesRow.holds Try.pinned (OpenSpec.ofChange spectrumSourcesWrong)

/-- 'hopmeshlaw06.SpectrumParts': WHATEVER THE INPUT: true; the input reads as it did. -/
def spectrumPartsSpec : ChangeSpec := { name := "spectrumParts", fn := fun _ => fun
  | [d1, d2] => { results := [.lit (.bool true)], args := [d1, d2] }
  | _ => none }
def spectrumPartsRow : OpenClaim := { program := "ytlndgoaobalenaa", sum := "571e1abf15c59a05edee67fad0c31d058b55a2a99714e7a8f78ee119592b2874", func := "hopmesh/hopmeshlaw06.SpectrumParts", spec := "spectrumParts", unfollowed := true, recurses := true, apart := false }
def SpectrumPartsSaid : Prop := spectrumPartsRow.holds Try.pinned (OpenSpec.ofChange spectrumPartsSpec)

/-- ITS FALSE NEIGHBOUR: 'it returns false'. Refute it at one input. -/
def spectrumPartsWrong : ChangeSpec := { name := "spectrumParts", fn := fun _ => fun
  | [d1, d2] => { results := [.lit (.bool false)], args := [d1, d2] }
  | _ => none }
def SpectrumPartsWrongFalsely : Prop := spectrumPartsRow.holds Try.pinned (OpenSpec.ofChange spectrumPartsWrong)

/-- 'hopmeshlaw06.SpectrumGrows': WHATEVER THE INPUT: true; the input reads as it did. -/
def spectrumGrowsSpec : ChangeSpec := { name := "spectrumGrows", fn := fun _ => fun
  | [d1, d2, d3] => { results := [.lit (.bool true)], args := [d1, d2, d3] }
  | _ => none }
def spectrumGrowsRow : OpenClaim := { program := "ytlndgoaobalenaa", sum := "571e1abf15c59a05edee67fad0c31d058b55a2a99714e7a8f78ee119592b2874", func := "hopmesh/hopmeshlaw06.SpectrumGrows", spec := "spectrumGrows", unfollowed := true, recurses := true, apart := false }
def SpectrumGrowsSaid : Prop := spectrumGrowsRow.holds Try.pinned (OpenSpec.ofChange spectrumGrowsSpec)

/-- ITS FALSE NEIGHBOUR: 'it returns false'. Refute it at one input. -/
def spectrumGrowsWrong : ChangeSpec := { name := "spectrumGrows", fn := fun _ => fun
  | [d1, d2, d3] => { results := [.lit (.bool false)], args := [d1, d2, d3] }
  | _ => none }
def SpectrumGrowsWrongFalsely : Prop := spectrumGrowsRow.holds Try.pinned (OpenSpec.ofChange spectrumGrowsWrong)

/-- 'hopmeshlaw06.SpectrumExternal': WHATEVER THE INPUT: true; the input reads as it did. -/
def spectrumExternalSpec : ChangeSpec := { name := "spectrumExternal", fn := fun _ => fun
  | [d1, d2, d3] => { results := [.lit (.bool true)], args := [d1, d2, d3] }
  | _ => none }
def spectrumExternalRow : OpenClaim := { program := "ytlndgoaobalenaa", sum := "571e1abf15c59a05edee67fad0c31d058b55a2a99714e7a8f78ee119592b2874", func := "hopmesh/hopmeshlaw06.SpectrumExternal", spec := "spectrumExternal", unfollowed := true, recurses := true, apart := false }
def SpectrumExternalSaid : Prop := spectrumExternalRow.holds Try.pinned (OpenSpec.ofChange spectrumExternalSpec)

/-- ITS FALSE NEIGHBOUR: 'it returns false'. Refute it at one input. -/
def spectrumExternalWrong : ChangeSpec := { name := "spectrumExternal", fn := fun _ => fun
  | [d1, d2, d3] => { results := [.lit (.bool false)], args := [d1, d2, d3] }
  | _ => none }
def SpectrumExternalWrongFalsely : Prop := spectrumExternalRow.holds Try.pinned (OpenSpec.ofChange spectrumExternalWrong)

/-- 'hopmeshlaw06.SpectrumSignals': WHATEVER THE INPUT: true; the input reads as it did. -/
def spectrumSignalsSpec : ChangeSpec := { name := "spectrumSignals", fn := fun _ => fun
  | [d1, d2, d3] => { results := [.lit (.bool true)], args := [d1, d2, d3] }
  | _ => none }
def spectrumSignalsRow : OpenClaim := { program := "ytlndgoaobalenaa", sum := "571e1abf15c59a05edee67fad0c31d058b55a2a99714e7a8f78ee119592b2874", func := "hopmesh/hopmeshlaw06.SpectrumSignals", spec := "spectrumSignals", unfollowed := true, recurses := true, apart := false }
def SpectrumSignalsSaid : Prop := spectrumSignalsRow.holds Try.pinned (OpenSpec.ofChange spectrumSignalsSpec)

/-- ITS FALSE NEIGHBOUR: 'it returns false'. Refute it at one input. -/
def spectrumSignalsWrong : ChangeSpec := { name := "spectrumSignals", fn := fun _ => fun
  | [d1, d2, d3] => { results := [.lit (.bool false)], args := [d1, d2, d3] }
  | _ => none }
def SpectrumSignalsWrongFalsely : Prop := spectrumSignalsRow.holds Try.pinned (OpenSpec.ofChange spectrumSignalsWrong)

/-- 'hopmeshlaw06.SpectrumWorst': WHATEVER THE INPUT: true; the input reads as it did. -/
def spectrumWorstSpec : ChangeSpec := { name := "spectrumWorst", fn := fun _ => fun
  | [d1, d2, d3] => { results := [.lit (.bool true)], args := [d1, d2, d3] }
  | _ => none }
def spectrumWorstRow : OpenClaim := { program := "ytlndgoaobalenaa", sum := "571e1abf15c59a05edee67fad0c31d058b55a2a99714e7a8f78ee119592b2874", func := "hopmesh/hopmeshlaw06.SpectrumWorst", spec := "spectrumWorst", unfollowed := true, recurses := true, apart := false }
def SpectrumWorstSaid : Prop := spectrumWorstRow.holds Try.pinned (OpenSpec.ofChange spectrumWorstSpec)

/-- ITS FALSE NEIGHBOUR: 'it returns false'. Refute it at one input. -/
def spectrumWorstWrong : ChangeSpec := { name := "spectrumWorst", fn := fun _ => fun
  | [d1, d2, d3] => { results := [.lit (.bool false)], args := [d1, d2, d3] }
  | _ => none }
def SpectrumWorstWrongFalsely : Prop := spectrumWorstRow.holds Try.pinned (OpenSpec.ofChange spectrumWorstWrong)

/-- 'hopmeshlaw06.SpectrumFades': WHATEVER THE INPUT: true; the input reads as it did. -/
def spectrumFadesSpec : ChangeSpec := { name := "spectrumFades", fn := fun _ => fun
  | [d1, d2, d3] => { results := [.lit (.bool true)], args := [d1, d2, d3] }
  | _ => none }
def spectrumFadesRow : OpenClaim := { program := "ytlndgoaobalenaa", sum := "571e1abf15c59a05edee67fad0c31d058b55a2a99714e7a8f78ee119592b2874", func := "hopmesh/hopmeshlaw06.SpectrumFades", spec := "spectrumFades", unfollowed := true, recurses := true, apart := false }
def SpectrumFadesSaid : Prop := spectrumFadesRow.holds Try.pinned (OpenSpec.ofChange spectrumFadesSpec)

/-- ITS FALSE NEIGHBOUR: 'it returns false'. Refute it at one input. -/
def spectrumFadesWrong : ChangeSpec := { name := "spectrumFades", fn := fun _ => fun
  | [d1, d2, d3] => { results := [.lit (.bool false)], args := [d1, d2, d3] }
  | _ => none }
def SpectrumFadesWrongFalsely : Prop := spectrumFadesRow.holds Try.pinned (OpenSpec.ofChange spectrumFadesWrong)

/- THE SECOND FORM. 'bulk': how many values and letters a reading holds, each counted each time it is reached (what is shared counts as often as it is met; a slice's spare places count too). A statement '..UptoSaid' is the law's where the arguments, and the package variables that the reading takes, are together of bulk at most 1048576: NARROWER than '..Said'. Prove '..Said' where nothing that the law and all that it calls make is longer than what came in: it says more and counts as full. Else prove '..UptoSaid'. A law counts once. -/
mutual
def uptoBulk {H : Type} : DataW H → Nat
  | .lit (.string bytes) => bytes.length + 1
  | .lit _ => 1
  | .nil => 1
  | .ptr d => uptoBulk d + 1
  | .slice elems spare => uptoBulkAll elems + uptoBulkAll spare + 1
  | .agg parts => uptoBulkAll parts + 1
  | .iface _ d => uptoBulk d + 1
  | .map entries => uptoBulkEntries entries + 1
  | .held _ => 1
def uptoBulkAll {H : Type} : List (DataW H) → Nat
  | [] => 0
  | d :: r => uptoBulk d + uptoBulkAll r
def uptoBulkEntries {H : Type} : List (Lit × DataW H) → Nat
  | [] => 0
  | x :: r => uptoBulkEntry x + uptoBulkEntries r
def uptoBulkEntry {H : Type} : Lit × DataW H → Nat
  | (.string bytes, d) => bytes.length + uptoBulk d + 1
  | (_, d) => uptoBulk d + 1
 end
def uptoSmall : (H : Type) → List (DataW H) → Bool := fun _ ds => decide (uptoBulkAll ds ≤ 1048576)
def OpenSpec.upto (s : _root_.Go.ChangeSpec) : _root_.Go.OpenSpec := { _root_.Go.OpenSpec.ofChange s with cond := some uptoSmall }

/-- 'hopmeshlaw06.SpectrumSources', WHERE WHAT IT READS IS OF BULK AT MOST 1048576: true; the input reads as it did. -/
def spectrumSourcesUptoRow : OpenClaim := { program := "ytlndgoaobalenaa", sum := "571e1abf15c59a05edee67fad0c31d058b55a2a99714e7a8f78ee119592b2874", func := "hopmesh/hopmeshlaw06.SpectrumSources", spec := "spectrumSources", unfollowed := true, recurses := true, apart := false, narrowed := true }
def SpectrumSourcesUptoSaid : Prop := spectrumSourcesUptoRow.holds Try.pinned (OpenSpec.upto spectrumSourcesSpec)

/-- 'hopmeshlaw06.SpectrumParts', WHERE WHAT IT READS IS OF BULK AT MOST 1048576: true; the input reads as it did. -/
def spectrumPartsUptoRow : OpenClaim := { program := "ytlndgoaobalenaa", sum := "571e1abf15c59a05edee67fad0c31d058b55a2a99714e7a8f78ee119592b2874", func := "hopmesh/hopmeshlaw06.SpectrumParts", spec := "spectrumParts", unfollowed := true, recurses := true, apart := false, narrowed := true }
def SpectrumPartsUptoSaid : Prop := spectrumPartsUptoRow.holds Try.pinned (OpenSpec.upto spectrumPartsSpec)

/-- 'hopmeshlaw06.SpectrumGrows', WHERE WHAT IT READS IS OF BULK AT MOST 1048576: true; the input reads as it did. -/
def spectrumGrowsUptoRow : OpenClaim := { program := "ytlndgoaobalenaa", sum := "571e1abf15c59a05edee67fad0c31d058b55a2a99714e7a8f78ee119592b2874", func := "hopmesh/hopmeshlaw06.SpectrumGrows", spec := "spectrumGrows", unfollowed := true, recurses := true, apart := false, narrowed := true }
def SpectrumGrowsUptoSaid : Prop := spectrumGrowsUptoRow.holds Try.pinned (OpenSpec.upto spectrumGrowsSpec)

/-- 'hopmeshlaw06.SpectrumExternal', WHERE WHAT IT READS IS OF BULK AT MOST 1048576: true; the input reads as it did. -/
def spectrumExternalUptoRow : OpenClaim := { program := "ytlndgoaobalenaa", sum := "571e1abf15c59a05edee67fad0c31d058b55a2a99714e7a8f78ee119592b2874", func := "hopmesh/hopmeshlaw06.SpectrumExternal", spec := "spectrumExternal", unfollowed := true, recurses := true, apart := false, narrowed := true }
def SpectrumExternalUptoSaid : Prop := spectrumExternalUptoRow.holds Try.pinned (OpenSpec.upto spectrumExternalSpec)

/-- 'hopmeshlaw06.SpectrumSignals', WHERE WHAT IT READS IS OF BULK AT MOST 1048576: true; the input reads as it did. -/
def spectrumSignalsUptoRow : OpenClaim := { program := "ytlndgoaobalenaa", sum := "571e1abf15c59a05edee67fad0c31d058b55a2a99714e7a8f78ee119592b2874", func := "hopmesh/hopmeshlaw06.SpectrumSignals", spec := "spectrumSignals", unfollowed := true, recurses := true, apart := false, narrowed := true }
def SpectrumSignalsUptoSaid : Prop := spectrumSignalsUptoRow.holds Try.pinned (OpenSpec.upto spectrumSignalsSpec)

/-- 'hopmeshlaw06.SpectrumWorst', WHERE WHAT IT READS IS OF BULK AT MOST 1048576: true; the input reads as it did. -/
def spectrumWorstUptoRow : OpenClaim := { program := "ytlndgoaobalenaa", sum := "571e1abf15c59a05edee67fad0c31d058b55a2a99714e7a8f78ee119592b2874", func := "hopmesh/hopmeshlaw06.SpectrumWorst", spec := "spectrumWorst", unfollowed := true, recurses := true, apart := false, narrowed := true }
def SpectrumWorstUptoSaid : Prop := spectrumWorstUptoRow.holds Try.pinned (OpenSpec.upto spectrumWorstSpec)

/-- 'hopmeshlaw06.SpectrumFades', WHERE WHAT IT READS IS OF BULK AT MOST 1048576: true; the input reads as it did. -/
def spectrumFadesUptoRow : OpenClaim := { program := "ytlndgoaobalenaa", sum := "571e1abf15c59a05edee67fad0c31d058b55a2a99714e7a8f78ee119592b2874", func := "hopmesh/hopmeshlaw06.SpectrumFades", spec := "spectrumFades", unfollowed := true, recurses := true, apart := false, narrowed := true }
def SpectrumFadesUptoSaid : Prop := spectrumFadesUptoRow.holds Try.pinned (OpenSpec.upto spectrumFadesSpec)

end Rows
end Go.Proofs.Ytlndgoaobalenaa
