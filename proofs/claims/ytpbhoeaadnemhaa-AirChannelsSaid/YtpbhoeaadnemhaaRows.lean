/-
  No cell of these rows narrows 'for every input' (looked for: loops, veiled, ifaces, maps, wideKeys, modest, calm, conditions, laid).
  DERIVED. THE GIVEN ROWS OF THIS SEAT. 6 by the template 'for every input the law returns true; each argument reads behind the call as it read before'; 0 by the template 'total and deterministic' (their statements: YtpbhoeaadnemhaaTotals.lean).
  GIVEN WITH THE SEED: the statements are not yours to turn. If you find one false, say at which input.
  Laid BY PROGRAM, IN A SANDBOX (cutbox-rows.mjs): the forced cells as the released guide's own fill.sh prints them over the translation 8e7e2ed100fa1ce6… (all of the seat's roots in one cut). By AI agents, Wed Nov 11 2026. No macro, syntax, notation, axiom, sorry.
-/
import Derived.Test.YtpbhoeaadnemhaaChecked
import GoSem.Claim
import GoSem.ClaimJoined
import GoSem.ClaimMapViews
import Derived.JoinedTies
import Derived.KernelRfl
namespace Go.Proofs.Ytpbhoeaadnemhaa
/- THE CELL 'sum', in the pinned program and in every row, IS THE sha256 OF THE DUMP (.gsa) THAT YtpbhoeaadnemhaaProg.lean LOADS. Nothing in Lean hashes anything: it is a label: what it is worth is what the hold of that sum in a sandbox is worth. -/
noncomputable def Try.pinned : Pinned := { name := "ytpbhoeaadnemhaa", sum := "8e7e2ed100fa1ce68bc768d3fc09adb205555210b55b79db98f7abc8d6fe8198", checked := Try.checked }
namespace Rows
def none {H : Type} : Left H := { results := [], args := [] }

/-- 'hopmeshlaw07.AirChecks': WHATEVER THE INPUT: true; the input reads as it did. -/
def airChecksSpec : ChangeSpec := { name := "airChecks", fn := fun _ => fun
  | [d1, d2, d3] => { results := [.lit (.bool true)], args := [d1, d2, d3] }
  | _ => none }
def airChecksRow : OpenClaim := { program := "ytpbhoeaadnemhaa", sum := "8e7e2ed100fa1ce68bc768d3fc09adb205555210b55b79db98f7abc8d6fe8198", func := "hopmesh/hopmeshlaw07.AirChecks", spec := "airChecks", unfollowed := true, recurses := true, apart := false }
def AirChecksSaid : Prop := airChecksRow.holds Try.pinned (OpenSpec.ofChange airChecksSpec)

/-- ITS FALSE NEIGHBOUR: 'it returns false'. Refute it at one input. -/
def airChecksWrong : ChangeSpec := { name := "airChecks", fn := fun _ => fun
  | [d1, d2, d3] => { results := [.lit (.bool false)], args := [d1, d2, d3] }
  | _ => none }
def AirChecksWrongFalsely : Prop := airChecksRow.holds Try.pinned (OpenSpec.ofChange airChecksWrong)

/-- 'hopmeshlaw07.AirWindows': WHATEVER THE INPUT: true; the input reads as it did. -/
def airWindowsSpec : ChangeSpec := { name := "airWindows", fn := fun _ => fun
  | [d1, d2, d3] => { results := [.lit (.bool true)], args := [d1, d2, d3] }
  | _ => none }
def airWindowsRow : OpenClaim := { program := "ytpbhoeaadnemhaa", sum := "8e7e2ed100fa1ce68bc768d3fc09adb205555210b55b79db98f7abc8d6fe8198", func := "hopmesh/hopmeshlaw07.AirWindows", spec := "airWindows", unfollowed := true, recurses := true, apart := false }
def AirWindowsSaid : Prop := airWindowsRow.holds Try.pinned (OpenSpec.ofChange airWindowsSpec)

/-- ITS FALSE NEIGHBOUR: 'it returns false'. Refute it at one input. -/
def airWindowsWrong : ChangeSpec := { name := "airWindows", fn := fun _ => fun
  | [d1, d2, d3] => { results := [.lit (.bool false)], args := [d1, d2, d3] }
  | _ => none }
def AirWindowsWrongFalsely : Prop := airWindowsRow.holds Try.pinned (OpenSpec.ofChange airWindowsWrong)

/-- 'hopmeshlaw07.AirBlames': WHATEVER THE INPUT: true; the input reads as it did. -/
def airBlamesSpec : ChangeSpec := { name := "airBlames", fn := fun _ => fun
  | [d1, d2, d3] => { results := [.lit (.bool true)], args := [d1, d2, d3] }
  | _ => none }
def airBlamesRow : OpenClaim := { program := "ytpbhoeaadnemhaa", sum := "8e7e2ed100fa1ce68bc768d3fc09adb205555210b55b79db98f7abc8d6fe8198", func := "hopmesh/hopmeshlaw07.AirBlames", spec := "airBlames", unfollowed := true, recurses := true, apart := false }
def AirBlamesSaid : Prop := airBlamesRow.holds Try.pinned (OpenSpec.ofChange airBlamesSpec)

/-- ITS FALSE NEIGHBOUR: 'it returns false'. Refute it at one input. -/
def airBlamesWrong : ChangeSpec := { name := "airBlames", fn := fun _ => fun
  | [d1, d2, d3] => { results := [.lit (.bool false)], args := [d1, d2, d3] }
  | _ => none }
def AirBlamesWrongFalsely : Prop := airBlamesRow.holds Try.pinned (OpenSpec.ofChange airBlamesWrong)

/-- 'hopmeshlaw07.AirCaptures': WHATEVER THE INPUT: true; the input reads as it did. -/
def airCapturesSpec : ChangeSpec := { name := "airCaptures", fn := fun _ => fun
  | [d] => { results := [.lit (.bool true)], args := [d] }
  | _ => none }
def airCapturesRow : OpenClaim := { program := "ytpbhoeaadnemhaa", sum := "8e7e2ed100fa1ce68bc768d3fc09adb205555210b55b79db98f7abc8d6fe8198", func := "hopmesh/hopmeshlaw07.AirCaptures", spec := "airCaptures", unfollowed := true, recurses := true, apart := false }
def AirCapturesSaid : Prop := airCapturesRow.holds Try.pinned (OpenSpec.ofChange airCapturesSpec)

/-- ITS FALSE NEIGHBOUR: 'it returns false'. Refute it at one input. -/
def airCapturesWrong : ChangeSpec := { name := "airCaptures", fn := fun _ => fun
  | [d] => { results := [.lit (.bool false)], args := [d] }
  | _ => none }
def AirCapturesWrongFalsely : Prop := airCapturesRow.holds Try.pinned (OpenSpec.ofChange airCapturesWrong)

/-- 'hopmeshlaw07.AirSuperposes': WHATEVER THE INPUT: true; the input reads as it did. -/
def airSuperposesSpec : ChangeSpec := { name := "airSuperposes", fn := fun _ => fun
  | [d1, d2] => { results := [.lit (.bool true)], args := [d1, d2] }
  | _ => none }
def airSuperposesRow : OpenClaim := { program := "ytpbhoeaadnemhaa", sum := "8e7e2ed100fa1ce68bc768d3fc09adb205555210b55b79db98f7abc8d6fe8198", func := "hopmesh/hopmeshlaw07.AirSuperposes", spec := "airSuperposes", unfollowed := true, recurses := true, apart := false }
def AirSuperposesSaid : Prop := airSuperposesRow.holds Try.pinned (OpenSpec.ofChange airSuperposesSpec)

/-- ITS FALSE NEIGHBOUR: 'it returns false'. Refute it at one input. -/
def airSuperposesWrong : ChangeSpec := { name := "airSuperposes", fn := fun _ => fun
  | [d1, d2] => { results := [.lit (.bool false)], args := [d1, d2] }
  | _ => none }
def AirSuperposesWrongFalsely : Prop := airSuperposesRow.holds Try.pinned (OpenSpec.ofChange airSuperposesWrong)

/-- 'hopmeshlaw07.AirChannels': WHATEVER THE INPUT: true; the input reads as it did. -/
def airChannelsSpec : ChangeSpec := { name := "airChannels", fn := fun _ => fun
  | [d1, d2, d3] => { results := [.lit (.bool true)], args := [d1, d2, d3] }
  | _ => none }
def airChannelsRow : OpenClaim := { program := "ytpbhoeaadnemhaa", sum := "8e7e2ed100fa1ce68bc768d3fc09adb205555210b55b79db98f7abc8d6fe8198", func := "hopmesh/hopmeshlaw07.AirChannels", spec := "airChannels", unfollowed := true, recurses := true, apart := false }
def AirChannelsSaid : Prop := airChannelsRow.holds Try.pinned (OpenSpec.ofChange airChannelsSpec)

/-- ITS FALSE NEIGHBOUR: 'it returns false'. Refute it at one input. -/
def airChannelsWrong : ChangeSpec := { name := "airChannels", fn := fun _ => fun
  | [d1, d2, d3] => { results := [.lit (.bool false)], args := [d1, d2, d3] }
  | _ => none }
def AirChannelsWrongFalsely : Prop := airChannelsRow.holds Try.pinned (OpenSpec.ofChange airChannelsWrong)

/- THE SECOND FORM. 'bulk': how many values and letters a reading holds, each counted each time it is reached (what is shared counts as often as it is met; a slice's spare places count too). A statement '..UptoSaid' is the law's where the arguments, and the package variables that the reading takes, are together of bulk at most 1048576: NARROWER than '..Said'. Prove '..Said' where nothing that the law and all that it calls make is longer than what came in: it says more and counts as full. Else prove '..UptoSaid'. A law counts once. -/
mutual
def uptoBulk {H : Type} : DataW H → Nat
  | .lit (.string bytes) => bytes.length + 1
  | .lit _ => 1
  | .nil => 1
  | .ptr d => uptoBulk d + 1
  | .slice elems spare => uptoBulkAll elems + uptoBulkAll spare + 1
  | .agg parts => uptoBulkAll parts + 1
  | .iface _ d => uptoBulk d + 1
  | .map entries => uptoBulkEntries entries + 1
  | .held _ => 1
def uptoBulkAll {H : Type} : List (DataW H) → Nat
  | [] => 0
  | d :: r => uptoBulk d + uptoBulkAll r
def uptoBulkEntries {H : Type} : List (Lit × DataW H) → Nat
  | [] => 0
  | x :: r => uptoBulkEntry x + uptoBulkEntries r
def uptoBulkEntry {H : Type} : Lit × DataW H → Nat
  | (.string bytes, d) => bytes.length + uptoBulk d + 1
  | (_, d) => uptoBulk d + 1
 end
def uptoSmall : (H : Type) → List (DataW H) → Bool := fun _ ds => decide (uptoBulkAll ds ≤ 1048576)
def OpenSpec.upto (s : _root_.Go.ChangeSpec) : _root_.Go.OpenSpec := { _root_.Go.OpenSpec.ofChange s with cond := some uptoSmall }

/-- 'hopmeshlaw07.AirChecks', WHERE WHAT IT READS IS OF BULK AT MOST 1048576: true; the input reads as it did. -/
def airChecksUptoRow : OpenClaim := { program := "ytpbhoeaadnemhaa", sum := "8e7e2ed100fa1ce68bc768d3fc09adb205555210b55b79db98f7abc8d6fe8198", func := "hopmesh/hopmeshlaw07.AirChecks", spec := "airChecks", unfollowed := true, recurses := true, apart := false, narrowed := true }
def AirChecksUptoSaid : Prop := airChecksUptoRow.holds Try.pinned (OpenSpec.upto airChecksSpec)

/-- 'hopmeshlaw07.AirWindows', WHERE WHAT IT READS IS OF BULK AT MOST 1048576: true; the input reads as it did. -/
def airWindowsUptoRow : OpenClaim := { program := "ytpbhoeaadnemhaa", sum := "8e7e2ed100fa1ce68bc768d3fc09adb205555210b55b79db98f7abc8d6fe8198", func := "hopmesh/hopmeshlaw07.AirWindows", spec := "airWindows", unfollowed := true, recurses := true, apart := false, narrowed := true }
def AirWindowsUptoSaid : Prop := airWindowsUptoRow.holds Try.pinned (OpenSpec.upto airWindowsSpec)

/-- 'hopmeshlaw07.AirBlames', WHERE WHAT IT READS IS OF BULK AT MOST 1048576: true; the input reads as it did. -/
def airBlamesUptoRow : OpenClaim := { program := "ytpbhoeaadnemhaa", sum := "8e7e2ed100fa1ce68bc768d3fc09adb205555210b55b79db98f7abc8d6fe8198", func := "hopmesh/hopmeshlaw07.AirBlames", spec := "airBlames", unfollowed := true, recurses := true, apart := false, narrowed := true }
def AirBlamesUptoSaid : Prop := airBlamesUptoRow.holds Try.pinned (OpenSpec.upto airBlamesSpec)

/-- 'hopmeshlaw07.AirCaptures', WHERE WHAT IT READS IS OF BULK AT MOST 1048576: true; the input reads as it did. -/
def airCapturesUptoRow : OpenClaim := { program := "ytpbhoeaadnemhaa", sum := "8e7e2ed100fa1ce68bc768d3fc09adb205555210b55b79db98f7abc8d6fe8198", func := "hopmesh/hopmeshlaw07.AirCaptures", spec := "airCaptures", unfollowed := true, recurses := true, apart := false, narrowed := true }
def AirCapturesUptoSaid : Prop := airCapturesUptoRow.holds Try.pinned (OpenSpec.upto airCapturesSpec)

/-- 'hopmeshlaw07.AirSuperposes', WHERE WHAT IT READS IS OF BULK AT MOST 1048576: true; the input reads as it did. -/
def airSuperposesUptoRow : OpenClaim := { program := "ytpbhoeaadnemhaa", sum := "8e7e2ed100fa1ce68bc768d3fc09adb205555210b55b79db98f7abc8d6fe8198", func := "hopmesh/hopmeshlaw07.AirSuperposes", spec := "airSuperposes", unfollowed := true, recurses := true, apart := false, narrowed := true }
def AirSuperposesUptoSaid : Prop := airSuperposesUptoRow.holds Try.pinned (OpenSpec.upto airSuperposesSpec)

/-- 'hopmeshlaw07.AirChannels', WHERE WHAT IT READS IS OF BULK AT MOST 1048576: true; the input reads as it did. -/
def airChannelsUptoRow : OpenClaim := { program := "ytpbhoeaadnemhaa", sum := "8e7e2ed100fa1ce68bc768d3fc09adb205555210b55b79db98f7abc8d6fe8198", func := "hopmesh/hopmeshlaw07.AirChannels", spec := "airChannels", unfollowed := true, recurses := true, apart := false, narrowed := true }
def AirChannelsUptoSaid : Prop := airChannelsUptoRow.holds Try.pinned (OpenSpec.upto airChannelsSpec)

end Rows
end Go.Proofs.Ytpbhoeaadnemhaa
