/-
  No cell of these rows narrows 'for every input' (looked for: loops, veiled, ifaces, maps, wideKeys, modest, calm, conditions, laid).
  DERIVED. THE GIVEN ROWS OF THIS SEAT. 4 by the template 'for every input the law returns true; each argument reads behind the call as it read before'; 0 by the template 'total and deterministic' (their statements: YtplcikgmefcfbaaTotals.lean).
  GIVEN WITH THE SEED: the statements are not yours to turn. If you find one false, say at which input.
  Laid BY PROGRAM, IN A SANDBOX (cutbox-rows.mjs): the forced cells as the released guide's own fill.sh prints them over the translation 30daa2d39b435af5… (all of the seat's roots in one cut). By AI agents, Wed Nov 11 2026. No macro, syntax, notation, axiom, sorry.
-/
import Derived.Test.YtplcikgmefcfbaaChecked
import GoSem.Claim
import GoSem.ClaimJoined
import GoSem.ClaimMapViews
import Derived.JoinedTies
import Derived.KernelRfl
namespace Go.Proofs.Ytplcikgmefcfbaa
/- THE CELL 'sum', in the pinned program and in every row, IS THE sha256 OF THE DUMP (.gsa) THAT YtplcikgmefcfbaaProg.lean LOADS. Nothing in Lean hashes anything: it is a label: what it is worth is what the hold of that sum in a sandbox is worth. -/
noncomputable def Try.pinned : Pinned := { name := "ytplcikgmefcfbaa", sum := "30daa2d39b435af5298e257688415d64a4c20d11502c2976723b75b9d6a61fa3", checked := Try.checked }
namespace Rows
def none {H : Type} : Left H := { results := [], args := [] }

/-- 'schismalaw51.DriftLimits': WHATEVER THE INPUT: true; the input reads as it did. -/
def driftLimitsSpec : ChangeSpec := { name := "driftLimits", fn := fun _ => fun
  | [d1, d2, d3] => { results := [.lit (.bool true)], args := [d1, d2, d3] }
  | _ => none }
def driftLimitsRow : OpenClaim := { program := "ytplcikgmefcfbaa", sum := "30daa2d39b435af5298e257688415d64a4c20d11502c2976723b75b9d6a61fa3", func := "schisma/schismalaw51.DriftLimits", spec := "driftLimits", unfollowed := true, recurses := true, apart := false }
def DriftLimitsSaid : Prop := driftLimitsRow.holds Try.pinned (OpenSpec.ofChange driftLimitsSpec)

/-- ITS FALSE NEIGHBOUR: 'it returns false'. Refute it at one input. -/
def driftLimitsWrong : ChangeSpec := { name := "driftLimits", fn := fun _ => fun
  | [d1, d2, d3] => { results := [.lit (.bool false)], args := [d1, d2, d3] }
  | _ => none }
def DriftLimitsWrongFalsely : Prop := driftLimitsRow.holds Try.pinned (OpenSpec.ofChange driftLimitsWrong)

/-- 'schismalaw51.DriftFollows': WHATEVER THE INPUT: true; the input reads as it did. -/
def driftFollowsSpec : ChangeSpec := { name := "driftFollows", fn := fun _ => fun
  | [d] => { results := [.lit (.bool true)], args := [d] }
  | _ => none }
def driftFollowsRow : OpenClaim := { program := "ytplcikgmefcfbaa", sum := "30daa2d39b435af5298e257688415d64a4c20d11502c2976723b75b9d6a61fa3", func := "schisma/schismalaw51.DriftFollows", spec := "driftFollows", unfollowed := true, recurses := true, apart := false }
def DriftFollowsSaid : Prop := driftFollowsRow.holds Try.pinned (OpenSpec.ofChange driftFollowsSpec)

/-- ITS FALSE NEIGHBOUR: 'it returns false'. Refute it at one input. -/
def driftFollowsWrong : ChangeSpec := { name := "driftFollows", fn := fun _ => fun
  | [d] => { results := [.lit (.bool false)], args := [d] }
  | _ => none }
def DriftFollowsWrongFalsely : Prop := driftFollowsRow.holds Try.pinned (OpenSpec.ofChange driftFollowsWrong)

/-- 'schismalaw51.DriftTurns': WHATEVER THE INPUT: true; the input reads as it did. -/
def driftTurnsSpec : ChangeSpec := { name := "driftTurns", fn := fun _ => fun
  | [d1, d2] => { results := [.lit (.bool true)], args := [d1, d2] }
  | _ => none }
def driftTurnsRow : OpenClaim := { program := "ytplcikgmefcfbaa", sum := "30daa2d39b435af5298e257688415d64a4c20d11502c2976723b75b9d6a61fa3", func := "schisma/schismalaw51.DriftTurns", spec := "driftTurns", unfollowed := true, recurses := true, apart := false }
def DriftTurnsSaid : Prop := driftTurnsRow.holds Try.pinned (OpenSpec.ofChange driftTurnsSpec)

/-- ITS FALSE NEIGHBOUR: 'it returns false'. Refute it at one input. -/
def driftTurnsWrong : ChangeSpec := { name := "driftTurns", fn := fun _ => fun
  | [d1, d2] => { results := [.lit (.bool false)], args := [d1, d2] }
  | _ => none }
def DriftTurnsWrongFalsely : Prop := driftTurnsRow.holds Try.pinned (OpenSpec.ofChange driftTurnsWrong)

/-- 'schismalaw51.DriftJoins': WHATEVER THE INPUT: true; the input reads as it did. -/
def driftJoinsSpec : ChangeSpec := { name := "driftJoins", fn := fun _ => fun
  | [d1, d2, d3] => { results := [.lit (.bool true)], args := [d1, d2, d3] }
  | _ => none }
def driftJoinsRow : OpenClaim := { program := "ytplcikgmefcfbaa", sum := "30daa2d39b435af5298e257688415d64a4c20d11502c2976723b75b9d6a61fa3", func := "schisma/schismalaw51.DriftJoins", spec := "driftJoins", unfollowed := true, recurses := true, apart := false }
def DriftJoinsSaid : Prop := driftJoinsRow.holds Try.pinned (OpenSpec.ofChange driftJoinsSpec)

/-- ITS FALSE NEIGHBOUR: 'it returns false'. Refute it at one input. -/
def driftJoinsWrong : ChangeSpec := { name := "driftJoins", fn := fun _ => fun
  | [d1, d2, d3] => { results := [.lit (.bool false)], args := [d1, d2, d3] }
  | _ => none }
def DriftJoinsWrongFalsely : Prop := driftJoinsRow.holds Try.pinned (OpenSpec.ofChange driftJoinsWrong)

/- THE SECOND FORM. 'bulk': how many values and letters a reading holds, each counted each time it is reached (what is shared counts as often as it is met; a slice's spare places count too). A statement '..UptoSaid' is the law's where the arguments, and the package variables that the reading takes, are together of bulk at most 1048576: NARROWER than '..Said'. Prove '..Said' where nothing that the law and all that it calls make is longer than what came in: it says more and counts as full. Else prove '..UptoSaid'. A law counts once. -/
mutual
def uptoBulk {H : Type} : DataW H → Nat
  | .lit (.string bytes) => bytes.length + 1
  | .lit _ => 1
  | .nil => 1
  | .ptr d => uptoBulk d + 1
  | .slice elems spare => uptoBulkAll elems + uptoBulkAll spare + 1
  | .agg parts => uptoBulkAll parts + 1
  | .iface _ d => uptoBulk d + 1
  | .map entries => uptoBulkEntries entries + 1
  | .held _ => 1
def uptoBulkAll {H : Type} : List (DataW H) → Nat
  | [] => 0
  | d :: r => uptoBulk d + uptoBulkAll r
def uptoBulkEntries {H : Type} : List (Lit × DataW H) → Nat
  | [] => 0
  | x :: r => uptoBulkEntry x + uptoBulkEntries r
def uptoBulkEntry {H : Type} : Lit × DataW H → Nat
  | (.string bytes, d) => bytes.length + uptoBulk d + 1
  | (_, d) => uptoBulk d + 1
 end
def uptoSmall : (H : Type) → List (DataW H) → Bool := fun _ ds => decide (uptoBulkAll ds ≤ 1048576)
def OpenSpec.upto (s : _root_.Go.ChangeSpec) : _root_.Go.OpenSpec := { _root_.Go.OpenSpec.ofChange s with cond := some uptoSmall }

/-- 'schismalaw51.DriftLimits', WHERE WHAT IT READS IS OF BULK AT MOST 1048576: true; the input reads as it did. -/
def driftLimitsUptoRow : OpenClaim := { program := "ytplcikgmefcfbaa", sum := "30daa2d39b435af5298e257688415d64a4c20d11502c2976723b75b9d6a61fa3", func := "schisma/schismalaw51.DriftLimits", spec := "driftLimits", unfollowed := true, recurses := true, apart := false, narrowed := true }
def DriftLimitsUptoSaid : Prop := driftLimitsUptoRow.holds Try.pinned (OpenSpec.upto driftLimitsSpec)

/-- 'schismalaw51.DriftFollows', WHERE WHAT IT READS IS OF BULK AT MOST 1048576: true; the input reads as it did. -/
def driftFollowsUptoRow : OpenClaim := { program := "ytplcikgmefcfbaa", sum := "30daa2d39b435af5298e257688415d64a4c20d11502c2976723b75b9d6a61fa3", func := "schisma/schismalaw51.DriftFollows", spec := "driftFollows", unfollowed := true, recurses := true, apart := false, narrowed := true }
def DriftFollowsUptoSaid : Prop := driftFollowsUptoRow.holds Try.pinned (OpenSpec.upto driftFollowsSpec)

/-- 'schismalaw51.DriftTurns', WHERE WHAT IT READS IS OF BULK AT MOST 1048576: true; the input reads as it did. -/
def driftTurnsUptoRow : OpenClaim := { program := "ytplcikgmefcfbaa", sum := "30daa2d39b435af5298e257688415d64a4c20d11502c2976723b75b9d6a61fa3", func := "schisma/schismalaw51.DriftTurns", spec := "driftTurns", unfollowed := true, recurses := true, apart := false, narrowed := true }
def DriftTurnsUptoSaid : Prop := driftTurnsUptoRow.holds Try.pinned (OpenSpec.upto driftTurnsSpec)

/-- 'schismalaw51.DriftJoins', WHERE WHAT IT READS IS OF BULK AT MOST 1048576: true; the input reads as it did. -/
def driftJoinsUptoRow : OpenClaim := { program := "ytplcikgmefcfbaa", sum := "30daa2d39b435af5298e257688415d64a4c20d11502c2976723b75b9d6a61fa3", func := "schisma/schismalaw51.DriftJoins", spec := "driftJoins", unfollowed := true, recurses := true, apart := false, narrowed := true }
def DriftJoinsUptoSaid : Prop := driftJoinsUptoRow.holds Try.pinned (OpenSpec.upto driftJoinsSpec)

end Rows
end Go.Proofs.Ytplcikgmefcfbaa
