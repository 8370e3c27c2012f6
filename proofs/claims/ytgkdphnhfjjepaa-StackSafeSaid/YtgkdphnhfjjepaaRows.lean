/-
  No cell of these rows narrows 'for every input' (looked for: loops, veiled, ifaces, maps, wideKeys, modest, calm, conditions, laid).
  DERIVED. THE GIVEN ROWS OF THIS SEAT. 8 by the template 'for every input the law returns true; each argument reads behind the call as it read before'; 0 by the template 'total and deterministic' (their statements: YtgkdphnhfjjepaaTotals.lean).
  GIVEN WITH THE SEED: the statements are not yours to turn. If you find one false, say at which input.
  Laid BY PROGRAM, IN A SANDBOX (cutbox-rows.mjs): the forced cells as the released guide's own fill.sh prints them over the translation 23da060665b13819… (all of the seat's roots in one cut). By AI agents, Wed Nov 11 2026. No macro, syntax, notation, axiom, sorry.
-/
import Derived.Test.YtgkdphnhfjjepaaChecked
import GoSem.Claim
import GoSem.ClaimJoined
import GoSem.ClaimMapViews
import Derived.JoinedTies
import Derived.KernelRfl
namespace Go.Proofs.Ytgkdphnhfjjepaa
/- THE CELL 'sum', in the pinned program and in every row, IS THE sha256 OF THE DUMP (.gsa) THAT YtgkdphnhfjjepaaProg.lean LOADS. Nothing in Lean hashes anything: it is a label: what it is worth is what the hold of that sum in a sandbox is worth. -/
noncomputable def Try.pinned : Pinned := { name := "ytgkdphnhfjjepaa", sum := "23da060665b138190d338ed4b2def9c42456ab2a9ed292a173fe3bc5cc05f837", checked := Try.checked }
namespace Rows
def none {H : Type} : Left H := { results := [], args := [] }

/-- 'waferlaw9.StackFull': WHATEVER THE INPUT: true; the input reads as it did. -/
def stackFullSpec : ChangeSpec := { name := "stackFull", fn := fun _ => fun
  | [d1, d2] => { results := [.lit (.bool true)], args := [d1, d2] }
  | _ => none }
def stackFullRow : OpenClaim := { program := "ytgkdphnhfjjepaa", sum := "23da060665b138190d338ed4b2def9c42456ab2a9ed292a173fe3bc5cc05f837", func := "wafer/waferlaw9.StackFull", spec := "stackFull", unfollowed := true, recurses := true, apart := false }
def StackFullSaid : Prop := stackFullRow.holds Try.pinned (OpenSpec.ofChange stackFullSpec)

/-- ITS FALSE NEIGHBOUR: 'it returns false'. Refute it at one input. -/
def stackFullWrong : ChangeSpec := { name := "stackFull", fn := fun _ => fun
  | [d1, d2] => { results := [.lit (.bool false)], args := [d1, d2] }
  | _ => none }
def StackFullWrongFalsely : Prop := stackFullRow.holds Try.pinned (OpenSpec.ofChange stackFullWrong)

/-- 'waferlaw9.StackReckons': WHATEVER THE INPUT: true; the input reads as it did. -/
def stackReckonsSpec : ChangeSpec := { name := "stackReckons", fn := fun _ => fun
  | [d1, d2, d3] => { results := [.lit (.bool true)], args := [d1, d2, d3] }
  | _ => none }
def stackReckonsRow : OpenClaim := { program := "ytgkdphnhfjjepaa", sum := "23da060665b138190d338ed4b2def9c42456ab2a9ed292a173fe3bc5cc05f837", func := "wafer/waferlaw9.StackReckons", spec := "stackReckons", unfollowed := true, recurses := true, apart := false }
def StackReckonsSaid : Prop := stackReckonsRow.holds Try.pinned (OpenSpec.ofChange stackReckonsSpec)

/-- ITS FALSE NEIGHBOUR: 'it returns false'. Refute it at one input. -/
def stackReckonsWrong : ChangeSpec := { name := "stackReckons", fn := fun _ => fun
  | [d1, d2, d3] => { results := [.lit (.bool false)], args := [d1, d2, d3] }
  | _ => none }
def StackReckonsWrongFalsely : Prop := stackReckonsRow.holds Try.pinned (OpenSpec.ofChange stackReckonsWrong)

/-- 'waferlaw9.StackEcho': WHATEVER THE INPUT: true; the input reads as it did. -/
def stackEchoSpec : ChangeSpec := { name := "stackEcho", fn := fun _ => fun
  | [d] => { results := [.lit (.bool true)], args := [d] }
  | _ => none }
def stackEchoRow : OpenClaim := { program := "ytgkdphnhfjjepaa", sum := "23da060665b138190d338ed4b2def9c42456ab2a9ed292a173fe3bc5cc05f837", func := "wafer/waferlaw9.StackEcho", spec := "stackEcho", unfollowed := true, recurses := true, apart := false }
def StackEchoSaid : Prop := stackEchoRow.holds Try.pinned (OpenSpec.ofChange stackEchoSpec)

/-- ITS FALSE NEIGHBOUR: 'it returns false'. Refute it at one input. -/
def stackEchoWrong : ChangeSpec := { name := "stackEcho", fn := fun _ => fun
  | [d] => { results := [.lit (.bool false)], args := [d] }
  | _ => none }
def StackEchoWrongFalsely : Prop := stackEchoRow.holds Try.pinned (OpenSpec.ofChange stackEchoWrong)

/-- 'waferlaw9.StackMoves': WHATEVER THE INPUT: true; the input reads as it did. -/
def stackMovesSpec : ChangeSpec := { name := "stackMoves", fn := fun _ => fun
  | [d1, d2, d3, d4] => { results := [.lit (.bool true)], args := [d1, d2, d3, d4] }
  | _ => none }
def stackMovesRow : OpenClaim := { program := "ytgkdphnhfjjepaa", sum := "23da060665b138190d338ed4b2def9c42456ab2a9ed292a173fe3bc5cc05f837", func := "wafer/waferlaw9.StackMoves", spec := "stackMoves", unfollowed := true, recurses := true, apart := false }
def StackMovesSaid : Prop := stackMovesRow.holds Try.pinned (OpenSpec.ofChange stackMovesSpec)

/-- ITS FALSE NEIGHBOUR: 'it returns false'. Refute it at one input. -/
def stackMovesWrong : ChangeSpec := { name := "stackMoves", fn := fun _ => fun
  | [d1, d2, d3, d4] => { results := [.lit (.bool false)], args := [d1, d2, d3, d4] }
  | _ => none }
def StackMovesWrongFalsely : Prop := stackMovesRow.holds Try.pinned (OpenSpec.ofChange stackMovesWrong)

/-- 'waferlaw9.StackSteps': WHATEVER THE INPUT: true; the input reads as it did. -/
def stackStepsSpec : ChangeSpec := { name := "stackSteps", fn := fun _ => fun
  | [d1, d2, d3, d4, d5] => { results := [.lit (.bool true)], args := [d1, d2, d3, d4, d5] }
  | _ => none }
def stackStepsRow : OpenClaim := { program := "ytgkdphnhfjjepaa", sum := "23da060665b138190d338ed4b2def9c42456ab2a9ed292a173fe3bc5cc05f837", func := "wafer/waferlaw9.StackSteps", spec := "stackSteps", unfollowed := true, recurses := true, apart := false }
def StackStepsSaid : Prop := stackStepsRow.holds Try.pinned (OpenSpec.ofChange stackStepsSpec)

/-- ITS FALSE NEIGHBOUR: 'it returns false'. Refute it at one input. -/
def stackStepsWrong : ChangeSpec := { name := "stackSteps", fn := fun _ => fun
  | [d1, d2, d3, d4, d5] => { results := [.lit (.bool false)], args := [d1, d2, d3, d4, d5] }
  | _ => none }
def StackStepsWrongFalsely : Prop := stackStepsRow.holds Try.pinned (OpenSpec.ofChange stackStepsWrong)

/-- 'waferlaw9.StackRaw': WHATEVER THE INPUT: true; the input reads as it did. -/
def stackRawSpec : ChangeSpec := { name := "stackRaw", fn := fun _ => fun
  | [d1, d2, d3, d4, d5] => { results := [.lit (.bool true)], args := [d1, d2, d3, d4, d5] }
  | _ => none }
def stackRawRow : OpenClaim := { program := "ytgkdphnhfjjepaa", sum := "23da060665b138190d338ed4b2def9c42456ab2a9ed292a173fe3bc5cc05f837", func := "wafer/waferlaw9.StackRaw", spec := "stackRaw", unfollowed := true, recurses := true, apart := false }
def StackRawSaid : Prop := stackRawRow.holds Try.pinned (OpenSpec.ofChange stackRawSpec)

/-- ITS FALSE NEIGHBOUR: 'it returns false'. Refute it at one input. -/
def stackRawWrong : ChangeSpec := { name := "stackRaw", fn := fun _ => fun
  | [d1, d2, d3, d4, d5] => { results := [.lit (.bool false)], args := [d1, d2, d3, d4, d5] }
  | _ => none }
def StackRawWrongFalsely : Prop := stackRawRow.holds Try.pinned (OpenSpec.ofChange stackRawWrong)

/-- 'waferlaw9.StackFrames': WHATEVER THE INPUT: true; the input reads as it did. -/
def stackFramesSpec : ChangeSpec := { name := "stackFrames", fn := fun _ => fun
  | [d1, d2] => { results := [.lit (.bool true)], args := [d1, d2] }
  | _ => none }
def stackFramesRow : OpenClaim := { program := "ytgkdphnhfjjepaa", sum := "23da060665b138190d338ed4b2def9c42456ab2a9ed292a173fe3bc5cc05f837", func := "wafer/waferlaw9.StackFrames", spec := "stackFrames", unfollowed := true, recurses := true, apart := false }
def StackFramesSaid : Prop := stackFramesRow.holds Try.pinned (OpenSpec.ofChange stackFramesSpec)

/-- ITS FALSE NEIGHBOUR: 'it returns false'. Refute it at one input. -/
def stackFramesWrong : ChangeSpec := { name := "stackFrames", fn := fun _ => fun
  | [d1, d2] => { results := [.lit (.bool false)], args := [d1, d2] }
  | _ => none }
def StackFramesWrongFalsely : Prop := stackFramesRow.holds Try.pinned (OpenSpec.ofChange stackFramesWrong)

/-- 'waferlaw9.StackSafe': WHATEVER THE INPUT: true; the input reads as it did. -/
def stackSafeSpec : ChangeSpec := { name := "stackSafe", fn := fun _ => fun
  | [d1, d2, d3] => { results := [.lit (.bool true)], args := [d1, d2, d3] }
  | _ => none }
def stackSafeRow : OpenClaim := { program := "ytgkdphnhfjjepaa", sum := "23da060665b138190d338ed4b2def9c42456ab2a9ed292a173fe3bc5cc05f837", func := "wafer/waferlaw9.StackSafe", spec := "stackSafe", unfollowed := true, recurses := true, apart := false }
def StackSafeSaid : Prop := stackSafeRow.holds Try.pinned (OpenSpec.ofChange stackSafeSpec)

/-- ITS FALSE NEIGHBOUR: 'it returns false'. Refute it at one input. -/
def stackSafeWrong : ChangeSpec := { name := "stackSafe", fn := fun _ => fun
  | [d1, d2, d3] => { results := [.lit (.bool false)], args := [d1, d2, d3] }
  | _ => none }
def StackSafeWrongFalsely : Prop := stackSafeRow.holds Try.pinned (OpenSpec.ofChange stackSafeWrong)

/- THE SECOND FORM. 'bulk': how many values and letters a reading holds, each counted each time it is reached (what is shared counts as often as it is met; a slice's spare places count too). A statement '..UptoSaid' is the law's where the arguments, and the package variables that the reading takes, are together of bulk at most 1048576: NARROWER than '..Said'. Prove '..Said' where nothing that the law and all that it calls make is longer than what came in: it says more and counts as full. Else prove '..UptoSaid'. A law counts once. -/
mutual
def uptoBulk {H : Type} : DataW H → Nat
  | .lit (.string bytes) => bytes.length + 1
  | .lit _ => 1
  | .nil => 1
  | .ptr d => uptoBulk d + 1
  | .slice elems spare => uptoBulkAll elems + uptoBulkAll spare + 1
  | .agg parts => uptoBulkAll parts + 1
  | .iface _ d => uptoBulk d + 1
  | .map entries => uptoBulkEntries entries + 1
  | .held _ => 1
def uptoBulkAll {H : Type} : List (DataW H) → Nat
  | [] => 0
  | d :: r => uptoBulk d + uptoBulkAll r
def uptoBulkEntries {H : Type} : List (Lit × DataW H) → Nat
  | [] => 0
  | x :: r => uptoBulkEntry x + uptoBulkEntries r
def uptoBulkEntry {H : Type} : Lit × DataW H → Nat
  | (.string bytes, d) => bytes.length + uptoBulk d + 1
  | (_, d) => uptoBulk d + 1
 end
def uptoSmall : (H : Type) → List (DataW H) → Bool := fun _ ds => decide (uptoBulkAll ds ≤ 1048576)
def OpenSpec.upto (s : _root_.Go.ChangeSpec) : _root_.Go.OpenSpec := { _root_.Go.OpenSpec.ofChange s with cond := some uptoSmall }

/-- 'waferlaw9.StackFull', WHERE WHAT IT READS IS OF BULK AT MOST 1048576: true; the input reads as it did. -/
def stackFullUptoRow : OpenClaim := { program := "ytgkdphnhfjjepaa", sum := "23da060665b138190d338ed4b2def9c42456ab2a9ed292a173fe3bc5cc05f837", func := "wafer/waferlaw9.StackFull", spec := "stackFull", unfollowed := true, recurses := true, apart := false, narrowed := true }
def StackFullUptoSaid : Prop := stackFullUptoRow.holds Try.pinned (OpenSpec.upto stackFullSpec)

/-- 'waferlaw9.StackReckons', WHERE WHAT IT READS IS OF BULK AT MOST 1048576: true; the input reads as it did. -/
def stackReckonsUptoRow : OpenClaim := { program := "ytgkdphnhfjjepaa", sum := "23da060665b138190d338ed4b2def9c42456ab2a9ed292a173fe3bc5cc05f837", func := "wafer/waferlaw9.StackReckons", spec := "stackReckons", unfollowed := true, recurses := true, apart := false, narrowed := true }
def StackReckonsUptoSaid : Prop := stackReckonsUptoRow.holds Try.pinned (OpenSpec.upto stackReckonsSpec)

/-- 'waferlaw9.StackEcho', WHERE WHAT IT READS IS OF BULK AT MOST 1048576: true; the input reads as it did. -/
def stackEchoUptoRow : OpenClaim := { program := "ytgkdphnhfjjepaa", sum := "23da060665b138190d338ed4b2def9c42456ab2a9ed292a173fe3bc5cc05f837", func := "wafer/waferlaw9.StackEcho", spec := "stackEcho", unfollowed := true, recurses := true, apart := false, narrowed := true }
def StackEchoUptoSaid : Prop := stackEchoUptoRow.holds Try.pinned (OpenSpec.upto stackEchoSpec)

/-- 'waferlaw9.StackMoves', WHERE WHAT IT READS IS OF BULK AT MOST 1048576: true; the input reads as it did. -/
def stackMovesUptoRow : OpenClaim := { program := "ytgkdphnhfjjepaa", sum := "23da060665b138190d338ed4b2def9c42456ab2a9ed292a173fe3bc5cc05f837", func := "wafer/waferlaw9.StackMoves", spec := "stackMoves", unfollowed := true, recurses := true, apart := false, narrowed := true }
def StackMovesUptoSaid : Prop := stackMovesUptoRow.holds Try.pinned (OpenSpec.upto stackMovesSpec)

/-- 'waferlaw9.StackSteps', WHERE WHAT IT READS IS OF BULK AT MOST 1048576: true; the input reads as it did. -/
def stackStepsUptoRow : OpenClaim := { program := "ytgkdphnhfjjepaa", sum := "23da060665b138190d338ed4b2def9c42456ab2a9ed292a173fe3bc5cc05f837", func := "wafer/waferlaw9.StackSteps", spec := "stackSteps", unfollowed := true, recurses := true, apart := false, narrowed := true }
def StackStepsUptoSaid : Prop := stackStepsUptoRow.holds Try.pinned (OpenSpec.upto stackStepsSpec)

/-- 'waferlaw9.StackRaw', WHERE WHAT IT READS IS OF BULK AT MOST 1048576: true; the input reads as it did. -/
def stackRawUptoRow : OpenClaim := { program := "ytgkdphnhfjjepaa", sum := "23da060665b138190d338ed4b2def9c42456ab2a9ed292a173fe3bc5cc05f837", func := "wafer/waferlaw9.StackRaw", spec := "stackRaw", unfollowed := true, recurses := true, apart := false, narrowed := true }
def StackRawUptoSaid : Prop := stackRawUptoRow.holds Try.pinned (OpenSpec.upto stackRawSpec)

/-- 'waferlaw9.StackFrames', WHERE WHAT IT READS IS OF BULK AT MOST 1048576: true; the input reads as it did. -/
def stackFramesUptoRow : OpenClaim := { program := "ytgkdphnhfjjepaa", sum := "23da060665b138190d338ed4b2def9c42456ab2a9ed292a173fe3bc5cc05f837", func := "wafer/waferlaw9.StackFrames", spec := "stackFrames", unfollowed := true, recurses := true, apart := false, narrowed := true }
def StackFramesUptoSaid : Prop := stackFramesUptoRow.holds Try.pinned (OpenSpec.upto stackFramesSpec)

/-- 'waferlaw9.StackSafe', WHERE WHAT IT READS IS OF BULK AT MOST 1048576: true; the input reads as it did. -/
def stackSafeUptoRow : OpenClaim := { program := "ytgkdphnhfjjepaa", sum := "23da060665b138190d338ed4b2def9c42456ab2a9ed292a173fe3bc5cc05f837", func := "wafer/waferlaw9.StackSafe", spec := "stackSafe", unfollowed := true, recurses := true, apart := false, narrowed := true }
def StackSafeUptoSaid : Prop := stackSafeUptoRow.holds Try.pinned (OpenSpec.upto stackSafeSpec)

end Rows
end Go.Proofs.Ytgkdphnhfjjepaa
