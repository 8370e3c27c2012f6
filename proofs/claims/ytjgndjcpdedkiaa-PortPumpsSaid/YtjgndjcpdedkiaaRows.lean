/-
  No cell of these rows narrows 'for every input' (looked for: loops, veiled, ifaces, maps, wideKeys, modest, calm, conditions, laid).
  DERIVED. THE GIVEN ROWS OF THIS SEAT. 12 by the template 'for every input the law returns true; each argument reads behind the call as it read before'; 0 by the template 'total and deterministic' (their statements: YtjgndjcpdedkiaaTotals.lean).
  GIVEN WITH THE SEED: the statements are not yours to turn. If you find one false, say at which input.
  Laid BY PROGRAM, IN A SANDBOX (cutbox-rows.mjs): the forced cells as the released guide's own fill.sh prints them over the translation 94650d3666daa0ee… (all of the seat's roots in one cut). By AI agents, Wed Nov 11 2026. No macro, syntax, notation, axiom, sorry.
-/
import Derived.Test.YtjgndjcpdedkiaaChecked
import GoSem.Claim
import GoSem.ClaimJoined
import GoSem.ClaimMapViews
import Derived.JoinedTies
import Derived.KernelRfl
namespace Go.Proofs.Ytjgndjcpdedkiaa
/- THE CELL 'sum', in the pinned program and in every row, IS THE sha256 OF THE DUMP (.gsa) THAT YtjgndjcpdedkiaaProg.lean LOADS. Nothing in Lean hashes anything: it is a label: what it is worth is what the hold of that sum in a sandbox is worth. -/
noncomputable def Try.pinned : Pinned := { name := "ytjgndjcpdedkiaa", sum := "94650d3666daa0ee516a2e2a563a94c769b63ce42df88243f14bb96664fd16ec", checked := Try.checked }
namespace Rows
def none {H : Type} : Left H := { results := [], args := [] }

/-- 'waferlaw10.PortPicks': WHATEVER THE INPUT: true; the input reads as it did. -/
def portPicksSpec : ChangeSpec := { name := "portPicks", fn := fun _ => fun
  | [d1, d2, d3, d4] => { results := [.lit (.bool true)], args := [d1, d2, d3, d4] }
  | _ => none }
def portPicksRow : OpenClaim := { program := "ytjgndjcpdedkiaa", sum := "94650d3666daa0ee516a2e2a563a94c769b63ce42df88243f14bb96664fd16ec", func := "wafer/waferlaw10.PortPicks", spec := "portPicks", apart := false }
def PortPicksSaid : Prop := portPicksRow.holds Try.pinned (OpenSpec.ofChange portPicksSpec)

/-- ITS FALSE NEIGHBOUR: 'it returns false'. Refute it at one input. -/
def portPicksWrong : ChangeSpec := { name := "portPicks", fn := fun _ => fun
  | [d1, d2, d3, d4] => { results := [.lit (.bool false)], args := [d1, d2, d3, d4] }
  | _ => none }
def PortPicksWrongFalsely : Prop := portPicksRow.holds Try.pinned (OpenSpec.ofChange portPicksWrong)

/-- 'waferlaw10.PortPlays': WHATEVER THE INPUT: true; the input reads as it did. -/
def portPlaysSpec : ChangeSpec := { name := "portPlays", fn := fun _ => fun
  | [d1, d2] => { results := [.lit (.bool true)], args := [d1, d2] }
  | _ => none }
def portPlaysRow : OpenClaim := { program := "ytjgndjcpdedkiaa", sum := "94650d3666daa0ee516a2e2a563a94c769b63ce42df88243f14bb96664fd16ec", func := "wafer/waferlaw10.PortPlays", spec := "portPlays", apart := false }
def PortPlaysSaid : Prop := portPlaysRow.holds Try.pinned (OpenSpec.ofChange portPlaysSpec)

/-- ITS FALSE NEIGHBOUR: 'it returns false'. Refute it at one input. -/
def portPlaysWrong : ChangeSpec := { name := "portPlays", fn := fun _ => fun
  | [d1, d2] => { results := [.lit (.bool false)], args := [d1, d2] }
  | _ => none }
def PortPlaysWrongFalsely : Prop := portPlaysRow.holds Try.pinned (OpenSpec.ofChange portPlaysWrong)

/-- 'waferlaw3.ArithParts': WHATEVER THE INPUT: true; the input reads as it did. -/
def arithPartsSpec : ChangeSpec := { name := "arithParts", fn := fun _ => fun
  | [d1, d2, d3] => { results := [.lit (.bool true)], args := [d1, d2, d3] }
  | _ => none }
def arithPartsRow : OpenClaim := { program := "ytjgndjcpdedkiaa", sum := "94650d3666daa0ee516a2e2a563a94c769b63ce42df88243f14bb96664fd16ec", func := "wafer/waferlaw3.ArithParts", spec := "arithParts", apart := false }
def ArithPartsSaid : Prop := arithPartsRow.holds Try.pinned (OpenSpec.ofChange arithPartsSpec)

/-- ITS FALSE NEIGHBOUR: 'it returns false'. Refute it at one input. -/
def arithPartsWrong : ChangeSpec := { name := "arithParts", fn := fun _ => fun
  | [d1, d2, d3] => { results := [.lit (.bool false)], args := [d1, d2, d3] }
  | _ => none }
def ArithPartsWrongFalsely : Prop := arithPartsRow.holds Try.pinned (OpenSpec.ofChange arithPartsWrong)

/-- 'waferlaw2.VarBack': WHATEVER THE INPUT: true; the input reads as it did. -/
def varBackSpec : ChangeSpec := { name := "varBack", fn := fun _ => fun
  | [d1, d2, d3, d4] => { results := [.lit (.bool true)], args := [d1, d2, d3, d4] }
  | _ => none }
def varBackRow : OpenClaim := { program := "ytjgndjcpdedkiaa", sum := "94650d3666daa0ee516a2e2a563a94c769b63ce42df88243f14bb96664fd16ec", func := "wafer/waferlaw2.VarBack", spec := "varBack", apart := false }
def VarBackSaid : Prop := varBackRow.holds Try.pinned (OpenSpec.ofChange varBackSpec)

/-- ITS FALSE NEIGHBOUR: 'it returns false'. Refute it at one input. -/
def varBackWrong : ChangeSpec := { name := "varBack", fn := fun _ => fun
  | [d1, d2, d3, d4] => { results := [.lit (.bool false)], args := [d1, d2, d3, d4] }
  | _ => none }
def VarBackWrongFalsely : Prop := varBackRow.holds Try.pinned (OpenSpec.ofChange varBackWrong)

/-- 'waferlaw2.VarReads': WHATEVER THE INPUT: true; the input reads as it did. -/
def varReadsSpec : ChangeSpec := { name := "varReads", fn := fun _ => fun
  | [d1, d2, d3, d4] => { results := [.lit (.bool true)], args := [d1, d2, d3, d4] }
  | _ => none }
def varReadsRow : OpenClaim := { program := "ytjgndjcpdedkiaa", sum := "94650d3666daa0ee516a2e2a563a94c769b63ce42df88243f14bb96664fd16ec", func := "wafer/waferlaw2.VarReads", spec := "varReads", apart := false }
def VarReadsSaid : Prop := varReadsRow.holds Try.pinned (OpenSpec.ofChange varReadsSpec)

/-- ITS FALSE NEIGHBOUR: 'it returns false'. Refute it at one input. -/
def varReadsWrong : ChangeSpec := { name := "varReads", fn := fun _ => fun
  | [d1, d2, d3, d4] => { results := [.lit (.bool false)], args := [d1, d2, d3, d4] }
  | _ => none }
def VarReadsWrongFalsely : Prop := varReadsRow.holds Try.pinned (OpenSpec.ofChange varReadsWrong)

/-- 'waferlaw2.VarFew': WHATEVER THE INPUT: true; the input reads as it did. -/
def varFewSpec : ChangeSpec := { name := "varFew", fn := fun _ => fun
  | [d1, d2, d3] => { results := [.lit (.bool true)], args := [d1, d2, d3] }
  | _ => none }
def varFewRow : OpenClaim := { program := "ytjgndjcpdedkiaa", sum := "94650d3666daa0ee516a2e2a563a94c769b63ce42df88243f14bb96664fd16ec", func := "wafer/waferlaw2.VarFew", spec := "varFew", apart := false }
def VarFewSaid : Prop := varFewRow.holds Try.pinned (OpenSpec.ofChange varFewSpec)

/-- ITS FALSE NEIGHBOUR: 'it returns false'. Refute it at one input. -/
def varFewWrong : ChangeSpec := { name := "varFew", fn := fun _ => fun
  | [d1, d2, d3] => { results := [.lit (.bool false)], args := [d1, d2, d3] }
  | _ => none }
def VarFewWrongFalsely : Prop := varFewRow.holds Try.pinned (OpenSpec.ofChange varFewWrong)

/-- 'waferlaw2.VarSigned': WHATEVER THE INPUT: true; the input reads as it did. -/
def varSignedSpec : ChangeSpec := { name := "varSigned", fn := fun _ => fun
  | [d] => { results := [.lit (.bool true)], args := [d] }
  | _ => none }
def varSignedRow : OpenClaim := { program := "ytjgndjcpdedkiaa", sum := "94650d3666daa0ee516a2e2a563a94c769b63ce42df88243f14bb96664fd16ec", func := "wafer/waferlaw2.VarSigned", spec := "varSigned", apart := false }
def VarSignedSaid : Prop := varSignedRow.holds Try.pinned (OpenSpec.ofChange varSignedSpec)

/-- ITS FALSE NEIGHBOUR: 'it returns false'. Refute it at one input. -/
def varSignedWrong : ChangeSpec := { name := "varSigned", fn := fun _ => fun
  | [d] => { results := [.lit (.bool false)], args := [d] }
  | _ => none }
def VarSignedWrongFalsely : Prop := varSignedRow.holds Try.pinned (OpenSpec.ofChange varSignedWrong)

/-- 'waferlaw3.ArithInts': WHATEVER THE INPUT: true; the input reads as it did. -/
def arithIntsSpec : ChangeSpec := { name := "arithInts", fn := fun _ => fun
  | [d1, d2] => { results := [.lit (.bool true)], args := [d1, d2] }
  | _ => none }
def arithIntsRow : OpenClaim := { program := "ytjgndjcpdedkiaa", sum := "94650d3666daa0ee516a2e2a563a94c769b63ce42df88243f14bb96664fd16ec", func := "wafer/waferlaw3.ArithInts", spec := "arithInts", apart := false }
def ArithIntsSaid : Prop := arithIntsRow.holds Try.pinned (OpenSpec.ofChange arithIntsSpec)

/-- ITS FALSE NEIGHBOUR: 'it returns false'. Refute it at one input. -/
def arithIntsWrong : ChangeSpec := { name := "arithInts", fn := fun _ => fun
  | [d1, d2] => { results := [.lit (.bool false)], args := [d1, d2] }
  | _ => none }
def ArithIntsWrongFalsely : Prop := arithIntsRow.holds Try.pinned (OpenSpec.ofChange arithIntsWrong)

/-- 'waferlaw3.ArithSets': WHATEVER THE INPUT: true; the input reads as it did. -/
def arithSetsSpec : ChangeSpec := { name := "arithSets", fn := fun _ => fun
  | [d1, d2, d3, d4] => { results := [.lit (.bool true)], args := [d1, d2, d3, d4] }
  | _ => none }
def arithSetsRow : OpenClaim := { program := "ytjgndjcpdedkiaa", sum := "94650d3666daa0ee516a2e2a563a94c769b63ce42df88243f14bb96664fd16ec", func := "wafer/waferlaw3.ArithSets", spec := "arithSets", apart := false }
def ArithSetsSaid : Prop := arithSetsRow.holds Try.pinned (OpenSpec.ofChange arithSetsSpec)

/-- ITS FALSE NEIGHBOUR: 'it returns false'. Refute it at one input. -/
def arithSetsWrong : ChangeSpec := { name := "arithSets", fn := fun _ => fun
  | [d1, d2, d3, d4] => { results := [.lit (.bool false)], args := [d1, d2, d3, d4] }
  | _ => none }
def ArithSetsWrongFalsely : Prop := arithSetsRow.holds Try.pinned (OpenSpec.ofChange arithSetsWrong)

/-- 'waferlaw3.ArithShifts': WHATEVER THE INPUT: true; the input reads as it did. -/
def arithShiftsSpec : ChangeSpec := { name := "arithShifts", fn := fun _ => fun
  | [d1, d2] => { results := [.lit (.bool true)], args := [d1, d2] }
  | _ => none }
def arithShiftsRow : OpenClaim := { program := "ytjgndjcpdedkiaa", sum := "94650d3666daa0ee516a2e2a563a94c769b63ce42df88243f14bb96664fd16ec", func := "wafer/waferlaw3.ArithShifts", spec := "arithShifts", apart := false }
def ArithShiftsSaid : Prop := arithShiftsRow.holds Try.pinned (OpenSpec.ofChange arithShiftsSpec)

/-- ITS FALSE NEIGHBOUR: 'it returns false'. Refute it at one input. -/
def arithShiftsWrong : ChangeSpec := { name := "arithShifts", fn := fun _ => fun
  | [d1, d2] => { results := [.lit (.bool false)], args := [d1, d2] }
  | _ => none }
def ArithShiftsWrongFalsely : Prop := arithShiftsRow.holds Try.pinned (OpenSpec.ofChange arithShiftsWrong)

/-- 'waferlaw3.ArithRounds': WHATEVER THE INPUT: true; the input reads as it did. -/
def arithRoundsSpec : ChangeSpec := { name := "arithRounds", fn := fun _ => fun
  | [d1, d2] => { results := [.lit (.bool true)], args := [d1, d2] }
  | _ => none }
def arithRoundsRow : OpenClaim := { program := "ytjgndjcpdedkiaa", sum := "94650d3666daa0ee516a2e2a563a94c769b63ce42df88243f14bb96664fd16ec", func := "wafer/waferlaw3.ArithRounds", spec := "arithRounds", apart := false }
def ArithRoundsSaid : Prop := arithRoundsRow.holds Try.pinned (OpenSpec.ofChange arithRoundsSpec)

/-- ITS FALSE NEIGHBOUR: 'it returns false'. Refute it at one input. -/
def arithRoundsWrong : ChangeSpec := { name := "arithRounds", fn := fun _ => fun
  | [d1, d2] => { results := [.lit (.bool false)], args := [d1, d2] }
  | _ => none }
def ArithRoundsWrongFalsely : Prop := arithRoundsRow.holds Try.pinned (OpenSpec.ofChange arithRoundsWrong)

/-- 'waferlaw10.PortPumps': WHATEVER THE INPUT: true; the input reads as it did. -/
def portPumpsSpec : ChangeSpec := { name := "portPumps", fn := fun _ => fun
  | [d1, d2, d3, d4, d5, d6, d7] => { results := [.lit (.bool true)], args := [d1, d2, d3, d4, d5, d6, d7] }
  | _ => none }
def portPumpsRow : OpenClaim := { program := "ytjgndjcpdedkiaa", sum := "94650d3666daa0ee516a2e2a563a94c769b63ce42df88243f14bb96664fd16ec", func := "wafer/waferlaw10.PortPumps", spec := "portPumps", apart := false }
def PortPumpsSaid : Prop := portPumpsRow.holds Try.pinned (OpenSpec.ofChange portPumpsSpec)

/-- ITS FALSE NEIGHBOUR: 'it returns false'. Refute it at one input. -/
def portPumpsWrong : ChangeSpec := { name := "portPumps", fn := fun _ => fun
  | [d1, d2, d3, d4, d5, d6, d7] => { results := [.lit (.bool false)], args := [d1, d2, d3, d4, d5, d6, d7] }
  | _ => none }
def PortPumpsWrongFalsely : Prop := portPumpsRow.holds Try.pinned (OpenSpec.ofChange portPumpsWrong)

/- THE SECOND FORM. 'bulk': how many values and letters a reading holds, each counted each time it is reached (what is shared counts as often as it is met; a slice's spare places count too). A statement '..UptoSaid' is the law's where the arguments, and the package variables that the reading takes, are together of bulk at most 1048576: NARROWER than '..Said'. Prove '..Said' where nothing that the law and all that it calls make is longer than what came in: it says more and counts as full. Else prove '..UptoSaid'. A law counts once. -/
mutual
def uptoBulk {H : Type} : DataW H → Nat
  | .lit (.string bytes) => bytes.length + 1
  | .lit _ => 1
  | .nil => 1
  | .ptr d => uptoBulk d + 1
  | .slice elems spare => uptoBulkAll elems + uptoBulkAll spare + 1
  | .agg parts => uptoBulkAll parts + 1
  | .iface _ d => uptoBulk d + 1
  | .map entries => uptoBulkEntries entries + 1
  | .held _ => 1
def uptoBulkAll {H : Type} : List (DataW H) → Nat
  | [] => 0
  | d :: r => uptoBulk d + uptoBulkAll r
def uptoBulkEntries {H : Type} : List (Lit × DataW H) → Nat
  | [] => 0
  | x :: r => uptoBulkEntry x + uptoBulkEntries r
def uptoBulkEntry {H : Type} : Lit × DataW H → Nat
  | (.string bytes, d) => bytes.length + uptoBulk d + 1
  | (_, d) => uptoBulk d + 1
 end
def uptoSmall : (H : Type) → List (DataW H) → Bool := fun _ ds => decide (uptoBulkAll ds ≤ 1048576)
def OpenSpec.upto (s : _root_.Go.ChangeSpec) : _root_.Go.OpenSpec := { _root_.Go.OpenSpec.ofChange s with cond := some uptoSmall }

/-- 'waferlaw10.PortPicks', WHERE WHAT IT READS IS OF BULK AT MOST 1048576: true; the input reads as it did. -/
def portPicksUptoRow : OpenClaim := { program := "ytjgndjcpdedkiaa", sum := "94650d3666daa0ee516a2e2a563a94c769b63ce42df88243f14bb96664fd16ec", func := "wafer/waferlaw10.PortPicks", spec := "portPicks", apart := false, narrowed := true }
def PortPicksUptoSaid : Prop := portPicksUptoRow.holds Try.pinned (OpenSpec.upto portPicksSpec)

/-- 'waferlaw10.PortPlays', WHERE WHAT IT READS IS OF BULK AT MOST 1048576: true; the input reads as it did. -/
def portPlaysUptoRow : OpenClaim := { program := "ytjgndjcpdedkiaa", sum := "94650d3666daa0ee516a2e2a563a94c769b63ce42df88243f14bb96664fd16ec", func := "wafer/waferlaw10.PortPlays", spec := "portPlays", apart := false, narrowed := true }
def PortPlaysUptoSaid : Prop := portPlaysUptoRow.holds Try.pinned (OpenSpec.upto portPlaysSpec)

/-- 'waferlaw3.ArithParts', WHERE WHAT IT READS IS OF BULK AT MOST 1048576: true; the input reads as it did. -/
def arithPartsUptoRow : OpenClaim := { program := "ytjgndjcpdedkiaa", sum := "94650d3666daa0ee516a2e2a563a94c769b63ce42df88243f14bb96664fd16ec", func := "wafer/waferlaw3.ArithParts", spec := "arithParts", apart := false, narrowed := true }
def ArithPartsUptoSaid : Prop := arithPartsUptoRow.holds Try.pinned (OpenSpec.upto arithPartsSpec)

/-- 'waferlaw2.VarBack', WHERE WHAT IT READS IS OF BULK AT MOST 1048576: true; the input reads as it did. -/
def varBackUptoRow : OpenClaim := { program := "ytjgndjcpdedkiaa", sum := "94650d3666daa0ee516a2e2a563a94c769b63ce42df88243f14bb96664fd16ec", func := "wafer/waferlaw2.VarBack", spec := "varBack", apart := false, narrowed := true }
def VarBackUptoSaid : Prop := varBackUptoRow.holds Try.pinned (OpenSpec.upto varBackSpec)

/-- 'waferlaw2.VarReads', WHERE WHAT IT READS IS OF BULK AT MOST 1048576: true; the input reads as it did. -/
def varReadsUptoRow : OpenClaim := { program := "ytjgndjcpdedkiaa", sum := "94650d3666daa0ee516a2e2a563a94c769b63ce42df88243f14bb96664fd16ec", func := "wafer/waferlaw2.VarReads", spec := "varReads", apart := false, narrowed := true }
def VarReadsUptoSaid : Prop := varReadsUptoRow.holds Try.pinned (OpenSpec.upto varReadsSpec)

/-- 'waferlaw2.VarFew', WHERE WHAT IT READS IS OF BULK AT MOST 1048576: true; the input reads as it did. -/
def varFewUptoRow : OpenClaim := { program := "ytjgndjcpdedkiaa", sum := "94650d3666daa0ee516a2e2a563a94c769b63ce42df88243f14bb96664fd16ec", func := "wafer/waferlaw2.VarFew", spec := "varFew", apart := false, narrowed := true }
def VarFewUptoSaid : Prop := varFewUptoRow.holds Try.pinned (OpenSpec.upto varFewSpec)

/-- 'waferlaw2.VarSigned', WHERE WHAT IT READS IS OF BULK AT MOST 1048576: true; the input reads as it did. -/
def varSignedUptoRow : OpenClaim := { program := "ytjgndjcpdedkiaa", sum := "94650d3666daa0ee516a2e2a563a94c769b63ce42df88243f14bb96664fd16ec", func := "wafer/waferlaw2.VarSigned", spec := "varSigned", apart := false, narrowed := true }
def VarSignedUptoSaid : Prop := varSignedUptoRow.holds Try.pinned (OpenSpec.upto varSignedSpec)

/-- 'waferlaw3.ArithInts', WHERE WHAT IT READS IS OF BULK AT MOST 1048576: true; the input reads as it did. -/
def arithIntsUptoRow : OpenClaim := { program := "ytjgndjcpdedkiaa", sum := "94650d3666daa0ee516a2e2a563a94c769b63ce42df88243f14bb96664fd16ec", func := "wafer/waferlaw3.ArithInts", spec := "arithInts", apart := false, narrowed := true }
def ArithIntsUptoSaid : Prop := arithIntsUptoRow.holds Try.pinned (OpenSpec.upto arithIntsSpec)

/-- 'waferlaw3.ArithSets', WHERE WHAT IT READS IS OF BULK AT MOST 1048576: true; the input reads as it did. -/
def arithSetsUptoRow : OpenClaim := { program := "ytjgndjcpdedkiaa", sum := "94650d3666daa0ee516a2e2a563a94c769b63ce42df88243f14bb96664fd16ec", func := "wafer/waferlaw3.ArithSets", spec := "arithSets", apart := false, narrowed := true }
def ArithSetsUptoSaid : Prop := arithSetsUptoRow.holds Try.pinned (OpenSpec.upto arithSetsSpec)

/-- 'waferlaw3.ArithShifts', WHERE WHAT IT READS IS OF BULK AT MOST 1048576: true; the input reads as it did. -/
def arithShiftsUptoRow : OpenClaim := { program := "ytjgndjcpdedkiaa", sum := "94650d3666daa0ee516a2e2a563a94c769b63ce42df88243f14bb96664fd16ec", func := "wafer/waferlaw3.ArithShifts", spec := "arithShifts", apart := false, narrowed := true }
def ArithShiftsUptoSaid : Prop := arithShiftsUptoRow.holds Try.pinned (OpenSpec.upto arithShiftsSpec)

/-- 'waferlaw3.ArithRounds', WHERE WHAT IT READS IS OF BULK AT MOST 1048576: true; the input reads as it did. -/
def arithRoundsUptoRow : OpenClaim := { program := "ytjgndjcpdedkiaa", sum := "94650d3666daa0ee516a2e2a563a94c769b63ce42df88243f14bb96664fd16ec", func := "wafer/waferlaw3.ArithRounds", spec := "arithRounds", apart := false, narrowed := true }
def ArithRoundsUptoSaid : Prop := arithRoundsUptoRow.holds Try.pinned (OpenSpec.upto arithRoundsSpec)

/-- 'waferlaw10.PortPumps', WHERE WHAT IT READS IS OF BULK AT MOST 1048576: true; the input reads as it did. -/
def portPumpsUptoRow : OpenClaim := { program := "ytjgndjcpdedkiaa", sum := "94650d3666daa0ee516a2e2a563a94c769b63ce42df88243f14bb96664fd16ec", func := "wafer/waferlaw10.PortPumps", spec := "portPumps", apart := false, narrowed := true }
def PortPumpsUptoSaid : Prop := portPumpsUptoRow.holds Try.pinned (OpenSpec.upto portPumpsSpec)

end Rows
end Go.Proofs.Ytjgndjcpdedkiaa
