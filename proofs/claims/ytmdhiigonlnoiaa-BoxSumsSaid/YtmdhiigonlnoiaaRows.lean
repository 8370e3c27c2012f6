/-
  No cell of these rows narrows 'for every input' (looked for: loops, veiled, ifaces, maps, wideKeys, modest, calm, conditions, laid).
  DERIVED. THE GIVEN ROWS OF THIS SEAT. 12 by the template 'for every input the law returns true; each argument reads behind the call as it read before'; 0 by the template 'total and deterministic' (their statements: YtmdhiigonlnoiaaTotals.lean).
  GIVEN WITH THE SEED: the statements are not yours to turn. If you find one false, say at which input.
  Laid BY PROGRAM, IN A SANDBOX (cutbox-rows.mjs): the forced cells as the released guide's own fill.sh prints them over the translation af00e71d8ebdcb7e… (all of the seat's roots in one cut). By AI agents, Wed Nov 11 2026. No macro, syntax, notation, axiom, sorry.
-/
import Derived.Test.YtmdhiigonlnoiaaChecked
import GoSem.Claim
import GoSem.ClaimJoined
import GoSem.ClaimMapViews
import Derived.JoinedTies
import Derived.KernelRfl
namespace Go.Proofs.Ytmdhiigonlnoiaa
/- THE CELL 'sum', in the pinned program and in every row, IS THE sha256 OF THE DUMP (.gsa) THAT YtmdhiigonlnoiaaProg.lean LOADS. Nothing in Lean hashes anything: it is a label: what it is worth is what the hold of that sum in a sandbox is worth. -/
noncomputable def Try.pinned : Pinned := { name := "ytmdhiigonlnoiaa", sum := "af00e71d8ebdcb7e0597c62beaf0d04835fdc31e03e76192950ef3309c9daf29", checked := Try.checked }
namespace Rows
def none {H : Type} : Left H := { results := [], args := [] }

/-- 'waferlaw1.BitsWritten': WHATEVER THE INPUT: true; the input reads as it did. -/
def bitsWrittenSpec : ChangeSpec := { name := "bitsWritten", fn := fun _ => fun
  | [d] => { results := [.lit (.bool true)], args := [d] }
  | _ => none }
def bitsWrittenRow : OpenClaim := { program := "ytmdhiigonlnoiaa", sum := "af00e71d8ebdcb7e0597c62beaf0d04835fdc31e03e76192950ef3309c9daf29", func := "wafer/waferlaw1.BitsWritten", spec := "bitsWritten", apart := false }
def BitsWrittenSaid : Prop := bitsWrittenRow.holds Try.pinned (OpenSpec.ofChange bitsWrittenSpec)

/-- ITS FALSE NEIGHBOUR: 'it returns false'. Refute it at one input. -/
def bitsWrittenWrong : ChangeSpec := { name := "bitsWritten", fn := fun _ => fun
  | [d] => { results := [.lit (.bool false)], args := [d] }
  | _ => none }
def BitsWrittenWrongFalsely : Prop := bitsWrittenRow.holds Try.pinned (OpenSpec.ofChange bitsWrittenWrong)

/-- 'waferlaw1.BitsRead': WHATEVER THE INPUT: true; the input reads as it did. -/
def bitsReadSpec : ChangeSpec := { name := "bitsRead", fn := fun _ => fun
  | [d1, d2] => { results := [.lit (.bool true)], args := [d1, d2] }
  | _ => none }
def bitsReadRow : OpenClaim := { program := "ytmdhiigonlnoiaa", sum := "af00e71d8ebdcb7e0597c62beaf0d04835fdc31e03e76192950ef3309c9daf29", func := "wafer/waferlaw1.BitsRead", spec := "bitsRead", apart := false }
def BitsReadSaid : Prop := bitsReadRow.holds Try.pinned (OpenSpec.ofChange bitsReadSpec)

/-- ITS FALSE NEIGHBOUR: 'it returns false'. Refute it at one input. -/
def bitsReadWrong : ChangeSpec := { name := "bitsRead", fn := fun _ => fun
  | [d1, d2] => { results := [.lit (.bool false)], args := [d1, d2] }
  | _ => none }
def BitsReadWrongFalsely : Prop := bitsReadRow.holds Try.pinned (OpenSpec.ofChange bitsReadWrong)

/-- 'waferlaw1.BitsBack': WHATEVER THE INPUT: true; the input reads as it did. -/
def bitsBackSpec : ChangeSpec := { name := "bitsBack", fn := fun _ => fun
  | [d] => { results := [.lit (.bool true)], args := [d] }
  | _ => none }
def bitsBackRow : OpenClaim := { program := "ytmdhiigonlnoiaa", sum := "af00e71d8ebdcb7e0597c62beaf0d04835fdc31e03e76192950ef3309c9daf29", func := "wafer/waferlaw1.BitsBack", spec := "bitsBack", apart := false }
def BitsBackSaid : Prop := bitsBackRow.holds Try.pinned (OpenSpec.ofChange bitsBackSpec)

/-- ITS FALSE NEIGHBOUR: 'it returns false'. Refute it at one input. -/
def bitsBackWrong : ChangeSpec := { name := "bitsBack", fn := fun _ => fun
  | [d] => { results := [.lit (.bool false)], args := [d] }
  | _ => none }
def BitsBackWrongFalsely : Prop := bitsBackRow.holds Try.pinned (OpenSpec.ofChange bitsBackWrong)

/-- 'waferlaw1.BitsBytes': WHATEVER THE INPUT: true; the input reads as it did. -/
def bitsBytesSpec : ChangeSpec := { name := "bitsBytes", fn := fun _ => fun
  | [d1, d2] => { results := [.lit (.bool true)], args := [d1, d2] }
  | _ => none }
def bitsBytesRow : OpenClaim := { program := "ytmdhiigonlnoiaa", sum := "af00e71d8ebdcb7e0597c62beaf0d04835fdc31e03e76192950ef3309c9daf29", func := "wafer/waferlaw1.BitsBytes", spec := "bitsBytes", apart := false }
def BitsBytesSaid : Prop := bitsBytesRow.holds Try.pinned (OpenSpec.ofChange bitsBytesSpec)

/-- ITS FALSE NEIGHBOUR: 'it returns false'. Refute it at one input. -/
def bitsBytesWrong : ChangeSpec := { name := "bitsBytes", fn := fun _ => fun
  | [d1, d2] => { results := [.lit (.bool false)], args := [d1, d2] }
  | _ => none }
def BitsBytesWrongFalsely : Prop := bitsBytesRow.holds Try.pinned (OpenSpec.ofChange bitsBytesWrong)

/-- 'waferlaw19.MtfPlays': WHATEVER THE INPUT: true; the input reads as it did. -/
def mtfPlaysSpec : ChangeSpec := { name := "mtfPlays", fn := fun _ => fun
  | [d1, d2, d3] => { results := [.lit (.bool true)], args := [d1, d2, d3] }
  | _ => none }
def mtfPlaysRow : OpenClaim := { program := "ytmdhiigonlnoiaa", sum := "af00e71d8ebdcb7e0597c62beaf0d04835fdc31e03e76192950ef3309c9daf29", func := "wafer/waferlaw19.MtfPlays", spec := "mtfPlays", apart := false }
def MtfPlaysSaid : Prop := mtfPlaysRow.holds Try.pinned (OpenSpec.ofChange mtfPlaysSpec)

/-- ITS FALSE NEIGHBOUR: 'it returns false'. Refute it at one input. -/
def mtfPlaysWrong : ChangeSpec := { name := "mtfPlays", fn := fun _ => fun
  | [d1, d2, d3] => { results := [.lit (.bool false)], args := [d1, d2, d3] }
  | _ => none }
def MtfPlaysWrongFalsely : Prop := mtfPlaysRow.holds Try.pinned (OpenSpec.ofChange mtfPlaysWrong)

/-- 'waferlaw19.MtfBack': WHATEVER THE INPUT: true; the input reads as it did. -/
def mtfBackSpec : ChangeSpec := { name := "mtfBack", fn := fun _ => fun
  | [d1, d2] => { results := [.lit (.bool true)], args := [d1, d2] }
  | _ => none }
def mtfBackRow : OpenClaim := { program := "ytmdhiigonlnoiaa", sum := "af00e71d8ebdcb7e0597c62beaf0d04835fdc31e03e76192950ef3309c9daf29", func := "wafer/waferlaw19.MtfBack", spec := "mtfBack", apart := false }
def MtfBackSaid : Prop := mtfBackRow.holds Try.pinned (OpenSpec.ofChange mtfBackSpec)

/-- ITS FALSE NEIGHBOUR: 'it returns false'. Refute it at one input. -/
def mtfBackWrong : ChangeSpec := { name := "mtfBack", fn := fun _ => fun
  | [d1, d2] => { results := [.lit (.bool false)], args := [d1, d2] }
  | _ => none }
def MtfBackWrongFalsely : Prop := mtfBackRow.holds Try.pinned (OpenSpec.ofChange mtfBackWrong)

/-- 'waferlaw24.OrderTells': WHATEVER THE INPUT: true; the input reads as it did. -/
def orderTellsSpec : ChangeSpec := { name := "orderTells", fn := fun _ => fun
  | [d1, d2, d3, d4] => { results := [.lit (.bool true)], args := [d1, d2, d3, d4] }
  | _ => none }
def orderTellsRow : OpenClaim := { program := "ytmdhiigonlnoiaa", sum := "af00e71d8ebdcb7e0597c62beaf0d04835fdc31e03e76192950ef3309c9daf29", func := "wafer/waferlaw24.OrderTells", spec := "orderTells", recurses := true, apart := false }
def OrderTellsSaid : Prop := orderTellsRow.holds Try.pinned (OpenSpec.ofChange orderTellsSpec)

/-- ITS FALSE NEIGHBOUR: 'it returns false'. Refute it at one input. -/
def orderTellsWrong : ChangeSpec := { name := "orderTells", fn := fun _ => fun
  | [d1, d2, d3, d4] => { results := [.lit (.bool false)], args := [d1, d2, d3, d4] }
  | _ => none }
def OrderTellsWrongFalsely : Prop := orderTellsRow.holds Try.pinned (OpenSpec.ofChange orderTellsWrong)

/-- 'waferlaw24.OrderStands': WHATEVER THE INPUT: true; the input reads as it did. -/
def orderStandsSpec : ChangeSpec := { name := "orderStands", fn := fun _ => fun
  | [d] => { results := [.lit (.bool true)], args := [d] }
  | _ => none }
def orderStandsRow : OpenClaim := { program := "ytmdhiigonlnoiaa", sum := "af00e71d8ebdcb7e0597c62beaf0d04835fdc31e03e76192950ef3309c9daf29", func := "wafer/waferlaw24.OrderStands", spec := "orderStands", recurses := true, apart := false }
def OrderStandsSaid : Prop := orderStandsRow.holds Try.pinned (OpenSpec.ofChange orderStandsSpec)

/-- ITS FALSE NEIGHBOUR: 'it returns false'. Refute it at one input. -/
def orderStandsWrong : ChangeSpec := { name := "orderStands", fn := fun _ => fun
  | [d] => { results := [.lit (.bool false)], args := [d] }
  | _ => none }
def OrderStandsWrongFalsely : Prop := orderStandsRow.holds Try.pinned (OpenSpec.ofChange orderStandsWrong)

/-- 'waferlaw4.BoxBack': WHATEVER THE INPUT: true; the input reads as it did. -/
def boxBackSpec : ChangeSpec := { name := "boxBack", fn := fun _ => fun
  | [d1, d2] => { results := [.lit (.bool true)], args := [d1, d2] }
  | _ => none }
def boxBackRow : OpenClaim := { program := "ytmdhiigonlnoiaa", sum := "af00e71d8ebdcb7e0597c62beaf0d04835fdc31e03e76192950ef3309c9daf29", func := "wafer/waferlaw4.BoxBack", spec := "boxBack", apart := false }
def BoxBackSaid : Prop := boxBackRow.holds Try.pinned (OpenSpec.ofChange boxBackSpec)

/-- ITS FALSE NEIGHBOUR: 'it returns false'. Refute it at one input. -/
def boxBackWrong : ChangeSpec := { name := "boxBack", fn := fun _ => fun
  | [d1, d2] => { results := [.lit (.bool false)], args := [d1, d2] }
  | _ => none }
def BoxBackWrongFalsely : Prop := boxBackRow.holds Try.pinned (OpenSpec.ofChange boxBackWrong)

/-- 'waferlaw4.BoxReads': WHATEVER THE INPUT: true; the input reads as it did. -/
def boxReadsSpec : ChangeSpec := { name := "boxReads", fn := fun _ => fun
  | [d1, d2, d3, d4, d5, d6] => { results := [.lit (.bool true)], args := [d1, d2, d3, d4, d5, d6] }
  | _ => none }
def boxReadsRow : OpenClaim := { program := "ytmdhiigonlnoiaa", sum := "af00e71d8ebdcb7e0597c62beaf0d04835fdc31e03e76192950ef3309c9daf29", func := "wafer/waferlaw4.BoxReads", spec := "boxReads", apart := false }
def BoxReadsSaid : Prop := boxReadsRow.holds Try.pinned (OpenSpec.ofChange boxReadsSpec)

/-- ITS FALSE NEIGHBOUR: 'it returns false'. Refute it at one input. -/
def boxReadsWrong : ChangeSpec := { name := "boxReads", fn := fun _ => fun
  | [d1, d2, d3, d4, d5, d6] => { results := [.lit (.bool false)], args := [d1, d2, d3, d4, d5, d6] }
  | _ => none }
def BoxReadsWrongFalsely : Prop := boxReadsRow.holds Try.pinned (OpenSpec.ofChange boxReadsWrong)

/-- 'waferlaw4.BoxChanged': WHATEVER THE INPUT: true; the input reads as it did. -/
def boxChangedSpec : ChangeSpec := { name := "boxChanged", fn := fun _ => fun
  | [d1, d2, d3, d4] => { results := [.lit (.bool true)], args := [d1, d2, d3, d4] }
  | _ => none }
def boxChangedRow : OpenClaim := { program := "ytmdhiigonlnoiaa", sum := "af00e71d8ebdcb7e0597c62beaf0d04835fdc31e03e76192950ef3309c9daf29", func := "wafer/waferlaw4.BoxChanged", spec := "boxChanged", apart := false }
def BoxChangedSaid : Prop := boxChangedRow.holds Try.pinned (OpenSpec.ofChange boxChangedSpec)

/-- ITS FALSE NEIGHBOUR: 'it returns false'. Refute it at one input. -/
def boxChangedWrong : ChangeSpec := { name := "boxChanged", fn := fun _ => fun
  | [d1, d2, d3, d4] => { results := [.lit (.bool false)], args := [d1, d2, d3, d4] }
  | _ => none }
def BoxChangedWrongFalsely : Prop := boxChangedRow.holds Try.pinned (OpenSpec.ofChange boxChangedWrong)

/-- 'waferlaw4.BoxSums': WHATEVER THE INPUT: true; the input reads as it did. -/
def boxSumsSpec : ChangeSpec := { name := "boxSums", fn := fun _ => fun
  | [d1, d2, d3] => { results := [.lit (.bool true)], args := [d1, d2, d3] }
  | _ => none }
def boxSumsRow : OpenClaim := { program := "ytmdhiigonlnoiaa", sum := "af00e71d8ebdcb7e0597c62beaf0d04835fdc31e03e76192950ef3309c9daf29", func := "wafer/waferlaw4.BoxSums", spec := "boxSums", apart := false }
def BoxSumsSaid : Prop := boxSumsRow.holds Try.pinned (OpenSpec.ofChange boxSumsSpec)

/-- ITS FALSE NEIGHBOUR: 'it returns false'. Refute it at one input. -/
def boxSumsWrong : ChangeSpec := { name := "boxSums", fn := fun _ => fun
  | [d1, d2, d3] => { results := [.lit (.bool false)], args := [d1, d2, d3] }
  | _ => none }
def BoxSumsWrongFalsely : Prop := boxSumsRow.holds Try.pinned (OpenSpec.ofChange boxSumsWrong)

/- THE SECOND FORM. 'bulk': how many values and letters a reading holds, each counted each time it is reached (what is shared counts as often as it is met; a slice's spare places count too). A statement '..UptoSaid' is the law's where the arguments, and the package variables that the reading takes, are together of bulk at most 1048576: NARROWER than '..Said'. Prove '..Said' where nothing that the law and all that it calls make is longer than what came in: it says more and counts as full. Else prove '..UptoSaid'. A law counts once. -/
mutual
def uptoBulk {H : Type} : DataW H → Nat
  | .lit (.string bytes) => bytes.length + 1
  | .lit _ => 1
  | .nil => 1
  | .ptr d => uptoBulk d + 1
  | .slice elems spare => uptoBulkAll elems + uptoBulkAll spare + 1
  | .agg parts => uptoBulkAll parts + 1
  | .iface _ d => uptoBulk d + 1
  | .map entries => uptoBulkEntries entries + 1
  | .held _ => 1
def uptoBulkAll {H : Type} : List (DataW H) → Nat
  | [] => 0
  | d :: r => uptoBulk d + uptoBulkAll r
def uptoBulkEntries {H : Type} : List (Lit × DataW H) → Nat
  | [] => 0
  | x :: r => uptoBulkEntry x + uptoBulkEntries r
def uptoBulkEntry {H : Type} : Lit × DataW H → Nat
  | (.string bytes, d) => bytes.length + uptoBulk d + 1
  | (_, d) => uptoBulk d + 1
 end
def uptoSmall : (H : Type) → List (DataW H) → Bool := fun _ ds => decide (uptoBulkAll ds ≤ 1048576)
def OpenSpec.upto (s : _root_.Go.ChangeSpec) : _root_.Go.OpenSpec := { _root_.Go.OpenSpec.ofChange s with cond := some uptoSmall }

/-- 'waferlaw1.BitsWritten', WHERE WHAT IT READS IS OF BULK AT MOST 1048576: true; the input reads as it did. -/
def bitsWrittenUptoRow : OpenClaim := { program := "ytmdhiigonlnoiaa", sum := "af00e71d8ebdcb7e0597c62beaf0d04835fdc31e03e76192950ef3309c9daf29", func := "wafer/waferlaw1.BitsWritten", spec := "bitsWritten", apart := false, narrowed := true }
def BitsWrittenUptoSaid : Prop := bitsWrittenUptoRow.holds Try.pinned (OpenSpec.upto bitsWrittenSpec)

/-- 'waferlaw1.BitsRead', WHERE WHAT IT READS IS OF BULK AT MOST 1048576: true; the input reads as it did. -/
def bitsReadUptoRow : OpenClaim := { program := "ytmdhiigonlnoiaa", sum := "af00e71d8ebdcb7e0597c62beaf0d04835fdc31e03e76192950ef3309c9daf29", func := "wafer/waferlaw1.BitsRead", spec := "bitsRead", apart := false, narrowed := true }
def BitsReadUptoSaid : Prop := bitsReadUptoRow.holds Try.pinned (OpenSpec.upto bitsReadSpec)

/-- 'waferlaw1.BitsBack', WHERE WHAT IT READS IS OF BULK AT MOST 1048576: true; the input reads as it did. -/
def bitsBackUptoRow : OpenClaim := { program := "ytmdhiigonlnoiaa", sum := "af00e71d8ebdcb7e0597c62beaf0d04835fdc31e03e76192950ef3309c9daf29", func := "wafer/waferlaw1.BitsBack", spec := "bitsBack", apart := false, narrowed := true }
def BitsBackUptoSaid : Prop := bitsBackUptoRow.holds Try.pinned (OpenSpec.upto bitsBackSpec)

/-- 'waferlaw1.BitsBytes', WHERE WHAT IT READS IS OF BULK AT MOST 1048576: true; the input reads as it did. -/
def bitsBytesUptoRow : OpenClaim := { program := "ytmdhiigonlnoiaa", sum := "af00e71d8ebdcb7e0597c62beaf0d04835fdc31e03e76192950ef3309c9daf29", func := "wafer/waferlaw1.BitsBytes", spec := "bitsBytes", apart := false, narrowed := true }
def BitsBytesUptoSaid : Prop := bitsBytesUptoRow.holds Try.pinned (OpenSpec.upto bitsBytesSpec)

/-- 'waferlaw19.MtfPlays', WHERE WHAT IT READS IS OF BULK AT MOST 1048576: true; the input reads as it did. -/
def mtfPlaysUptoRow : OpenClaim := { program := "ytmdhiigonlnoiaa", sum := "af00e71d8ebdcb7e0597c62beaf0d04835fdc31e03e76192950ef3309c9daf29", func := "wafer/waferlaw19.MtfPlays", spec := "mtfPlays", apart := false, narrowed := true }
def MtfPlaysUptoSaid : Prop := mtfPlaysUptoRow.holds Try.pinned (OpenSpec.upto mtfPlaysSpec)

/-- 'waferlaw19.MtfBack', WHERE WHAT IT READS IS OF BULK AT MOST 1048576: true; the input reads as it did. -/
def mtfBackUptoRow : OpenClaim := { program := "ytmdhiigonlnoiaa", sum := "af00e71d8ebdcb7e0597c62beaf0d04835fdc31e03e76192950ef3309c9daf29", func := "wafer/waferlaw19.MtfBack", spec := "mtfBack", apart := false, narrowed := true }
def MtfBackUptoSaid : Prop := mtfBackUptoRow.holds Try.pinned (OpenSpec.upto mtfBackSpec)

/-- 'waferlaw24.OrderTells', WHERE WHAT IT READS IS OF BULK AT MOST 1048576: true; the input reads as it did. -/
def orderTellsUptoRow : OpenClaim := { program := "ytmdhiigonlnoiaa", sum := "af00e71d8ebdcb7e0597c62beaf0d04835fdc31e03e76192950ef3309c9daf29", func := "wafer/waferlaw24.OrderTells", spec := "orderTells", recurses := true, apart := false, narrowed := true }
def OrderTellsUptoSaid : Prop := orderTellsUptoRow.holds Try.pinned (OpenSpec.upto orderTellsSpec)

/-- 'waferlaw24.OrderStands', WHERE WHAT IT READS IS OF BULK AT MOST 1048576: true; the input reads as it did. -/
def orderStandsUptoRow : OpenClaim := { program := "ytmdhiigonlnoiaa", sum := "af00e71d8ebdcb7e0597c62beaf0d04835fdc31e03e76192950ef3309c9daf29", func := "wafer/waferlaw24.OrderStands", spec := "orderStands", recurses := true, apart := false, narrowed := true }
def OrderStandsUptoSaid : Prop := orderStandsUptoRow.holds Try.pinned (OpenSpec.upto orderStandsSpec)

/-- 'waferlaw4.BoxBack', WHERE WHAT IT READS IS OF BULK AT MOST 1048576: true; the input reads as it did. -/
def boxBackUptoRow : OpenClaim := { program := "ytmdhiigonlnoiaa", sum := "af00e71d8ebdcb7e0597c62beaf0d04835fdc31e03e76192950ef3309c9daf29", func := "wafer/waferlaw4.BoxBack", spec := "boxBack", apart := false, narrowed := true }
def BoxBackUptoSaid : Prop := boxBackUptoRow.holds Try.pinned (OpenSpec.upto boxBackSpec)

/-- 'waferlaw4.BoxReads', WHERE WHAT IT READS IS OF BULK AT MOST 1048576: true; the input reads as it did. -/
def boxReadsUptoRow : OpenClaim := { program := "ytmdhiigonlnoiaa", sum := "af00e71d8ebdcb7e0597c62beaf0d04835fdc31e03e76192950ef3309c9daf29", func := "wafer/waferlaw4.BoxReads", spec := "boxReads", apart := false, narrowed := true }
def BoxReadsUptoSaid : Prop := boxReadsUptoRow.holds Try.pinned (OpenSpec.upto boxReadsSpec)

/-- 'waferlaw4.BoxChanged', WHERE WHAT IT READS IS OF BULK AT MOST 1048576: true; the input reads as it did. -/
def boxChangedUptoRow : OpenClaim := { program := "ytmdhiigonlnoiaa", sum := "af00e71d8ebdcb7e0597c62beaf0d04835fdc31e03e76192950ef3309c9daf29", func := "wafer/waferlaw4.BoxChanged", spec := "boxChanged", apart := false, narrowed := true }
def BoxChangedUptoSaid : Prop := boxChangedUptoRow.holds Try.pinned (OpenSpec.upto boxChangedSpec)

/-- 'waferlaw4.BoxSums', WHERE WHAT IT READS IS OF BULK AT MOST 1048576: true; the input reads as it did. -/
def boxSumsUptoRow : OpenClaim := { program := "ytmdhiigonlnoiaa", sum := "af00e71d8ebdcb7e0597c62beaf0d04835fdc31e03e76192950ef3309c9daf29", func := "wafer/waferlaw4.BoxSums", spec := "boxSums", apart := false, narrowed := true }
def BoxSumsUptoSaid : Prop := boxSumsUptoRow.holds Try.pinned (OpenSpec.upto boxSumsSpec)

end Rows
end Go.Proofs.Ytmdhiigonlnoiaa
