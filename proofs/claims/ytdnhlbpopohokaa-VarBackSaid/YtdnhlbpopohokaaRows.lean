/-
  No cell of these rows narrows 'for every input' (looked for: loops, veiled, ifaces, maps, wideKeys, modest, calm, conditions, laid).
  DERIVED. THE GIVEN ROWS OF THIS SEAT. 4 by the template 'for every input the law returns true; each argument reads behind the call as it read before'; 0 by the template 'total and deterministic' (their statements: YtdnhlbpopohokaaTotals.lean).
  GIVEN WITH THE SEED: the statements are not yours to turn. If you find one false, say at which input.
  Laid BY PROGRAM, IN A SANDBOX (cutbox-rows.mjs): the forced cells as the released guide's own fill.sh prints them over the translation d5eb6fbfe3f59345… (all of the seat's roots in one cut). By AI agents, Wed Nov 11 2026. No macro, syntax, notation, axiom, sorry.
-/
import Derived.Test.YtdnhlbpopohokaaChecked
import GoSem.Claim
import GoSem.ClaimJoined
import GoSem.ClaimMapViews
import Derived.JoinedTies
import Derived.KernelRfl
namespace Go.Proofs.Ytdnhlbpopohokaa
/- THE CELL 'sum', in the pinned program and in every row, IS THE sha256 OF THE DUMP (.gsa) THAT YtdnhlbpopohokaaProg.lean LOADS. Nothing in Lean hashes anything: it is a label: what it is worth is what the hold of that sum in a sandbox is worth. -/
noncomputable def Try.pinned : Pinned := { name := "ytdnhlbpopohokaa", sum := "d5eb6fbfe3f5934549b7f0ac33117e2e714ab02ef6f0608be2ada0e8ecd2be45", checked := Try.checked }
namespace Rows
def none {H : Type} : Left H := { results := [], args := [] }

/-- 'waferlaw2.VarBack': WHATEVER THE INPUT: true; the input reads as it did. -/
def varBackSpec : ChangeSpec := { name := "varBack", fn := fun _ => fun
  | [d1, d2, d3, d4] => { results := [.lit (.bool true)], args := [d1, d2, d3, d4] }
  | _ => none }
def varBackRow : OpenClaim := { program := "ytdnhlbpopohokaa", sum := "d5eb6fbfe3f5934549b7f0ac33117e2e714ab02ef6f0608be2ada0e8ecd2be45", func := "wafer/waferlaw2.VarBack", spec := "varBack", apart := false }
def VarBackSaid : Prop := varBackRow.holds Try.pinned (OpenSpec.ofChange varBackSpec)

/-- ITS FALSE NEIGHBOUR: 'it returns false'. Refute it at one input. -/
def varBackWrong : ChangeSpec := { name := "varBack", fn := fun _ => fun
  | [d1, d2, d3, d4] => { results := [.lit (.bool false)], args := [d1, d2, d3, d4] }
  | _ => none }
def VarBackWrongFalsely : Prop := varBackRow.holds Try.pinned (OpenSpec.ofChange varBackWrong)

/-- 'waferlaw2.VarReads': WHATEVER THE INPUT: true; the input reads as it did. -/
def varReadsSpec : ChangeSpec := { name := "varReads", fn := fun _ => fun
  | [d1, d2, d3, d4] => { results := [.lit (.bool true)], args := [d1, d2, d3, d4] }
  | _ => none }
def varReadsRow : OpenClaim := { program := "ytdnhlbpopohokaa", sum := "d5eb6fbfe3f5934549b7f0ac33117e2e714ab02ef6f0608be2ada0e8ecd2be45", func := "wafer/waferlaw2.VarReads", spec := "varReads", apart := false }
def VarReadsSaid : Prop := varReadsRow.holds Try.pinned (OpenSpec.ofChange varReadsSpec)

/-- ITS FALSE NEIGHBOUR: 'it returns false'. Refute it at one input. -/
def varReadsWrong : ChangeSpec := { name := "varReads", fn := fun _ => fun
  | [d1, d2, d3, d4] => { results := [.lit (.bool false)], args := [d1, d2, d3, d4] }
  | _ => none }
def VarReadsWrongFalsely : Prop := varReadsRow.holds Try.pinned (OpenSpec.ofChange varReadsWrong)

/-- 'waferlaw2.VarFew': WHATEVER THE INPUT: true; the input reads as it did. -/
def varFewSpec : ChangeSpec := { name := "varFew", fn := fun _ => fun
  | [d1, d2, d3] => { results := [.lit (.bool true)], args := [d1, d2, d3] }
  | _ => none }
def varFewRow : OpenClaim := { program := "ytdnhlbpopohokaa", sum := "d5eb6fbfe3f5934549b7f0ac33117e2e714ab02ef6f0608be2ada0e8ecd2be45", func := "wafer/waferlaw2.VarFew", spec := "varFew", apart := false }
def VarFewSaid : Prop := varFewRow.holds Try.pinned (OpenSpec.ofChange varFewSpec)

/-- ITS FALSE NEIGHBOUR: 'it returns false'. Refute it at one input. -/
def varFewWrong : ChangeSpec := { name := "varFew", fn := fun _ => fun
  | [d1, d2, d3] => { results := [.lit (.bool false)], args := [d1, d2, d3] }
  | _ => none }
def VarFewWrongFalsely : Prop := varFewRow.holds Try.pinned (OpenSpec.ofChange varFewWrong)

/-- 'waferlaw2.VarSigned': WHATEVER THE INPUT: true; the input reads as it did. -/
def varSignedSpec : ChangeSpec := { name := "varSigned", fn := fun _ => fun
  | [d] => { results := [.lit (.bool true)], args := [d] }
  | _ => none }
def varSignedRow : OpenClaim := { program := "ytdnhlbpopohokaa", sum := "d5eb6fbfe3f5934549b7f0ac33117e2e714ab02ef6f0608be2ada0e8ecd2be45", func := "wafer/waferlaw2.VarSigned", spec := "varSigned", apart := false }
def VarSignedSaid : Prop := varSignedRow.holds Try.pinned (OpenSpec.ofChange varSignedSpec)

/-- ITS FALSE NEIGHBOUR: 'it returns false'. Refute it at one input. -/
def varSignedWrong : ChangeSpec := { name := "varSigned", fn := fun _ => fun
  | [d] => { results := [.lit (.bool false)], args := [d] }
  | _ => none }
def VarSignedWrongFalsely : Prop := varSignedRow.holds Try.pinned (OpenSpec.ofChange varSignedWrong)

/- THE SECOND FORM. 'bulk': how many values and letters a reading holds, each counted each time it is reached (what is shared counts as often as it is met; a slice's spare places count too). A statement '..UptoSaid' is the law's where the arguments, and the package variables that the reading takes, are together of bulk at most 1048576: NARROWER than '..Said'. Prove '..Said' where nothing that the law and all that it calls make is longer than what came in: it says more and counts as full. Else prove '..UptoSaid'. A law counts once. -/
mutual
def uptoBulk {H : Type} : DataW H → Nat
  | .lit (.string bytes) => bytes.length + 1
  | .lit _ => 1
  | .nil => 1
  | .ptr d => uptoBulk d + 1
  | .slice elems spare => uptoBulkAll elems + uptoBulkAll spare + 1
  | .agg parts => uptoBulkAll parts + 1
  | .iface _ d => uptoBulk d + 1
  | .map entries => uptoBulkEntries entries + 1
  | .held _ => 1
def uptoBulkAll {H : Type} : List (DataW H) → Nat
  | [] => 0
  | d :: r => uptoBulk d + uptoBulkAll r
def uptoBulkEntries {H : Type} : List (Lit × DataW H) → Nat
  | [] => 0
  | x :: r => uptoBulkEntry x + uptoBulkEntries r
def uptoBulkEntry {H : Type} : Lit × DataW H → Nat
  | (.string bytes, d) => bytes.length + uptoBulk d + 1
  | (_, d) => uptoBulk d + 1
 end
def uptoSmall : (H : Type) → List (DataW H) → Bool := fun _ ds => decide (uptoBulkAll ds ≤ 1048576)
def OpenSpec.upto (s : _root_.Go.ChangeSpec) : _root_.Go.OpenSpec := { _root_.Go.OpenSpec.ofChange s with cond := some uptoSmall }

/-- 'waferlaw2.VarBack', WHERE WHAT IT READS IS OF BULK AT MOST 1048576: true; the input reads as it did. -/
def varBackUptoRow : OpenClaim := { program := "ytdnhlbpopohokaa", sum := "d5eb6fbfe3f5934549b7f0ac33117e2e714ab02ef6f0608be2ada0e8ecd2be45", func := "wafer/waferlaw2.VarBack", spec := "varBack", apart := false, narrowed := true }
def VarBackUptoSaid : Prop := varBackUptoRow.holds Try.pinned (OpenSpec.upto varBackSpec)

/-- 'waferlaw2.VarReads', WHERE WHAT IT READS IS OF BULK AT MOST 1048576: true; the input reads as it did. -/
def varReadsUptoRow : OpenClaim := { program := "ytdnhlbpopohokaa", sum := "d5eb6fbfe3f5934549b7f0ac33117e2e714ab02ef6f0608be2ada0e8ecd2be45", func := "wafer/waferlaw2.VarReads", spec := "varReads", apart := false, narrowed := true }
def VarReadsUptoSaid : Prop := varReadsUptoRow.holds Try.pinned (OpenSpec.upto varReadsSpec)

/-- 'waferlaw2.VarFew', WHERE WHAT IT READS IS OF BULK AT MOST 1048576: true; the input reads as it did. -/
def varFewUptoRow : OpenClaim := { program := "ytdnhlbpopohokaa", sum := "d5eb6fbfe3f5934549b7f0ac33117e2e714ab02ef6f0608be2ada0e8ecd2be45", func := "wafer/waferlaw2.VarFew", spec := "varFew", apart := false, narrowed := true }
def VarFewUptoSaid : Prop := varFewUptoRow.holds Try.pinned (OpenSpec.upto varFewSpec)

/-- 'waferlaw2.VarSigned', WHERE WHAT IT READS IS OF BULK AT MOST 1048576: true; the input reads as it did. -/
def varSignedUptoRow : OpenClaim := { program := "ytdnhlbpopohokaa", sum := "d5eb6fbfe3f5934549b7f0ac33117e2e714ab02ef6f0608be2ada0e8ecd2be45", func := "wafer/waferlaw2.VarSigned", spec := "varSigned", apart := false, narrowed := true }
def VarSignedUptoSaid : Prop := varSignedUptoRow.holds Try.pinned (OpenSpec.upto varSignedSpec)

end Rows
end Go.Proofs.Ytdnhlbpopohokaa
