/-
  No cell of these rows narrows 'for every input' (looked for: loops, veiled, ifaces, maps, wideKeys, modest, calm, conditions, laid).
  DERIVED. THE GIVEN ROWS OF THIS SEAT. 2 by the template 'for every input the law returns true; each argument reads behind the call as it read before'; 0 by the template 'total and deterministic' (their statements: YtlnldkciiphidaaTotals.lean).
  GIVEN WITH THE SEED: the statements are not yours to turn. If you find one false, say at which input.
  Laid BY PROGRAM, IN A SANDBOX (cutbox-rows.mjs): the forced cells as the released guide's own fill.sh prints them over the translation 30e817d5629f1465… (all of the seat's roots in one cut). By AI agents, Wed Nov 11 2026. No macro, syntax, notation, axiom, sorry.
-/
import Derived.Test.YtlnldkciiphidaaChecked
import GoSem.Claim
import GoSem.ClaimJoined
import GoSem.ClaimMapViews
import Derived.JoinedTies
import Derived.KernelRfl
namespace Go.Proofs.Ytlnldkciiphidaa
/- THE CELL 'sum', in the pinned program and in every row, IS THE sha256 OF THE DUMP (.gsa) THAT YtlnldkciiphidaaProg.lean LOADS. Nothing in Lean hashes anything: it is a label: what it is worth is what the hold of that sum in a sandbox is worth. -/
noncomputable def Try.pinned : Pinned := { name := "ytlnldkciiphidaa", sum := "30e817d5629f14655f731d1bd5f26ab42729f38bce2df2082d57122ff103010e", checked := Try.checked }
namespace Rows
def none {H : Type} : Left H := { results := [], args := [] }

/-- 'waferlaw8.VerifyChecks': WHATEVER THE INPUT: true; the input reads as it did. -/
def verifyChecksSpec : ChangeSpec := { name := "verifyChecks", fn := fun _ => fun
  | [d] => { results := [.lit (.bool true)], args := [d] }
  | _ => none }
def verifyChecksRow : OpenClaim := { program := "ytlnldkciiphidaa", sum := "30e817d5629f14655f731d1bd5f26ab42729f38bce2df2082d57122ff103010e", func := "wafer/waferlaw8.VerifyChecks", spec := "verifyChecks", apart := false }
def VerifyChecksSaid : Prop := verifyChecksRow.holds Try.pinned (OpenSpec.ofChange verifyChecksSpec)

/-- ITS FALSE NEIGHBOUR: 'it returns false'. Refute it at one input. -/
def verifyChecksWrong : ChangeSpec := { name := "verifyChecks", fn := fun _ => fun
  | [d] => { results := [.lit (.bool false)], args := [d] }
  | _ => none }
def VerifyChecksWrongFalsely : Prop := verifyChecksRow.holds Try.pinned (OpenSpec.ofChange verifyChecksWrong)

/-- 'waferlaw8.VerifyHeights': WHATEVER THE INPUT: true; the input reads as it did. -/
def verifyHeightsSpec : ChangeSpec := { name := "verifyHeights", fn := fun _ => fun
  | [d] => { results := [.lit (.bool true)], args := [d] }
  | _ => none }
def verifyHeightsRow : OpenClaim := { program := "ytlnldkciiphidaa", sum := "30e817d5629f14655f731d1bd5f26ab42729f38bce2df2082d57122ff103010e", func := "wafer/waferlaw8.VerifyHeights", spec := "verifyHeights", apart := false }
def VerifyHeightsSaid : Prop := verifyHeightsRow.holds Try.pinned (OpenSpec.ofChange verifyHeightsSpec)

/-- ITS FALSE NEIGHBOUR: 'it returns false'. Refute it at one input. -/
def verifyHeightsWrong : ChangeSpec := { name := "verifyHeights", fn := fun _ => fun
  | [d] => { results := [.lit (.bool false)], args := [d] }
  | _ => none }
def VerifyHeightsWrongFalsely : Prop := verifyHeightsRow.holds Try.pinned (OpenSpec.ofChange verifyHeightsWrong)

/- THE SECOND FORM. 'bulk': how many values and letters a reading holds, each counted each time it is reached (what is shared counts as often as it is met; a slice's spare places count too). A statement '..UptoSaid' is the law's where the arguments, and the package variables that the reading takes, are together of bulk at most 1048576: NARROWER than '..Said'. Prove '..Said' where nothing that the law and all that it calls make is longer than what came in: it says more and counts as full. Else prove '..UptoSaid'. A law counts once. -/
mutual
def uptoBulk {H : Type} : DataW H → Nat
  | .lit (.string bytes) => bytes.length + 1
  | .lit _ => 1
  | .nil => 1
  | .ptr d => uptoBulk d + 1
  | .slice elems spare => uptoBulkAll elems + uptoBulkAll spare + 1
  | .agg parts => uptoBulkAll parts + 1
  | .iface _ d => uptoBulk d + 1
  | .map entries => uptoBulkEntries entries + 1
  | .held _ => 1
def uptoBulkAll {H : Type} : List (DataW H) → Nat
  | [] => 0
  | d :: r => uptoBulk d + uptoBulkAll r
def uptoBulkEntries {H : Type} : List (Lit × DataW H) → Nat
  | [] => 0
  | x :: r => uptoBulkEntry x + uptoBulkEntries r
def uptoBulkEntry {H : Type} : Lit × DataW H → Nat
  | (.string bytes, d) => bytes.length + uptoBulk d + 1
  | (_, d) => uptoBulk d + 1
 end
def uptoSmall : (H : Type) → List (DataW H) → Bool := fun _ ds => decide (uptoBulkAll ds ≤ 1048576)
def OpenSpec.upto (s : _root_.Go.ChangeSpec) : _root_.Go.OpenSpec := { _root_.Go.OpenSpec.ofChange s with cond := some uptoSmall }

/-- 'waferlaw8.VerifyChecks', WHERE WHAT IT READS IS OF BULK AT MOST 1048576: true; the input reads as it did. -/
def verifyChecksUptoRow : OpenClaim := { program := "ytlnldkciiphidaa", sum := "30e817d5629f14655f731d1bd5f26ab42729f38bce2df2082d57122ff103010e", func := "wafer/waferlaw8.VerifyChecks", spec := "verifyChecks", apart := false, narrowed := true }
def VerifyChecksUptoSaid : Prop := verifyChecksUptoRow.holds Try.pinned (OpenSpec.upto verifyChecksSpec)

/-- 'waferlaw8.VerifyHeights', WHERE WHAT IT READS IS OF BULK AT MOST 1048576: true; the input reads as it did. -/
def verifyHeightsUptoRow : OpenClaim := { program := "ytlnldkciiphidaa", sum := "30e817d5629f14655f731d1bd5f26ab42729f38bce2df2082d57122ff103010e", func := "wafer/waferlaw8.VerifyHeights", spec := "verifyHeights", apart := false, narrowed := true }
def VerifyHeightsUptoSaid : Prop := verifyHeightsUptoRow.holds Try.pinned (OpenSpec.upto verifyHeightsSpec)

end Rows
end Go.Proofs.Ytlnldkciiphidaa
