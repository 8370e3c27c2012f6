/- Fold: FoldSets, for any arguments. -/
import Derived.Test.YtiikeilpgajmfaaFd25
import Derived.Test.YtiikeilpgajmfaaBools
namespace Go.Proofs.Ytiikeilpgajmfaa
open Go.RowKit Go.Waf
theorem foldSets_any (a0 : Option Addr) (len0 cap0 : Nat) (z0 : List Int) (a1 : Option Addr) (len1 cap1 : Nat) (bs1 : List Bool) (w : World) (w0 : RowOf .i32 w a0 len0 cap0 z0) (w1 : BoolsAt w a1 len1 cap1 bs1) :
    Calls Try.prog 5 #[.slice a0 len0 cap0, .slice a1 len1 cap1] w fun e w' => e = .returned (.bool true) ∧ Below w.heap.size w w' :=
  foldSets_walk w a0 a1 len0 cap0 len1 cap1 (z0.take len0) bs1 w0.rd w1.1 w0.len (fun z hz => rng_i32 (w0.wf z hz)) w0.bounds.1 w0.bounds.2 w1.2.1 w1.2.2
end Go.Proofs.Ytiikeilpgajmfaa
