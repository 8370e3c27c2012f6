/- Need: what Check tells of one module, of it and an empty one. -/
import Derived.Test.YtmidkomdmnncoaaNd23
namespace Go.Proofs.Ytmidkomdmnncoaa
open Go.RowKit Go.Waf
set_option maxRecDepth 100000
set_option linter.unusedVariables false
set_option linter.unusedSimpArgs false

theorem told_E {n : Nat} {mo sz un : Nat → Nat} {E : Int} (h : Told n mo sz un E) (hm : ∀ j, j < n → mo j ≤ 12) : E = if sumN sz n ≤ 16384 ∧ sumN un n ≤ 8000 then 0 else 45 := by
  rcases h with ⟨_, j, hj, h⟩ | ⟨_, ⟨rfl, h⟩ | ⟨rfl, h⟩⟩
  · exact absurd (hm j hj) (by omega)
  · rw [if_neg (by omega)]
  · rw [if_pos h]
def moN : Mo := Mo.mk { data := #[78] } none 0 0 none 0 0 none 0 0
section
variable {w : World} {m : Mo} {ks : Nat → Int} {qa : Option Addr} {qn qc : Nat} {qf f : Nat → St} {b c sz : Nat}
theorem checkE1 (h : Good w m ks qa qn qc qf f) (hm : MoAt w b 0 m) (hn : m.nm = { data := #[77] }) (h1 : 1 ≤ c) (h2 : c ≤ 9223372036854775807) (hmo : mostM m.np qn qf m.nb f ≤ 12) (hsz : (sz : Int) = sumK ks m.nv) (E : Int) (hE : E = if sz ≤ 16384 ∧ unitsM m.np qn qf m.nb f ≤ 8000 then 0 else 45) :
    Calls Try.prog 6 #[.slice (some ⟨b, 0, none⟩) 1 c] w fun en w' => en = .returned (.int .i64 E) ∧ Below w.heap.size w w' :=
  (check_M w b c m ks qa qn qc qf f hm hn h1 h2 h sz hsz).mono fun en w' ⟨E', he, ht, hb⟩ => by
    have := told_E ht (fun _ _ => hmo)
    rw [show sumN (fun _ => sz) 1 = 0 + sz from rfl, show sumN (fun _ => unitsM m.np qn qf m.nb f) 1 = 0 + unitsM m.np qn qf m.nb f from rfl, Nat.zero_add, Nat.zero_add] at this
    exact ⟨by rw [he, this, hE], hb⟩
theorem checkE2 (h : Good w m ks qa qn qc qf f) (hm : MoAt w b 0 m) (hm2 : MoAt w b 8 moN) (hn : m.nm = { data := #[77] }) (h1 : 2 ≤ c) (h2 : c ≤ 9223372036854775807) (hmo : mostM m.np qn qf m.nb f ≤ 12) (hsz : (sz : Int) = sumK ks m.nv) (E : Int) (hE : E = if sz ≤ 16384 ∧ unitsM m.np qn qf m.nb f ≤ 8000 then 0 else 45) :
    Calls Try.prog 6 #[.slice (some ⟨b, 0, none⟩) 2 c] w fun en w' => en = .returned (.int .i64 E) ∧ Below w.heap.size w w' :=
  (check_MN w b c m moN ks (fun _ => 0) qa none qn qc 0 0 qf f (fun _ => .none) (fun _ => .none) hm hm2 hn rfl h1 h2 h (good_empty w _) sz 0 hsz rfl).mono fun en w' ⟨E', he, ht, hb⟩ => by
    have := told_E ht (fun j hj => by
      rcases (by omega : j = 0 ∨ j = 1) with rfl | rfl
      · exact hmo
      · exact Nat.zero_le _)
    rw [show sumN (two sz 0) 2 = 0 + sz + 0 from rfl, show sumN (two (unitsM m.np qn qf m.nb f) (unitsM moN.np 0 (fun _ => St.none) moN.nb (fun _ => St.none))) 2 = 0 + unitsM m.np qn qf m.nb f + 0 from rfl, Nat.zero_add, Nat.zero_add, Nat.add_zero, Nat.add_zero] at this
    exact ⟨by rw [he, this, hE], hb⟩
end
end Go.Proofs.Ytmidkomdmnncoaa
