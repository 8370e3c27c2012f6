/- Need: a list of PutLn, plain; procedures that share it. -/
import Derived.Test.YtmidkomdmnncoaaNd25
import Derived.Test.YtmidkomdmnncoaaNd23
namespace Go.Proofs.Ytmidkomdmnncoaa
open Go.RowKit Go.Waf
set_option maxRecDepth 100000
set_option linter.unusedVariables false
set_option linter.unusedSimpArgs false

def putS : St := .mk 17 0 (fun _ => .none) 0 (fun _ => 0) (fun _ _ => .none) 0 (fun _ => 0)
def putL4 : List Value := [.int .i64 17, .slice none 0 0, .slice none 0 0, .slice none 0 0]
def stsL : Nat → List Value
  | 0 => []
  | n + 1 => stsL n ++ putL4
theorem stsL_len : ∀ n, (stsL n).length = n * 4
  | 0 => rfl
  | n + 1 => by rw [stsL, List.length_append, stsL_len n]; simp [putL4]; omega
theorem stsL_at : ∀ n j, j < n → ∀ i u, putL4[i]? = some u → (stsL n)[j * 4 + i]? = some u
  | 0, j, h, _, _, _ => absurd h (by omega)
  | n + 1, j, h, i, u, hu => by
    have hi : i < 4 := (List.getElem?_eq_some_iff.1 hu).1
    by_cases hj : j = n
    · subst hj
      rw [stsL, List.getElem?_append_right (by rw [stsL_len]; omega), stsL_len, Nat.add_sub_cancel_left]; exact hu
    · rw [stsL, List.getElem?_append_left (by rw [stsL_len]; omega)]
      exact stsL_at n j (by omega) i u hu
theorem stsAt_put {W : World} {a : Option Addr} {n c : Nat} (hr : Rd W 4 (.slice a n c) n (stsL n)) (k : Nat) (hk : k ≤ n) : StsAt W a k (fun _ => putS) := fun h0 => by
  obtain ⟨_, a', c', e, _, _, _, hc⟩ := hr
  cases e
  obtain ⟨b, o, rfl, hc2⟩ := hc (by omega)
  refine ⟨b, o, rfl, fun j hj => ?_⟩
  have h := fun i u (hu : putL4[i]? = some u) => hc2 _ u (stsL_at n j (by omega) i u hu)
  refine ⟨.slice none 0 0, .slice none 0 0, .slice none 0 0, ⟨⟨none, 0, rfl, Nat.le_refl _, by decide, fun h => absurd h (by omega)⟩, ⟨none, 0, rfl, Nat.le_refl _, by decide, fun h => absurd h (by omega)⟩, none, 0, rfl, Nat.le_refl _, by decide, fun h => absurd h (by omega)⟩, ⟨?_, ?_, ?_, ?_⟩⟩
  · exact h 0 _ rfl
  · have := h 1 _ rfl; rwa [← Nat.add_assoc] at this
  · have := h 2 _ rfl; rwa [← Nat.add_assoc] at this
  · have := h 3 _ rfl; rwa [← Nat.add_assoc] at this
theorem iter_add (g : Nat → Nat → Nat) (c : Nat) (hg : ∀ j s, g j s = s + c) : ∀ n s, iter g n s = s + n * c
  | 0, s => by simp [iter]
  | n + 1, s => by rw [iter, hg, iter_add g c hg n s, Nat.succ_mul]; omega
theorem units_put (n s : Nat) : runSts ueU usU n (fun _ => putS) s = s + n := by
  have h := iter_add (fun i => runSt ueU usU ((fun _ => putS) i)) 1 (fun j s => rfl) n s
  rw [Nat.mul_one] at h; exact h
theorem most_put (n s : Nat) : runSts ueR usR n (fun _ => putS) s = s := iter_id (fun i => runSt ueR usR ((fun _ => putS) i)) (fun j s => rfl) n s
theorem unitsM_put (np qn nb : Nat) : unitsM np qn (fun _ => putS) nb (fun _ => putS) = np + np * qn + nb := by
  unfold unitsM runMo
  rw [units_put, iter_add _ qn (fun j s => units_put qn s)]
theorem mostM_put (np qn nb : Nat) : mostM np qn (fun _ => putS) nb (fun _ => putS) = 0 := by
  unfold mostM runMo
  rw [most_put, iter_id _ (fun j s => most_put qn s)]
/-- A procedure of 998 such, its cells; n of them. -/
def procL (ba : Option Addr) (bc : Nat) : List Value := [.string { data := #[] }, .bool false, .slice none 0 0, .int .i64 0, .int .i64 0, .string { data := #[] }, .slice none 0 0, .slice none 0 0, .slice ba 998 bc, .slice none 0 0]
def prL (ba : Option Addr) (bc : Nat) : Nat → List Value
  | 0 => []
  | n + 1 => prL ba bc n ++ procL ba bc
theorem procL_one (ba : Option Addr) (bc : Nat) : ∀ u ∈ procL ba bc, u.oneCell' = true := by simp [procL, Value.oneCell']
theorem prL_len (ba : Option Addr) (bc : Nat) : ∀ n, (prL ba bc n).length = n * 10
  | 0 => rfl
  | n + 1 => by rw [prL, List.length_append, prL_len ba bc n]; simp [procL]; omega
theorem prL_at (ba : Option Addr) (bc : Nat) : ∀ n j, j < n → ∀ i u, (procL ba bc)[i]? = some u → (prL ba bc n)[j * 10 + i]? = some u
  | 0, j, h, _, _, _ => absurd h (by omega)
  | n + 1, j, h, i, u, hu => by
    have hi : i < 10 := (List.getElem?_eq_some_iff.1 hu).1
    by_cases hj : j = n
    · subst hj
      rw [prL, List.getElem?_append_right (by rw [prL_len]; omega), prL_len, Nat.add_sub_cancel_left]; exact hu
    · rw [prL, List.getElem?_append_left (by rw [prL_len]; omega)]
      exact prL_at ba bc n j (by omega) i u hu
theorem prsAt_row {W : World} {a ba : Option Addr} {n c bc : Nat} (hr : Rd W 10 (.slice a n c) n (prL ba bc n)) : PrsAt W a n ba 998 bc := fun h0 => by
  obtain ⟨_, a', c', e, _, _, _, hc⟩ := hr
  cases e
  obtain ⟨b, o, rfl, hc2⟩ := hc h0
  refine ⟨b, o, rfl, fun j hj => ?_⟩
  have h := fun i u (hu : (procL ba bc)[i]? = some u) => hc2 _ u (prL_at ba bc n j hj i u hu)
  have k := fun i u (hu : (procL ba bc)[i]? = some u) => show W.cell? ⟨b, o + j * 10 + i, none⟩ = some u from by rw [Nat.add_assoc]; exact h i u hu
  exact ⟨k 0 _ rfl, k 1 _ rfl, k 2 _ rfl, k 3 _ rfl, k 4 _ rfl, k 5 _ rfl, k 6 _ rfl, k 7 _ rfl, k 8 _ rfl, k 9 _ rfl⟩
theorem elemProc : Elem Try.prog 27 50 10 176 := Elem.mk' (z := .agg #[.string ByteArray.empty, .bool false, .slice none 0 0, .int .i64 0, .int .i64 0, .string ByteArray.empty, .slice none 0 0, .slice none 0 0, .slice none 0 0, .slice none 0 0]) Try.underlying27 (by kernel_rfl) rfl (by decide)
end Go.Proofs.Ytmidkomdmnncoaa
