/- The contract of put, and how known code runs. -/
import Derived.Test.YtflinbfobadheaaRisc24
namespace Go.Proofs.Ytflinbfobadheaa
open Go.RowKit Go.Waf
set_option maxRecDepth 100000
set_option linter.unusedVariables false

theorem late5' {w w1 : World} {p : Addr} {v : Value} (h : w.cell? p = some v) (hb : Below w.heap.size w w1) : w1.cell? p = some v := (hb.cell (World.block_lt_of_cell? w p h)).trans h
def flat (l : List Ins) : List Value := l.flatMap fun i => (boxOf i).toList
theorem flat_length (l : List Ins) : (flat l).length = l.length * 8 := by
  induction l with
  | nil => rfl
  | cons i l ih => simp [flat] at ih ⊢; rw [ih]; simp [boxOf]; omega
theorem flat_get (l : List Ins) (k j : Nat) (hk : k < l.length) (hj : j < 8) (i : Ins) (hi : l[k]? = some i) : (flat l)[k * 8 + j]? = (boxOf i)[j]? := by
  induction l generalizing k with
  | nil => simp at hk
  | cons x l ih =>
    have e : flat (x :: l) = (boxOf x).toList ++ flat l := rfl
    have hb : (boxOf x).toList.length = 8 := rfl
    rw [e]
    cases k with
    | zero =>
      simp at hi; subst hi
      rw [List.getElem?_append_left (by rw [hb]; omega)]
      simp
    | succ k =>
      rw [List.getElem?_append_right (by rw [hb]; omega), hb, show (k + 1) * 8 + j - 8 = k * 8 + j by omega]
      exact ih k (by simpa using hk) (by simpa using hi)
set_option maxHeartbeats 1600000 in
theorem put_any (w : World) (l : List Ins) (hl : ∀ i ∈ l, Right i) (hn : l.length ≤ 1000) (v : Value) (hr : Rd w 8 v l.length (flat l)) :
    Calls Try.prog 12 #[v] w (OwnRet w.heap.size 37 1 l.length (u32s (l.map encW)) w) := by
  obtain ⟨a, cap, rfl, c1, c2, c3⟩ := rd_shape hr
  unfold maxLen at c2
  have HR := Lib.hid hr
  have HL := Lib.hid hl
  obtain ⟨L, hL⟩ : ∃ L, L = l.length := ⟨_, rfl⟩
  rw [← hL] at hn c1
  rw [← hL]
  have HLE := Lib.hid hL
  clear hr hl hL
  go_enter Try.func12, Try.ntmps12
  go_wp2_with fail
  go_loopw [3, 4] (fun c i wr => ∃ k : Nat, k ≤ L ∧ i = .int .i64 k ∧ wr.ownsRow w.heap.size 37 1 c k (u32s ((l.map encW).take k)) ∧ Below w.heap.size w wr) (fun _ i _ => L - (intOf i).toNat)
  case atStart => exact ⟨0, by omega, rfl, World.ownsRow_nil _ _ _ _, Below.refl _ _⟩
  case round =>
    obtain ⟨k, hk, rfl, hown, hb⟩ := hrel
    have HOWN := Lib.hid hown
    have HB := Lib.hid hb
    have hsz := hb.size
    by_cases hlt : k < L
    · obtain ⟨i, hi⟩ : ∃ i, l[k]? = some i := ⟨_, List.getElem?_eq_getElem (by rw [← HLE.out]; exact hlt)⟩
      have hmem : i ∈ l := List.mem_of_getElem? hi
      obtain ⟨b, off, rfl, hcs⟩ := Rd_at (by have := HR.out; rw [← HLE.out] at this; exact this) (by omega)
      have hc := fun j (hj : j < 8) (u : Value) (hu : (boxOf i)[j]? = some u) => late5' (hcs (k * 8 + j) u (by rw [flat_get l k j (by rw [← HLE.out]; exact hlt) hj i hi]; exact hu)) HB.out
      have hE := fun W => renc_any i (HL.out i hmem) W
      have htk : (l.map encW).take (k + 1) = (l.map encW).take k ++ [encW i] := by
        rw [List.take_add_one, List.getElem?_map, hi]; rfl
      have HTK := Lib.hid htk
      obtain ⟨f, u, v, ia, ib, ic, op, imm⟩ := i
      have b0 := hc 0 (by omega) _ rfl
      have b1 := hc 1 (by omega) _ rfl
      have b2 := hc 2 (by omega) _ rfl
      have b3 := hc 3 (by omega) _ rfl
      have b4 := hc 4 (by omega) _ rfl
      have b5 := hc 5 (by omega) _ rfl
      have b6 := hc 6 (by omega) _ rfl
      have b7 := hc 7 (by omega) _ rfl
      simp only [Nat.add_zero, ← Nat.add_assoc] at b0 b1 b2 b3 b4 b5 b6 b7
      simp only [insV] at hE
      obtain ⟨X, hX⟩ : ∃ X, X = encW ⟨f, u, v, ia, ib, ic, op, imm⟩ := ⟨_, rfl⟩
      rw [← hX] at hE
      have HX := Lib.hid hX
      have HE := Lib.hid hE
      have k0 : (0 : Int) ≤ (k : Int) := by omega
      have k1 : (k : Int) < (L : Int) := by omega
      clear hown hb hi hmem hcs hc hE htk hX
      go_wp2_with (first
        | (go_at_call 22; refine (HE.out _).mono ?_; rintro e wx ⟨rfl, hbx⟩; have hrow := (Fr.of_new hbx (F := fun _ => False)).owns HOWN.out (fun _ _ h => h); have HROW := Lib.hid hrow; have HBX := Lib.hid (HB.out.trans (hbx.mono hsz)); clear hrow hbx)
        | (at_builtin; refine app_own _ elemU14 rfl _ _ rfl w.heap.size _ k _ rfl (HROW.out.alloc _) _ 1 (u32s [X]) rfl (rd_new wx (u32s [X]) 37 1 1 rfl (by decide)) (one_u32s _) (by simp only [maxLen]; omega) (by omega) (by have := HBX.out.size; simp; omega) ?_; intro v' w3 hown3 hg3))
      go_roundw
      case rel =>
        exact ⟨k + 1, by omega, by go_num, by rw [HTK.out, u32s_append, ← HX.out]; exact hown3, below_of_grown (HBX.out.alloc HBX.out.size _) (by have := HBX.out.size; simp; omega) (HROW.out.alloc _) (Nat.le_refl _) rfl hg3⟩
      case measure => simp [intOf]; omega
    · obtain rfl : k = L := by omega
      have hfull : (l.map encW).take k = l.map encW := List.take_of_length_le (by simp; rw [← HLE.out]; exact Nat.le_refl _)
      have hown2 := hown
      rw [hfull] at hown2
      obtain ⟨ca, cc, rfl, _, _, _⟩ := owns_shape hown2
      have HO := Lib.hid hown2
      clear hown hb hown2 hfull
      go_wp2_with fail
      go_ret
      exact ⟨_, rfl, HO.out, HB.out⟩

theorem step_at {s : St} {k : Nat} {i : Ins} (hf : s.fin = 0) (hpc : s.pc = k) (hc : s.code[k]? = some (encW i)) (hi : Right i) : s.step = s.exec i := by
  have hk : k < s.code.length := (List.getElem?_eq_some_iff.1 hc).1
  rw [St.step_run hf]
  unfold St.step1
  rw [hpc, if_neg (by omega), Int.toNat_natCast, List.getD_eq_getElem?_getD, hc, Option.getD_some, (dec_enc i hi).1, (dec_enc i hi).2, if_neg (by simp)]
end Go.Proofs.Ytflinbfobadheaa
