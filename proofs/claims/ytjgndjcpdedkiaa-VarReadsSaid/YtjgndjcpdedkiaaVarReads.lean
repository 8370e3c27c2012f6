/- The walk of VarReads. -/
import Derived.Test.YtjgndjcpdedkiaaVarLaws
namespace Go.Proofs.Ytjgndjcpdedkiaa
open Go.RowKit Go.Waf
set_option maxRecDepth 100000
set_option linter.unusedVariables false
attribute [local go_sem] or128 mask127_u8 mask1_u64 mask63_u8

theorem readRes_no (o : Option (Nat × Nat)) (u k : Nat) (h : readRes o = (u, k, false)) : u = 0 := by
  cases o with
  | none => simp only [readRes, Prod.mk.injEq] at h; omega
  | some p => simp only [readRes, Prod.mk.injEq] at h; exact absurd h.2.2 (by simp)
theorem xor_byte (a b : Int) : 0 ≤ bits .xor .u8 a b ∧ bits .xor .u8 a b ≤ 255 := by
  have e : bits .xor .u8 a b = (IntKind.u8.wrap ((BitVec.ofInt 8 a ^^^ BitVec.ofInt 8 b).toNat : Int)) := rfl
  rw [e, IntKind.wrap_u8]; omega
theorem bytes_set {xs : List Int} (h : Bytes xs) (j : Nat) (u : Int) (hu : 0 ≤ u ∧ u ≤ 255) : Bytes (xs.set j u) := by
  intro x hx
  rcases List.mem_or_eq_of_mem_set hx with h1 | h1
  · exact h x h1
  · rw [h1]; exact hu
theorem bytes_snoc {xs : List Int} (h : Bytes xs) (u : Int) (hu : 0 ≤ u ∧ u ≤ 255) : Bytes (xs ++ [u]) := by
  intro x hx
  rcases List.mem_append.1 hx with h1 | h1
  · exact h x h1
  · simp only [List.mem_singleton] at h1; rw [h1]; exact hu
theorem byt_set (xs : List Int) (j : Nat) (u : Int) : (byt xs).set j (.int .u8 u) = byt (xs.set j u) := by
  simp [byt, List.map_set]

set_option maxHeartbeats 3200000 in
theorem varReads_walk (a0 : Option Addr) (n0 cap0 : Nat) (xs : List Int) (v at' : Nat) (x : Int) (w : World)
    (hv : v < 18446744073709551616) (hat : at' ≤ 255) (hx0 : 0 ≤ x) (hx1 : x ≤ 255)
    (hr0 : Rd w 1 (.slice a0 n0 cap0) n0 (byt xs)) (hbx : Bytes xs) (hc0 : n0 ≤ cap0) (hc1 : cap0 ≤ 9223372036854775807) :
    Calls Try.prog 7 #[.slice a0 n0 cap0, .int .u64 v, .int .u8 (at' : Nat), .int .u8 x] w fun e w' => e = .returned (.bool true) ∧ Below w.heap.size w w' := by
  by_cases hbig : 100 < n0
  · go_enter Try.func7, Try.ntmps7
    go_wp2_with fail
    refine (known2 _).mono ?_; rintro e w1 ⟨rfl, hb1⟩
    go_wp2_with fail
    go_ret
    exact ⟨rfl, hb1⟩
  have R0 := Lib.hid hr0
  clear hr0
  go_enter Try.func7, Try.ntmps7
  go_wp2_with fail
  refine (known2 _).mono ?_; rintro e w1 ⟨rfl, hb1⟩
  go_wp2_with fail
  refine ownRet_mono (rput_any _ none 0 [] rd_nil (by omega) v hv) _ ?_
  intro c w2 ho2 hb2
  have hb2' := hb1.trans (hb2.mono hb1.size)
  have hpl := putVar_len v hv
  have hpp := putVar_pos v
  obtain ⟨L, hL⟩ : ∃ L, L = (putVar v).length := ⟨_, rfl⟩
  rw [List.nil_append, Nat.zero_add, ← hL] at ho2
  rw [← hL] at hpl hpp
  obtain ⟨g, cc, hg, rfl, cc1, cc2⟩ : ∃ g cc, w1.heap.size ≤ g ∧ c = .slice (some ⟨g, 0, none⟩) L cc ∧ L ≤ cc ∧ cc ≤ 9223372036854775807 := by
    rcases ho2.2 with ⟨_, h0⟩ | ⟨g, cap, cur, hv, hg, _, h1, h2, _⟩
    · omega
    · exact ⟨g, cap, hg, hv, h1, by simpa [maxLen] using h2⟩
  have hjl : at' % L < L := Nat.mod_lt _ (by omega)
  have hcell := ho2.cellAt (at' % L) (by omega)
  rw [byt_get _ _ (by rw [← hL]; exact hjl)] at hcell
  have hfr := ho2.frozenAt (at' % L)
  obtain ⟨old, hold⟩ : ∃ old, old = (putVar v).getD (at' % L) 0 := ⟨_, rfl⟩
  rw [← hold] at hcell
  have hst := ho2.stored (at' % L) (.int .u8 (bits .xor .u8 old x))
  rw [byt_set] at hst
  obtain ⟨ys, hys⟩ : ∃ ys, ys = (putVar v).set (at' % L) (bits .xor .u8 old x) := ⟨_, rfl⟩
  rw [← hys] at hst
  have hby : Bytes ys := by rw [hys]; exact bytes_set (putVar_bytes v) _ _ (xor_byte _ _)
  obtain ⟨W2, hW2⟩ : ∃ W2, W2 = w2.setCell ⟨g, at' % L, none⟩ (.int .u8 (bits .xor .u8 old x)) := ⟨_, rfl⟩
  rw [← hW2] at hst
  have hb3 : Below w.heap.size w W2 := by rw [hW2]; exact hb2'.setCell (Nat.le_trans hb1.size hg) _
  obtain ⟨ho3, hg3⟩ := hst
  have HW2 := Lib.hid hW2
  have HO3 := Lib.hid ho3
  clear ho2 hold hys hL hW2 hg3 ho3
  go_upto_region 7 with fail
  rw [← HW2.out]
  clear hcell hfr
  have hs3 := hb3.size
  have ho3' := HO3.out
  have R3 := rd_of_owns ho3'
  have HR3 := Lib.hid R3
  clear R3 HO3
  have ho3b := owns_mono (base' := w.heap.size) ho3' hb1.size
  go_wp2_with (first | (at_builtin; refine app_own _ elemB rfl _ _ rfl W2.heap.size (.slice none 0 0) 0 [] rfl (World.ownsRow_nil _ _ _ _) (.slice (some ⟨g, 0, none⟩) L cc) L (byt ys) rfl HR3.out (one_byt _) (by simp only [maxLen]; omega) (by omega) (Nat.le_refl _) ?_; intro p4 w4 ho4 hg4; simp only [Nat.zero_add, List.nil_append] at ho4) | (at_builtin; refine app_own _ elemB rfl _ _ rfl W2.heap.size p4 L (byt ys) rfl (ho4.alloc _) _ 1 (byt [0]) rfl (rd_new _ _ _ _ _ (by simp) (by simp [maxLen])) (one_byt _) (by simp only [maxLen]; omega) (by omega) (by have := hg4.size; simp; omega) ?_; intro p5 w5 ho5 hg5; obtain ⟨pa, pc, rfl, _, _, _⟩ := owns_shape ho5))
  have hb4 : Below W2.heap.size W2 w4 := below_of_grown_none (Below.refl _ _) (Nat.le_refl _) hg4
  have hs4 := hb4.size
  have hb5 : Below W2.heap.size W2 w5 := below_of_grown (hb4.alloc hs4 _) (by simp; omega) (ho4.alloc _) (Nat.le_refl _) rfl hg5
  have hs5 := hb5.size
  rw [← byt_append] at ho5
  obtain ⟨W, hW⟩ : ∃ W, W = w5.alloc (Obj.cells #[Value.slice a0 n0 cap0, Value.slice (some ⟨g, 0, none⟩) L cc, Value.slice pa (L + 1) pc] 22) := ⟨_, rfl⟩
  have hbW : Below W2.heap.size W2 W := by rw [hW]; exact hb5.alloc hs5 _
  have RB := Lib.hid ((R0.out.below hb3 (Nat.le_refl _)).below hbW (Nat.le_refl _))
  have RC := Lib.hid (HR3.out.below hbW (Nat.le_refl _))
  have RD : Rd W 1 (.slice pa (L + 1) pc) (L + 1) (byt (ys ++ [0])) := by rw [hW]; exact rd_of_owns (ho5.alloc _)
  have RDh := Lib.hid RD
  have e0 : W.cell? ⟨w5.heap.size, 0, none⟩ = some (.slice a0 n0 cap0) := by rw [hW]; simp [go_sem]
  have e1 : W.cell? ⟨w5.heap.size, 1, none⟩ = some (.slice (some ⟨g, 0, none⟩) L cc) := by rw [hW]; simp [go_sem]
  have e2 : W.cell? ⟨w5.heap.size, 2, none⟩ = some (.slice pa (L + 1) pc) := by rw [hW]; simp [go_sem]
  have hend : Below w.heap.size w W := hb3.trans (hbW.mono hs3)
  rw [← hW]
  clear hW ho4 ho5 hg4 hg5 ho3' ho3b RD
  go_loop [47] (fun i => ∃ k : Int, (k = 0 ∨ k = 1 ∨ k = 2 ∨ k = 3) ∧ i = .int .i64 k) (fun i => 3 - (intOf i).toNat)
  case atStart => exact ⟨0, by omega, rfl⟩
  case round =>
    obtain ⟨k, hk, rfl⟩ := hrel
    rcases hk with rfl | rfl | rfl | rfl
    · obtain ⟨u, m, t, hres⟩ : ∃ u m t, readRes (readVar xs) = (u, m, t) := ⟨_, _, _, rfl⟩
      have hu := readVar_lt xs hbx u m t hres
      have HR := Lib.hid hres
      cases t with
      | true =>
        clear hres
        go_wp2_with (first | (go_at_call 29; refine (read_any _ _ _ xs RB.out hbx u m true HR.out).mono ?_; rintro e w' ⟨rfl, rfl⟩) | (go_at_call 33; refine (rread_any _ _ _ xs RB.out hbx u m true HR.out).mono ?_; rintro e w' ⟨rfl, rfl⟩) | (go_at_call 31; refine (readInt_any _ _ _ xs RB.out hbx u m true HR.out).mono ?_; rintro e w' ⟨rfl, rfl⟩) | (go_at_call 34; refine (zag_any u hu _).mono ?_; rintro e w' ⟨rfl, rfl⟩))
        go_round
        case rel => exact ⟨1, by omega, rfl⟩
        case measure => simp [intOf]
      | false =>
        obtain rfl := readRes_no _ _ _ hres
        clear hres
        have z0 : zag 0 = 0 := rfl
        go_wp2_with (first | (go_at_call 29; refine (read_any _ _ _ xs RB.out hbx 0 m false HR.out).mono ?_; rintro e w' ⟨rfl, rfl⟩) | (go_at_call 33; refine (rread_any _ _ _ xs RB.out hbx 0 m false HR.out).mono ?_; rintro e w' ⟨rfl, rfl⟩) | (go_at_call 31; refine (readInt_any _ _ _ xs RB.out hbx 0 m false HR.out).mono ?_; rintro e w' ⟨rfl, rfl⟩))
        go_round
        case rel => exact ⟨1, by omega, rfl⟩
        case measure => simp [intOf]
    · obtain ⟨u, m, t, hres⟩ : ∃ u m t, readRes (readVar ys) = (u, m, t) := ⟨_, _, _, rfl⟩
      have hu := readVar_lt ys hby u m t hres
      have HR := Lib.hid hres
      cases t with
      | true =>
        clear hres
        go_wp2_with (first | (go_at_call 29; refine (read_any _ _ _ ys RC.out hby u m true HR.out).mono ?_; rintro e w' ⟨rfl, rfl⟩) | (go_at_call 33; refine (rread_any _ _ _ ys RC.out hby u m true HR.out).mono ?_; rintro e w' ⟨rfl, rfl⟩) | (go_at_call 31; refine (readInt_any _ _ _ ys RC.out hby u m true HR.out).mono ?_; rintro e w' ⟨rfl, rfl⟩) | (go_at_call 34; refine (zag_any u hu _).mono ?_; rintro e w' ⟨rfl, rfl⟩))
        go_round
        case rel => exact ⟨2, by omega, rfl⟩
        case measure => simp [intOf]
      | false =>
        obtain rfl := readRes_no _ _ _ hres
        clear hres
        have z0 : zag 0 = 0 := rfl
        go_wp2_with (first | (go_at_call 29; refine (read_any _ _ _ ys RC.out hby 0 m false HR.out).mono ?_; rintro e w' ⟨rfl, rfl⟩) | (go_at_call 33; refine (rread_any _ _ _ ys RC.out hby 0 m false HR.out).mono ?_; rintro e w' ⟨rfl, rfl⟩) | (go_at_call 31; refine (readInt_any _ _ _ ys RC.out hby 0 m false HR.out).mono ?_; rintro e w' ⟨rfl, rfl⟩))
        go_round
        case rel => exact ⟨2, by omega, rfl⟩
        case measure => simp [intOf]
    · obtain ⟨u, m, t, hres⟩ : ∃ u m t, readRes (readVar (ys ++ [0])) = (u, m, t) := ⟨_, _, _, rfl⟩
      have hu := readVar_lt (ys ++ [0]) (bytes_snoc hby 0 (by omega)) u m t hres
      have HR := Lib.hid hres
      cases t with
      | true =>
        clear hres
        go_wp2_with (first | (go_at_call 29; refine (read_any _ _ _ (ys ++ [0]) RDh.out (bytes_snoc hby 0 (by omega)) u m true HR.out).mono ?_; rintro e w' ⟨rfl, rfl⟩) | (go_at_call 33; refine (rread_any _ _ _ (ys ++ [0]) RDh.out (bytes_snoc hby 0 (by omega)) u m true HR.out).mono ?_; rintro e w' ⟨rfl, rfl⟩) | (go_at_call 31; refine (readInt_any _ _ _ (ys ++ [0]) RDh.out (bytes_snoc hby 0 (by omega)) u m true HR.out).mono ?_; rintro e w' ⟨rfl, rfl⟩) | (go_at_call 34; refine (zag_any u hu _).mono ?_; rintro e w' ⟨rfl, rfl⟩))
        go_round
        case rel => exact ⟨3, by omega, rfl⟩
        case measure => simp [intOf]
      | false =>
        obtain rfl := readRes_no _ _ _ hres
        clear hres
        have z0 : zag 0 = 0 := rfl
        go_wp2_with (first | (go_at_call 29; refine (read_any _ _ _ (ys ++ [0]) RDh.out (bytes_snoc hby 0 (by omega)) 0 m false HR.out).mono ?_; rintro e w' ⟨rfl, rfl⟩) | (go_at_call 33; refine (rread_any _ _ _ (ys ++ [0]) RDh.out (bytes_snoc hby 0 (by omega)) 0 m false HR.out).mono ?_; rintro e w' ⟨rfl, rfl⟩) | (go_at_call 31; refine (readInt_any _ _ _ (ys ++ [0]) RDh.out (bytes_snoc hby 0 (by omega)) 0 m false HR.out).mono ?_; rintro e w' ⟨rfl, rfl⟩))
        go_round
        case rel => exact ⟨3, by omega, rfl⟩
        case measure => simp [intOf]
    · go_wp2_with fail
      go_ret
      exact ⟨rfl, hend⟩
theorem varReads_law (a0 : Option Addr) (len0 cap0 : Nat) (z0 : List Int) (a1 a2 a3 : Int) (w : World) (w0 : RowOf .u8 w a0 len0 cap0 z0) (w1 : (Lit.int .u64 a1).wf = true) (w2 : (Lit.int .u8 a2).wf = true) (w3 : (Lit.int .u8 a3).wf = true) :
    Calls Try.prog 7 #[.slice a0 len0 cap0, .int .u64 a1, .int .u8 a2, .int .u8 a3] w fun e w' => e = .returned (.bool true) ∧ Below w.heap.size w w' := by
  have h1 := rng_u64 w1
  have h2 := rng_u8 w2
  have h3 := rng_u8 w3
  obtain ⟨v, rfl⟩ := Int.eq_ofNat_of_zero_le h1.1
  obtain ⟨t, rfl⟩ := Int.eq_ofNat_of_zero_le h2.1
  exact varReads_walk a0 len0 cap0 (z0.take len0) v t a3 w (by omega) (by omega) h3.1 h3.2 w0.rd (fun x hx => rng_u8 (w0.wf x hx)) w0.bounds.1 w0.bounds.2
end Go.Proofs.Ytjgndjcpdedkiaa
