/- known4, and the walks of the laws of files. -/
import Derived.Test.YtmdhiigonlnoiaaBox4
namespace Go.Proofs.Ytmdhiigonlnoiaa
open Go.RowKit Go.Waf
set_option maxRecDepth 100000
set_option linter.unusedVariables false

theorem wrap_mono {k : Int} {p : List Int} {P : Program} {f : FuncId} {args : Array Value} {w : World} (h : Calls P f args w (WrapRet k p w)) (R : Ending → World → Prop)
    (hR : ∀ u w', w'.ownsRow w.heap.size 5 1 u (wrapB k p).length (byt (wrapB k p)) → Below w.heap.size w w' → R (.returned (.tuple #[u, .int .i64 0])) w') : Calls P f args w R :=
  h.mono fun _ _ ⟨u, he, h1, h2⟩ => he ▸ hR u _ h1 h2
theorem open_mono {ys : List Int} {P : Program} {f : FuncId} {args : Array Value} {w : World} (h : Calls P f args w (OpenRet ys w)) (a : Int) (q : List Int) (j : Int) (ho : openB ys = (a, q, j)) (R : Ending → World → Prop)
    (hR : ∀ u w', w'.ownsRow w.heap.size 5 1 u q.length (byt q) → Below w.heap.size w w' → R (.returned (.tuple #[.int .u8 a, u, .int .i64 j])) w') : Calls P f args w R :=
  h.mono fun _ _ ⟨u, he, h1, h2⟩ => by rw [ho] at he h1; exact he ▸ hR u _ h1 h2

theorem wrapB_bytes (k : Int) (p : List Int) (hk : 0 ≤ k ∧ k ≤ 255) (hp : Bytes p) : Bytes (wrapB k p) := by
  intro x hx
  rw [wrapB, headB] at hx
  simp only [List.mem_append] at hx
  rcases hx with (((hx | hx) | hx) | hx) | hx
  · exact sgn_bytes x hx
  · simp at hx; omega
  · exact putVar_bytes _ x hx
  · exact hp x hx
  · simp only [four, List.mem_cons, List.not_mem_nil, or_false] at hx; omega
theorem xor_byte (a b : Int) : 0 ≤ bits .xor .u8 a b ∧ bits .xor .u8 a b ≤ 255 := by
  have e : bits .xor .u8 a b = (IntKind.u8.wrap ((BitVec.ofInt 8 a ^^^ BitVec.ofInt 8 b).toNat : Int)) := rfl
  rw [e, IntKind.wrap_u8]; omega
theorem xor_ne (a b : Int) (ha : 0 ≤ a ∧ a ≤ 255) (hb : 0 ≤ b ∧ b ≤ 255) (hne : b ≠ 0) : bits .xor .u8 a b ≠ a := by
  obtain ⟨x, rfl⟩ := Int.eq_ofNat_of_zero_le ha.1
  obtain ⟨y, rfl⟩ := Int.eq_ofNat_of_zero_le hb.1
  rw [u8_xor_nat x y (by omega) (by omega)]
  intro h
  have h1 : x ^^^ y = x := by omega
  have h2 : x ^^^ (x ^^^ y) = x ^^^ x := by rw [h1]
  rw [← Nat.xor_assoc, Nat.xor_self, Nat.zero_xor] at h2
  omega
theorem byt_set (xs : List Int) (j : Nat) (u : Int) : (byt xs).set j (.int .u8 u) = byt (xs.set j u) := by simp [byt, List.map_set]
theorem bytes_set {xs : List Int} (h : Bytes xs) (j : Nat) (u : Int) (hu : 0 ≤ u ∧ u ≤ 255) : Bytes (xs.set j u) := by
  intro x hx
  rcases List.mem_or_eq_of_mem_set hx with h1 | h1
  · exact h x h1
  · rw [h1]; exact hu

theorem wrapB_short (k : Int) (p : List Int) (h : p.length < 128) : (wrapB k p).length = 10 + p.length := by
  rw [wrapB_length, putVar_lt _ h]; simp; omega

set_option maxHeartbeats 1600000 in
theorem known4 (w : World) : Calls Try.prog 45 #[] w fun e w' => e = .returned (.bool true) ∧ Below w.heap.size w w' := by
  have kc := fun (w : World) (C : Array Value) (n c : Nat) => Lib.run_convert_bytes_const (P := Try.prog) w 33 5 C n c Try.underlying33 Try.underlying5
  go_enter Try.func45, Try.ntmps45
  go_wp2_with fail
  refine wrap_mono (wrap_any _ 3 (by omega) _ 2 [97, 98] (rd_marked w (byt [97, 98]) 5 2 1 (2, 3) rfl (by simp [maxLen])) (by intro x hx; simp at hx; omega) (by omega)) _ ?_
  intro u w1 ho1 b1
  have hl : (wrapB 3 [97, 98]).length = 12 := wrapB_short _ _ (by decide)
  have hbB : Bytes (wrapB 3 [97, 98]) := wrapB_bytes _ _ (by omega) (by intro x hx; simp at hx; omega)
  obtain ⟨W, hW⟩ : ∃ W, W = wrapB 3 [97, 98] := ⟨_, rfl⟩
  have hop : openB W = (3, [97, 98], 0) := by rw [hW]; exact open_wrap _ _ (by decide)
  rw [← hW] at ho1 hl hbB
  rw [hl] at ho1
  obtain ⟨ua, uc, rfl, _, _, _⟩ := owns_shape ho1
  have B1 := Lib.hid (((Below.refl w.heap.size w).alloc (Nat.le_refl _) (.cells #[.int .u8 97, .int .u8 98] 5 (2, 3))).trans (b1.mono (by simp)))
  have R1 := Lib.hid (rd_of_owns ho1)
  have HB := Lib.hid hbB
  have HOP := Lib.hid hop
  clear ho1 b1 hW hop hbB hl
  go_wp2_with fail
  refine open_mono (open_any _ _ 12 W R1.out HB.out (by omega)) 3 [97, 98] 0 HOP.out _ ?_
  intro q w2 ho2 b2
  have B2 := Lib.hid (B1.out.trans (b2.mono B1.out.size))
  have R2 := Lib.hid (rd_of_owns ho2)
  clear ho2 b2
  go_wp2_with fail
  refine open_mono (open_any _ _ 0 [] (Rd.nil _ _) (by intro x hx; simp at hx) (by omega)) 0 [] 20 (by simp [openB]) _ ?_
  intro z w3 ho3 b3
  have B3 := Lib.hid (B2.out.trans (b3.mono B2.out.size))
  have R3 := Lib.hid (R2.out.below b3 (Nat.le_refl _))
  clear ho3 b3
  go_wp2_with fail
  refine (sum_any _ _ 9 [87, 105, 107, 105, 112, 101, 100, 105, 97] (rd_marked w3 (byt [87, 105, 107, 105, 112, 101, 100, 105, 97]) 5 9 1 (9, 10) rfl (by simp [maxLen])) (by intro x hx; simp at hx; omega)).mono ?_; rintro e w4 ⟨rfl, rfl⟩
  have hs : sumOf [87, 105, 107, 105, 112, 101, 100, 105, 97] = 300286872 := by decide +kernel
  rw [hs]
  have c3 := convB (R3.out.below ((Below.refl w3.heap.size w3).alloc (Nat.le_refl _) (.cells (byt [87, 105, 107, 105, 112, 101, 100, 105, 97]).toArray 5 (9, 10))) (Nat.le_refl _))
  have q3 : ((strOfNums [97, 98]).toList == [97, 98]) = true := by decide +kernel
  go_wp2_with fail
  go_ret
  exact ⟨rfl, B3.out.alloc B3.out.size _⟩

set_option maxHeartbeats 1600000 in
theorem boxBack_walk (k : Int) (hk : 0 ≤ k ∧ k ≤ 255) (a1 : Option Addr) (n1 c1 : Nat) (p : List Int) (w : World) (hr1 : Rd w 1 (.slice a1 n1 c1) n1 (byt p)) (hp : Bytes p) (hc0 : n1 ≤ c1) (hc1 : c1 ≤ 9223372036854775807) :
    Calls Try.prog 11 #[.int .u8 k, .slice a1 n1 c1] w fun e w' => e = .returned (.bool true) ∧ Below w.heap.size w w' := by
  by_cases hbig : 1000 < n1
  · go_enter Try.func11, Try.ntmps11
    go_wp2_with fail
    refine (known4 _).mono ?_; rintro e w1 ⟨rfl, hb1⟩
    go_wp2_with fail
    go_ret
    exact ⟨rfl, hb1⟩
  have hlp : p.length = n1 := by have := hr1.1; simpa [byt] using this
  have R := Lib.hid hr1
  have HP := Lib.hid hp
  have hop : openB (wrapB k p) = (k, p, 0) := open_wrap k p (by omega)
  have hwl : (wrapB k p).length ≤ 2000 := by have := putVar_len p.length (by omega); rw [wrapB_length]; omega
  have hwb := wrapB_bytes k p hk hp
  obtain ⟨W, hW⟩ : ∃ W, W = wrapB k p := ⟨_, rfl⟩
  rw [← hW] at hop hwl hwb
  obtain ⟨L, hL⟩ : ∃ L, L = W.length := ⟨_, rfl⟩
  rw [← hL] at hwl
  have HW := Lib.hid hW
  have HL := Lib.hid hL
  have HOP := Lib.hid hop
  have HWB := Lib.hid hwb
  have HLP := Lib.hid hlp
  clear hr1 hp hop hwb hW hL hlp
  go_enter Try.func11, Try.ntmps11
  go_wp2_with fail
  refine (known4 _).mono ?_; rintro e w1 ⟨rfl, b1⟩
  have B1 := Lib.hid b1
  clear b1
  go_wp2_with fail
  refine wrap_mono (wrap_any _ k hk _ n1 p (R.out.below B1.out (Nat.le_refl _)) HP.out (by omega)) _ ?_
  rw [← HW.out, ← HL.out]
  intro u w2 ho2 b2
  have B2 := Lib.hid (B1.out.trans (b2.mono B1.out.size))
  have R2 := Lib.hid (rd_of_owns ho2)
  clear ho2 b2
  go_wp2_with fail
  refine wrap_mono (rwrap_any _ k hk _ n1 p (R.out.below B2.out (Nat.le_refl _)) HP.out (by omega)) _ ?_
  rw [← HW.out, ← HL.out]
  intro v w3 ho3 b3
  have B3 := Lib.hid (B2.out.trans (b3.mono B2.out.size))
  have R3 := Lib.hid (rd_of_owns ho3)
  have R23 := Lib.hid (R2.out.below b3 (Nat.le_refl _))
  clear ho3 b3
  go_wp2_with fail
  refine open_mono (open_any _ _ L W R23.out HWB.out (by omega)) k p 0 HOP.out _ ?_
  intro q w4 ho4 b4
  have B4 := Lib.hid (B3.out.trans (b4.mono B3.out.size))
  have cu := convB (R23.out.below b4 (Nat.le_refl _))
  have cv := convB (R3.out.below b4 (Nat.le_refl _))
  have cq := convB (rd_of_owns ho4)
  have RP := R.out.below B4.out (Nat.le_refl _)
  have cp := convB RP
  have HRP := Lib.hid RP
  clear ho4 b4 RP
  go_wp2_with fail
  refine (sum_any _ _ n1 p HRP.out HP.out).mono ?_; rintro e w5 ⟨rfl, rfl⟩
  go_wp2_with fail
  refine (rsum_any _ _ n1 p HRP.out HP.out).mono ?_; rintro e w6 ⟨rfl, rfl⟩
  go_wp2_with fail
  go_ret
  exact ⟨rfl, B4.out⟩

set_option maxHeartbeats 1600000 in
theorem boxChanged_walk (k : Int) (hk : 0 ≤ k ∧ k ≤ 255) (a1 : Option Addr) (n1 c1 : Nat) (p : List Int) (t x : Int) (ht : 0 ≤ t ∧ t ≤ 65535) (hx : 0 ≤ x ∧ x ≤ 255) (w : World) (hr1 : Rd w 1 (.slice a1 n1 c1) n1 (byt p)) (hp : Bytes p) (hc0 : n1 ≤ c1) (hc1 : c1 ≤ 9223372036854775807) :
    Calls Try.prog 13 #[.int .u8 k, .slice a1 n1 c1, .int .u16 t, .int .u8 x] w fun e w' => e = .returned (.bool true) ∧ Below w.heap.size w w' := by
  by_cases hbig : 300 < n1
  · go_enter Try.func13, Try.ntmps13
    go_wp2_with fail
    refine (known4 _).mono ?_; rintro e w1 ⟨rfl, hb1⟩
    go_wp2_with fail
    go_ret
    exact ⟨rfl, hb1⟩
  by_cases hx0 : x = 0
  · subst hx0
    go_enter Try.func13, Try.ntmps13
    go_wp2_with fail
    refine (known4 _).mono ?_; rintro e w1 ⟨rfl, hb1⟩
    go_wp2_with fail
    go_ret
    exact ⟨rfl, hb1⟩
  have hlp : p.length = n1 := by have := hr1.1; simpa [byt] using this
  have R := Lib.hid hr1
  have HP := Lib.hid hp
  have hwl : (wrapB k p).length ≤ 2000 ∧ 1 ≤ (wrapB k p).length := by have := putVar_len p.length (by omega); rw [wrapB_length]; omega
  have hwb := wrapB_bytes k p hk hp
  obtain ⟨W, hW⟩ : ∃ W, W = wrapB k p := ⟨_, rfl⟩
  rw [← hW] at hwl hwb
  obtain ⟨L, hL⟩ : ∃ L, L = W.length := ⟨_, rfl⟩
  rw [← hL] at hwl
  obtain ⟨hwl, hwl0⟩ := hwl
  obtain ⟨i, hi⟩ : ∃ i : Nat, (i : Int) = t % (L : Int) := ⟨(t % (L : Int)).toNat, by have := Int.emod_nonneg t (show (L : Int) ≠ 0 by omega); omega⟩
  have hiL : i < L := by have := Int.emod_lt_of_pos t (show 0 < (L : Int) by omega); omega
  obtain ⟨c, hc⟩ : ∃ c, c = W.getD i 0 := ⟨_, rfl⟩
  have hcb : 0 ≤ c ∧ c ≤ 255 := by
    have : W.getD i 0 = W[i] := by simp [List.getD, show i < W.length by omega]
    rw [hc, this]; exact hwb _ (List.getElem_mem _)
  obtain ⟨d, hd⟩ : ∃ d, d = bits .xor .u8 c x := ⟨_, rfl⟩
  have hdb : 0 ≤ d ∧ d ≤ 255 := by rw [hd]; exact xor_byte c x
  have hdc : d ≠ c := by rw [hd]; exact xor_ne c x hcb hx hx0
  have hch := open_changed k p hk hp i (by rw [← hW, ← hL]; exact hiL) d hdb (by rw [← hW, ← hc]; exact hdc)
  rw [← hW] at hch
  obtain ⟨j, hj⟩ : ∃ j, (openB (W.set i d)).2.2 = j := ⟨_, rfl⟩
  rw [hj] at hch
  have hop : openB (W.set i d) = ((openB (W.set i d)).1, (openB (W.set i d)).2.1, j) := by rw [← hj]
  obtain ⟨j1, hj1⟩ : ∃ j1, (openB (W.set i d)).1 = j1 := ⟨_, rfl⟩
  obtain ⟨j2, hj2⟩ : ∃ j2, (openB (W.set i d)).2.1 = j2 := ⟨_, rfl⟩
  rw [hj1, hj2] at hop
  have hsb : Bytes (W.set i d) := bytes_set hwb i d hdb
  have hmod : t % (L : Int) = i := hi.symm
  have hxq : (x == 0) = false := by simp [hx0]
  have HW := Lib.hid hW
  have HL := Lib.hid hL
  have HOP := Lib.hid hop
  have HSB := Lib.hid hsb
  have HLP := Lib.hid hlp
  have HCC := Lib.hid hc
  have HD := Lib.hid hd
  obtain ⟨hcb0, hcb1⟩ := hcb
  obtain ⟨hx1, hx2⟩ := hx
  obtain ⟨ht1, ht2⟩ := ht
  clear hr1 hp hop hwb hW hL hlp hi hc hd hdc hj hj1 hj2 hsb hx0
  go_enter Try.func13, Try.ntmps13
  go_wp2_with fail
  refine (known4 _).mono ?_; rintro e w1 ⟨rfl, b1⟩
  have B1 := Lib.hid b1
  clear b1
  go_wp2_with fail
  refine wrap_mono (wrap_any _ k hk _ n1 p (R.out.below B1.out (Nat.le_refl _)) HP.out (by omega)) _ ?_
  rw [← HW.out, ← HL.out]
  intro u w2 ho2 b2
  have B2 := Lib.hid (B1.out.trans (b2.mono B1.out.size))
  obtain ⟨g, gc, rfl, hgb, hgs, hgc1, hgc2⟩ := owns_some ho2 (by omega)
  have hcell := ho2.cellAt i (by omega)
  rw [byt_get _ _ (by rw [← HL.out]; exact hiL), ← HCC.out] at hcell
  have hfr := ho2.frozenAt i
  have hst := ho2.stored i (.int .u8 d)
  rw [byt_set] at hst
  have HST := Lib.hid hst.1
  have hB3 : Below w.heap.size w (w2.setCell ⟨g, i, none⟩ (.int .u8 d)) := B2.out.setCell (Nat.le_trans B1.out.size hgb) _
  have HB3 := Lib.hid hB3
  rw [HD.out] at HST HB3
  clear ho2 b2 hst hB3
  go_wp2_with fail
  refine open_mono (open_any _ _ L (W.set i d) (by rw [HD.out]; exact rd_of_owns HST.out) HSB.out (by omega)) j1 j2 j HOP.out _ ?_
  intro q w4 ho4 b4
  have B4 := Lib.hid (HB3.out.trans (b4.mono HB3.out.size))
  clear ho4 b4
  rcases hch with rfl | rfl | rfl
  all_goals
    go_wp2_with fail
    go_ret
    exact ⟨rfl, B4.out⟩
theorem boxBack_law (a0 : Int) (a1 : Option Addr) (len1 cap1 : Nat) (z1 : List Int) (w : World) (w0 : (Lit.int .u8 a0).wf = true) (w1 : RowOf .u8 w a1 len1 cap1 z1) :
    Calls Try.prog 11 #[.int .u8 a0, .slice a1 len1 cap1] w fun e w' => e = .returned (.bool true) ∧ Below w.heap.size w w' :=
  boxBack_walk a0 (rng_u8 w0) a1 len1 cap1 (z1.take len1) w w1.rd (fun x hx => rng_u8 (w1.wf x hx)) w1.bounds.1 w1.bounds.2
theorem boxChanged_law (a0 : Int) (a1 : Option Addr) (len1 cap1 : Nat) (z1 : List Int) (a2 a3 : Int) (w : World) (w0 : (Lit.int .u8 a0).wf = true) (w1 : RowOf .u8 w a1 len1 cap1 z1) (w2 : (Lit.int .u16 a2).wf = true) (w3 : (Lit.int .u8 a3).wf = true) :
    Calls Try.prog 13 #[.int .u8 a0, .slice a1 len1 cap1, .int .u16 a2, .int .u8 a3] w fun e w' => e = .returned (.bool true) ∧ Below w.heap.size w w' :=
  boxChanged_walk a0 (rng_u8 w0) a1 len1 cap1 (z1.take len1) a2 a3 (rng_u16 w2) (rng_u8 w3) w w1.rd (fun x hx => rng_u8 (w1.wf x hx)) w1.bounds.1 w1.bounds.2
end Go.Proofs.Ytmdhiigonlnoiaa
