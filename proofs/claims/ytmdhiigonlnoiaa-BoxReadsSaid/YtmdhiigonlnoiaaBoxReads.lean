/- The walk of BoxReads. -/
import Derived.Test.YtmdhiigonlnoiaaBoxLaws
import Derived.Deep.CutBlock
namespace Go.Proofs.Ytmdhiigonlnoiaa
open Go.RowKit Go.Waf
set_option maxRecDepth 100000
set_option linter.unusedVariables false

/-- What the law asks of one text: both answer alike. -/
theorem wrapLen (k : Int) (p : List Int) (h : p.length ≤ 300) : (wrapB k p).length ≤ 2000 ∧ 1 ≤ (wrapB k p).length := by
  have := putVar_len p.length (by omega); rw [wrapB_length]; omega

/-- The three texts, each in its turn: from a world in which the three lie. -/
def ThreeAt (w0 w : World) (q : Nat) (ys : Nat → List Int) : Prop :=
  Below w0.heap.size w0 w ∧ (∀ j, j < 3 → ∃ v n, w.cell? ⟨q, j, none⟩ = some v ∧ Rd w 1 v n (byt (ys j)) ∧ Bytes (ys j) ∧ n ≤ 100000)
theorem ThreeAt.below {w0 w w' : World} {q : Nat} {ys : Nat → List Int} (h : ThreeAt w0 w q ys) (hb : Below w.heap.size w w') : ThreeAt w0 w' q ys :=
  ⟨h.1.trans (hb.mono h.1.size), fun j hj => by obtain ⟨v, n, h1, h2, h3, h4⟩ := h.2 j hj; exact ⟨v, n, cell_below hb (Nat.le_refl _) h1, h2.below hb (Nat.le_refl _), h3, h4⟩⟩

theorem three_new (w0 w3 : World) (T : TypeId) (v0 v1 v2 : Value) (n0 n1 n2 : Nat) (y0 y1 y2 : List Int) (hb : Below w0.heap.size w0 w3) (r0 : Rd w3 1 v0 n0 (byt y0)) (r1 : Rd w3 1 v1 n1 (byt y1)) (r2 : Rd w3 1 v2 n2 (byt y2))
    (b0 : Bytes y0) (b1 : Bytes y1) (b2 : Bytes y2) (l0 : n0 ≤ 100000) (l1 : n1 ≤ 100000) (l2 : n2 ≤ 100000) :
    ThreeAt w0 (w3.alloc (.cells #[v0, v1, v2] T)) w3.heap.size (fun j => [y0, y1, y2].getD j []) := by
  have hn : Below w3.heap.size w3 (w3.alloc (.cells #[v0, v1, v2] T)) := (Below.refl _ _).alloc (Nat.le_refl _) _
  refine ⟨hb.trans (hn.mono hb.size), fun j hj => ?_⟩
  rcases (by omega : j = 0 ∨ j = 1 ∨ j = 2) with rfl | rfl | rfl
  · exact ⟨v0, n0, by rw [World.cell?_alloc_new]; rfl, r0.below hn (Nat.le_refl _), b0, l0⟩
  · exact ⟨v1, n1, by rw [World.cell?_alloc_new]; rfl, r1.below hn (Nat.le_refl _), b1, l1⟩
  · exact ⟨v2, n2, by rw [World.cell?_alloc_new]; rfl, r2.below hn (Nat.le_refl _), b2, l2⟩

set_option maxHeartbeats 3200000 in
theorem boxReads_walk (a0 : Option Addr) (n0 c0 : Nat) (xs : List Int) (k : Int) (hk : 0 ≤ k ∧ k ≤ 255) (a1 : Option Addr) (n1 c1 : Nat) (p : List Int) (t x h : Int) (ht : 0 ≤ t ∧ t ≤ 65535) (hx : 0 ≤ x ∧ x ≤ 255) (hh : 0 ≤ h ∧ h ≤ 255) (w : World)
    (hr0 : Rd w 1 (.slice a0 n0 c0) n0 (byt xs)) (hxs : Bytes xs) (hd0 : n0 ≤ c0) (hd1 : c0 ≤ 9223372036854775807)
    (hr1 : Rd w 1 (.slice a1 n1 c1) n1 (byt p)) (hp : Bytes p) (hc0 : n1 ≤ c1) (hc1 : c1 ≤ 9223372036854775807) :
    Calls Try.prog 12 #[.slice a0 n0 c0, .int .u8 k, .slice a1 n1 c1, .int .u16 t, .int .u8 x, .int .u8 h] w fun e w' => e = .returned (.bool true) ∧ Below w.heap.size w w' := by
  by_cases hbig0 : 300 < n0
  · go_enter Try.func12, Try.ntmps12
    go_wp2_with fail
    refine (known4 _).mono ?_; rintro e w1 ⟨rfl, hb1⟩
    go_wp2_with fail
    go_ret
    exact ⟨rfl, hb1⟩
  by_cases hbig : 300 < n1
  · go_enter Try.func12, Try.ntmps12
    go_wp2_with fail
    refine (known4 _).mono ?_; rintro e w1 ⟨rfl, hb1⟩
    go_wp2_with fail
    go_ret
    exact ⟨rfl, hb1⟩
  have hlp : p.length = n1 := by have := hr1.1; simpa [byt] using this
  have hlx : xs.length = n0 := by have := hr0.1; simpa [byt] using this
  have R0 := Lib.hid hr0
  have R := Lib.hid hr1
  have HXS := Lib.hid hxs
  have HP := Lib.hid hp
  obtain ⟨hwl, hwl0⟩ := wrapLen k p (by omega)
  have hwb := wrapB_bytes k p hk hp
  obtain ⟨W, hW⟩ : ∃ W, W = wrapB k p := ⟨_, rfl⟩
  rw [← hW] at hwl hwb hwl0
  obtain ⟨L, hL⟩ : ∃ L, L = W.length := ⟨_, rfl⟩
  rw [← hL] at hwl hwl0
  obtain ⟨i, hi⟩ : ∃ i : Nat, (i : Int) = t % (L : Int) := ⟨(t % (L : Int)).toNat, by have := Int.emod_nonneg t (show (L : Int) ≠ 0 by omega); omega⟩
  have hiL : i < L := by have := Int.emod_lt_of_pos t (show 0 < (L : Int) by omega); omega
  obtain ⟨c, hc⟩ : ∃ c, c = W.getD i 0 := ⟨_, rfl⟩
  have hmod : t % (L : Int) = i := hi.symm
  have HW := Lib.hid hW
  have HL := Lib.hid hL
  have HWB := Lib.hid hwb
  have HLP := Lib.hid hlp
  have HLX := Lib.hid hlx
  have HCC := Lib.hid hc
  obtain ⟨hx1, hx2⟩ := hx
  obtain ⟨ht1, ht2⟩ := ht
  obtain ⟨hh1, hh2⟩ := hh
  clear hr0 hr1 hxs hp hwb hW hL hlp hlx hi hc
  go_enter Try.func12, Try.ntmps12
  go_wp2_with fail
  refine (known4 _).mono ?_; rintro e w1 ⟨rfl, b1⟩
  have B1 := Lib.hid b1
  clear b1
  go_wp2_with fail
  refine wrap_mono (rwrap_any _ k hk _ n1 p (R.out.below B1.out (Nat.le_refl _)) HP.out (by omega)) _ ?_
  rw [← HW.out, ← HL.out]
  intro u w2 ho2 b2
  have B2 := Lib.hid (B1.out.trans (b2.mono B1.out.size))
  obtain ⟨g, gc, rfl, hgb, hgs, hgc1, hgc2⟩ := owns_some ho2 (by omega)
  have hcell := ho2.cellAt i (by omega)
  rw [byt_get _ _ (by rw [← HL.out]; exact hiL), ← HCC.out] at hcell
  have hfr := ho2.frozenAt i
  have HO2 := Lib.hid ho2
  have hgw := Nat.le_trans B1.out.size hgb
  clear ho2 b2
  go_upto_block 0 with fail
  rw [hmod]
  go_cut [13] (fun b wx => ∃ n ys, Rd wx 1 b n (byt ys) ∧ Bytes ys ∧ n ≤ 3000 ∧ Below w.heap.size w wx)
  case first =>
    rcases (by omega : h % 3 = 0 ∨ h % 3 = 1 ∨ h % 3 = 2) with h3 | h3 | h3
    · have q0 : (h % 3 == 0) = true := by simp [h3]
      clear h3
      obtain ⟨d, hd⟩ : ∃ d, d = bits .xor .u8 c x := ⟨_, rfl⟩
      have hdb : 0 ≤ d ∧ d ≤ 255 := by rw [hd]; exact xor_byte c x
      have hst := (HO2.out.stored i (.int .u8 d)).1
      rw [byt_set] at hst
      have HST := Lib.hid hst
      have HD := Lib.hid hd
      clear hst hd
      go_wp2_with fail
      go_meet
      case rel =>
        refine ⟨L, W.set i d, ?_, bytes_set HWB.out i d hdb, by omega, B2.out.setCell hgw _⟩
        rw [← HD.out]
        exact rd_of_owns HST.out
    · have q0 : (h % 3 == 0) = false := by simp [h3]
      have q1 : (h % 3 == 1) = true := by simp [h3]
      clear h3
      have hr := (rd_of_owns HO2.out).take i gc (by omega) (by omega) (Nat.le_refl _)
      rw [Nat.mul_one, byt, ← List.map_take] at hr
      have HR := Lib.hid hr
      clear hr
      go_wp2_with fail
      go_meet
      case rel => exact ⟨i, W.take i, HR.out, fun z hz => HWB.out z (List.mem_of_mem_take hz), by omega, B2.out⟩
    · have q0 : (h % 3 == 0) = false := by simp [h3]
      have q1 : (h % 3 == 1) = false := by simp [h3]
      clear h3
      go_wp2_with (at_builtin; refine app_own _ elemB rfl _ _ rfl w1.heap.size _ L (byt W) rfl (HO2.out.alloc _) _ 1 (byt [x]) rfl (rd_new _ _ _ _ _ (by simp) (by simp [maxLen])) (one_byt _) (by simp only [maxLen]; omega) (by omega) (by simp; omega) ?_; intro v3 w3 ho3 hg3)
      go_meet
      case rel =>
        refine ⟨L + 1, W ++ [x], ?_, ?_, by omega, below_of_grown (B2.out.alloc B2.out.size _) (by simp; omega) (HO2.out.alloc _) B1.out.size rfl hg3⟩
        · rw [byt_append]; exact rd_of_owns ho3
        · intro z hz
          rcases List.mem_append.1 hz with hz | hz
          · exact HWB.out z hz
          · simp at hz; omega
  case rest =>
    obtain ⟨n, ys, hrb, hyb, hn3, hbw⟩ := hcut
    obtain ⟨ba, bc, rfl, bc1, bc2, bc3⟩ := rd_shape hrb
    unfold maxLen at bc2
    have RB := Lib.hid hrb
    have HYB := Lib.hid hyb
    have HBW := Lib.hid hbw
    clear hrb hyb hbw hcell hfr
    have kc := fun (w : World) (C : Array Value) (n c : Nat) => Lib.run_convert_bytes_const (P := Try.prog) w 33 5 C n c Try.underlying33 Try.underlying5
    have HR1 := Lib.hid (rd_marked wc (byt sgn) 5 4 1 (4, 5) rfl (by simp [maxLen]))
    have HR2 := Lib.hid ((R0.out.below HBW.out (Nat.le_refl _)).below ((Below.refl wc.heap.size wc).alloc (Nat.le_refl _) (.cells (byt sgn).toArray 5 (4, 5))) (Nat.le_refl _))
    go_upto_region 13 with fail
    go_cut [71, 72, 73] (fun a m i wx => ∃ q, a = .slice (some ⟨q, 0, none⟩) 3 3 ∧ m = .int .i64 3 ∧ i = .int .i64 0 ∧ ThreeAt w wx q (fun j => [xs, ys, sgn ++ xs].getD j []))
    case first =>
      rcases Nat.eq_zero_or_pos n0 with hn0 | hn0
      · subst hn0
        have hx0 : xs = [] := List.eq_nil_of_length_eq_zero HLX.out
        subst hx0
        have b3 : Below wc.heap.size wc (wc.alloc (.cells (byt sgn).toArray 5 (4, 5))) := (Below.refl _ _).alloc (Nat.le_refl _) _
        obtain ⟨_, _, he, _, _, hnil⟩ := rd_shape R0.out
        cases he
        cases a0 with
        | none =>
          obtain rfl := hnil rfl
          go_wp2_with fail
          go_meet
          case rel =>
            have ht := three_new w _ 33 _ _ _ 0 n 4 [] ys (sgn ++ []) (HBW.out.trans (b3.mono HBW.out.size)) (R0.out.below (HBW.out.trans (b3.mono HBW.out.size)) (Nat.le_refl _)) (RB.out.below b3 (Nat.le_refl _)) HR1.out (by intro z hz; simp at hz) HYB.out sgn_bytes (by omega) (by omega) (by omega)
            rw [World.size_alloc] at ht
            exact ⟨_, rfl, rfl, rfl, ht⟩
        | some a =>
          clear hnil
          go_wp2_with fail
          go_meet
          case rel =>
            have ht := three_new w _ 33 _ _ _ 0 n 4 [] ys (sgn ++ []) (HBW.out.trans (b3.mono HBW.out.size)) (R0.out.below (HBW.out.trans (b3.mono HBW.out.size)) (Nat.le_refl _)) (RB.out.below b3 (Nat.le_refl _)) HR1.out (by intro z hz; simp at hz) HYB.out sgn_bytes (by omega) (by omega) (by omega)
            rw [World.size_alloc] at ht
            exact ⟨_, rfl, rfl, rfl, ht⟩
      · go_wp2_with (at_builtin; refine app_full _ elemB rfl _ _ rfl _ 4 (byt sgn) rfl HR1.out _ n0 (byt xs) rfl HR2.out (one_byt _) hn0 (by simp only [maxLen]; omega) (by omega) ?_; intro v3 w3 ho3 hg3; rw [← byt_append] at ho3; obtain ⟨va, vc, rfl, _, _, _⟩ := owns_shape ho3)
        go_meet
        case rel =>
          have b3 : Below wc.heap.size wc w3 := below_of_grown_none ((Below.refl _ _).alloc (Nat.le_refl _) _) (by simp) hg3
          refine ⟨w3.heap.size, rfl, rfl, rfl, three_new w w3 _ _ _ _ n0 n (4 + n0) xs ys (sgn ++ xs) (HBW.out.trans (b3.mono HBW.out.size)) (R0.out.below (HBW.out.trans (b3.mono HBW.out.size)) (Nat.le_refl _)) (RB.out.below b3 (Nat.le_refl _)) (rd_of_owns ho3) HXS.out HYB.out ?_ (by omega) (by omega) (by omega)⟩
          intro z hz
          rcases List.mem_append.1 hz with hz | hz
          · exact sgn_bytes z hz
          · exact HXS.out z hz
    case rest =>
      obtain ⟨q, rfl, rfl, rfl, h3⟩ := hcut
      have H3 := Lib.hid h3
      clear h3
      go_wp2_with fail
      go_loopw [73] (fun i wr => ∃ k : Nat, k ≤ 3 ∧ i = .int .i64 (k : Int) ∧ ThreeAt w wr q (fun j => [xs, ys, sgn ++ xs].getD j [])) (fun i _ => 3 - (intOf i).toNat)
      case atStart => exact ⟨0, by omega, rfl, H3.out⟩
      case round =>
        obtain ⟨j, hj, rfl, hT⟩ := hrel
        by_cases hlt : j < 3
        · obtain ⟨v, m, hcl, hrd, hby, hm⟩ := hT.2 j hlt
          obtain ⟨Y, hY⟩ : ∃ Y, Y = ([xs, ys, sgn ++ xs].getD j [] : List Int) := ⟨_, rfl⟩
          simp only [← hY] at hrd hby
          obtain ⟨A, Q, J, hO⟩ : ∃ A Q J, openB Y = (A, Q, J) := ⟨_, _, _, rfl⟩
          have HT := Lib.hid hT
          have HRD := Lib.hid hrd
          have HBY := Lib.hid hby
          have HO := Lib.hid hO
          clear hT hrd hby hO hY
          go_wp2_with fail
          refine open_mono (open_any _ _ m Y HRD.out HBY.out hm) A Q J HO.out _ ?_
          intro u4 w4 ho4 b4
          have T4 := Lib.hid (HT.out.below b4)
          have RD4 := Lib.hid (HRD.out.below b4 (Nat.le_refl _))
          have R4 := Lib.hid (rd_of_owns ho4)
          clear ho4 b4
          go_wp2_with fail
          refine open_mono (ropen_any _ _ m Y RD4.out HBY.out hm) A Q J HO.out _ ?_
          intro u5 w5 ho5 b5
          have T5 := Lib.hid (T4.out.below b5)
          have k4 := convB (R4.out.below b5 (Nat.le_refl _))
          have k5 := convB (rd_of_owns ho5)
          clear ho5 b5
          go_wp2_with fail
          go_roundw
          case rel => exact ⟨j + 1, by omega, by go_num, T5.out⟩
          case measure => simp [intOf]; omega
        · obtain rfl : j = 3 := by omega
          go_wp2_with fail
          go_ret
          exact ⟨rfl, hT.1⟩
theorem boxReads_law (a0 : Option Addr) (len0 cap0 : Nat) (z0 : List Int) (a1 : Int) (a2 : Option Addr) (len2 cap2 : Nat) (z2 : List Int) (a3 a4 a5 : Int) (w : World) (w0 : RowOf .u8 w a0 len0 cap0 z0) (w1 : (Lit.int .u8 a1).wf = true) (w2 : RowOf .u8 w a2 len2 cap2 z2) (w3 : (Lit.int .u16 a3).wf = true) (w4 : (Lit.int .u8 a4).wf = true) (w5 : (Lit.int .u8 a5).wf = true) :
    Calls Try.prog 12 #[.slice a0 len0 cap0, .int .u8 a1, .slice a2 len2 cap2, .int .u16 a3, .int .u8 a4, .int .u8 a5] w fun e w' => e = .returned (.bool true) ∧ Below w.heap.size w w' :=
  boxReads_walk a0 len0 cap0 (z0.take len0) a1 (rng_u8 w1) a2 len2 cap2 (z2.take len2) a3 a4 a5 (rng_u16 w3) (rng_u8 w4) (rng_u8 w5) w w0.rd (fun x hx => rng_u8 (w0.wf x hx)) w0.bounds.1 w0.bounds.2 w2.rd (fun x hx => rng_u8 (w2.wf x hx)) w2.bounds.1 w2.bounds.2
end Go.Proofs.Ytmdhiigonlnoiaa
