/- Need: Most. -/
import Derived.Test.YtmidkomdmnncoaaNd13
import Derived.Deep.RegionWith
namespace Go.Proofs.Ytmidkomdmnncoaa
open Go.RowKit Go.Waf
set_option maxRecDepth 100000
set_option linter.unusedVariables false
set_option linter.unusedSimpArgs false

/-- The greatest need of n expressions, s before. -/
def mostX (x : Nat → Ex) : Nat → Nat → Nat
  | 0, s => s
  | j + 1, s => max (mostX x j s) (x j).regs
theorem mostX_mono (x : Nat → Ex) (s : Nat) : ∀ {k j : Nat}, j ≤ k → mostX x j s ≤ mostX x k s
  | 0, j, h => by obtain rfl : j = 0 := by omega
                  exact Nat.le_refl _
  | k + 1, j, h => by
    by_cases e : j = k + 1
    · subst e; exact Nat.le_refl _
    · exact Nat.le_trans (mostX_mono x s (k := k) (by omega)) (Nat.le_max_left _ _)
set_option maxHeartbeats 6400000 in
theorem note_prog (w0 W : World) (a : Option Addr) (n c : Nat) (x : Nat → Ex) (p s : Nat) (h1 : n ≤ c) (h2 : c ≤ 9223372036854775807) (hx : ExsAt w0 a n x) (hb : Below w0.heap.size w0 W) (hp : w0.heap.size ≤ p) (hs : Cnt1 p s W) (hk : mostX x n s ≤ 1000000) :
    Calls Try.prog 15 #[.slice a n c, .pointer (some ⟨p, 0, none⟩)] W fun en W' => en = unitE ∧ Fr (fun k => k = p) W W' ∧ Cnt1 p (mostX x n s) W' := by
  have HM := Lib.hid (fun j (hj : j ≤ n) => Nat.le_trans (mostX_mono x s hj) hk)
  have HX := Lib.hid hx
  have HB := Lib.hid hb
  have HS := Lib.hid hs
  clear hx hb hs hk
  go_enter Try.func15, Try.ntmps15
  go_wp2_with fail
  go_loopw [7] (fun y wr => ∃ j : Nat, j ≤ n ∧ y = .int .i64 (j : Int) ∧ Fr (fun k => k = p) W wr ∧ Cnt1 p (mostX x j s) wr) (fun y _ => n - (intOf y).toNat)
  case atStart => exact ⟨0, by omega, rfl, Fr.refl _ _, HS.out⟩
  case round =>
    obtain ⟨j, hj, rfl, hf, hs⟩ := hrel
    obtain ⟨wi, rfl⟩ : ∃ wi : World, wi = wr := ⟨_, rfl⟩
    have hbi : Below w0.heap.size w0 wi := HB.out.trans (hf.below HB.out.size fun i hi h => by omega)
    by_cases hlt : j < n
    · obtain ⟨b, o, rfl, hc⟩ := HX.out (by omega)
      obtain ⟨tu, xu, hok, hcc⟩ := hc j hlt
      obtain ⟨d0, d1, d2, d3, d4, d5, d6, d7⟩ := hcc.below hbi (Nat.le_refl _)
      obtain ⟨ua, uc, rfl, _, _⟩ := hok.ty.shape
      obtain ⟨va, vc, rfl, _, _, _⟩ := hok.shape
      have hm := HM.out (j + 1) (by omega)
      have hmx : mostX x (j + 1) s = max (mostX x j s) (x j).regs := rfl
      have HMX := Lib.hid hmx
      rw [hmx] at hm
      have HC := Lib.hid (fun V (hv : Below w0.heap.size w0 V) => regs_prog (x j) V _ _ (by omega) (ExOk.below hv (Nat.le_refl _) _ _ _ hok))
      obtain ⟨E, hE⟩ : ∃ E, E = x j := ⟨_, rfl⟩
      rw [← hE] at HC d0 d1 d2 d3 d4 d5 d6 d7 hm HMX
      obtain ⟨S, hS⟩ : ∃ S, S = mostX x j s := ⟨_, rfl⟩
      rw [← hS] at hm hs HMX
      obtain ⟨R, hR⟩ : ∃ R, R = E.regs := ⟨_, rfl⟩
      rw [← hR] at HC hm HMX
      unfold exV at HC
      have hs : wi.heap[p]? = _ := hs
      have cp := cell_of_row wi p 0 _ _ _ hs
      have cf := frozen_of_row wi p 0 _ _ hs
      have ca2 : wi.cell? ⟨p, 0, none⟩ = some (.int .i64 (S : Int)) := cp
      have hl := World.block_lt_of_cell? _ _ ca2
      have hl2 : p < wi.heap.size := hl
      have hS1 : S ≤ 1000000 := by omega
      have hR1 : R ≤ 1000000 := by omega
      have HSI := Lib.hid hs
      have HFI := Lib.hid hf
      have HBI := Lib.hid hbi
      clear hc hok hcc hE hS hR hmx hs hf hbi cp hl hm
      go_upto_region 3 with fail
      have HAL := Lib.hid (show Below w0.heap.size w0 ((wi.alloc (.cells #[.int .i64 E.op, .int .i64 E.t.form, .int .i64 E.t.num, .string E.t.name, .slice ua E.t.k uc, .int .i32 E.i, .string E.s, .slice va E.k vc] 36)).drew) from (HBI.out.alloc HBI.out.size _).drew)
      have HAN := Lib.hid (show ((wi.alloc (.cells #[.int .i64 E.op, .int .i64 E.t.form, .int .i64 E.t.num, .string E.t.name, .slice ua E.t.k uc, .int .i32 E.i, .string E.s, .slice va E.k vc] 36)).drew).heap[p]? = _ from blk_alloc HSI.out _)
      have HFN := Lib.hid (show Fr (fun k => k = p) W ((wi.alloc (.cells #[.int .i64 E.op, .int .i64 E.t.form, .int .i64 E.t.num, .string E.t.name, .slice ua E.t.k uc, .int .i32 E.i, .string E.s, .slice va E.k vc] 36)).drew) from (HFI.out.alloc _).drew)
      have hlz : p < ((wi.alloc (.cells #[.int .i64 E.op, .int .i64 E.t.form, .int .i64 E.t.num, .string E.t.name, .slice ua E.t.k uc, .int .i32 E.i, .string E.s, .slice va E.k vc] 36)).drew).heap.size := by show p < (wi.alloc _).heap.size; simp; omega
      have HLZ := Lib.hid hlz
      clear hlz
      go_region_with (go_at_call 5; refine (HC.out _ HAL.out).mono ?_; rintro e w3 ⟨rfl, hb3⟩; have hp3 := (hb3.block p HLZ.out).trans HAN.out; have c3 := cell_of_row w3 p 0 _ _ _ hp3; have f3 := frozen_of_row w3 p 0 _ _ hp3; have HF3 := Lib.hid (HFN.out.trans (F' := fun k => k = p) (Fr.of_new hb3) (fun i _ h => h)); have HP3 := Lib.hid hp3; have HB3 := Lib.hid hb3; clear hp3 hb3)
      all_goals (
        rw [max_val]
        go_wp2_with fail
        go_roundw
        case rel =>
          refine ⟨j + 1, by omega, by go_num, HF3.out.setCell (p := ⟨p, 0, none⟩) (Or.inr rfl) _, ?_⟩
          rw [HMX.out]
          exact Eq.trans (heap_setCell_same _ p 0 _ _ _ HP3.out) rfl
        case measure => simp [intOf]; omega)
    · obtain rfl : j = n := by omega
      have HSI := Lib.hid hs
      have HFI := Lib.hid hf
      clear hs hf hbi
      go_wp2_with fail
      refine bodyPost_end (results_none rfl _ _ _) rfl ?_
      exact ⟨rfl, HFI.out, HSI.out⟩
/-- The greatest need told so far lies in a box; another holds the function that tells it. -/
def NoteAt (q p s : Nat) (w : World) : Prop := w.heap[q]? = some (.cells #[.func (.func 15) #[] #[.pointer (some ⟨p, 0, none⟩)]] 60 (0, 0)) ∧ Cnt1 p s w
def okR (s : Nat) : Prop := s ≤ 1000000
def ueR (_ : Ex) (s : Nat) : Nat := s
def usR (e : St) (s : Nat) : Nat := mostX e.x e.nx s
theorem noteAt_new {q p : Nat} (s : Nat) (W W' : World) (h : NoteAt q p s W) (hb : Below W.heap.size W W') : NoteAt q p s W' :=
  ⟨by rw [hb.block q (Array.getElem?_eq_some_iff.1 h.1).1]; exact h.1, cnt1_new s W W' h.2 hb⟩
theorem usR_ok (e : St) (s : Nat) (h : okR (usR e s)) : okR s := Nat.le_trans (mostX_mono e.x s (k := e.nx) (j := 0) (by omega)) h
theorem exCb_most3 (w0 : World) (B1 p q : Nat) : ExCb w0 B1 (NoteAt q p) okR 18 #[] ueR := by
  intro W e tv xv a hok hb hB hs hk
  obtain ⟨ta, tc, rfl, _, _⟩ := hok.ty.shape
  obtain ⟨xa, xc, rfl, _, _, _⟩ := hok.shape
  unfold exV
  have HS := Lib.hid hs
  clear hs hk hb hok
  simp only [List.append_toArray, Array.append_empty, Array.append_singleton, List.cons_append, List.nil_append, List.append_nil, List.push_toArray]
  go_enter Try.func18, Try.ntmps18
  go_wp2_with fail
  refine bodyPost_end (results_none rfl _ _ _) rfl ?_
  exact ⟨rfl, (Fr.refl (FF w0.heap.size B1) W).alloc _, noteAt_new _ _ _ HS.out ((Below.refl _ _).alloc (Nat.le_refl _) _)⟩
theorem exCb_most4 (w0 : World) (B1 p q : Nat) : ExCb w0 B1 (NoteAt q p) okR 19 #[] ueR := by
  intro W e tv xv a hok hb hB hs hk
  obtain ⟨ta, tc, rfl, _, _⟩ := hok.ty.shape
  obtain ⟨xa, xc, rfl, _, _, _⟩ := hok.shape
  unfold exV
  have HS := Lib.hid hs
  clear hs hk hb hok
  simp only [List.append_toArray, Array.append_empty, Array.append_singleton, List.cons_append, List.nil_append, List.append_nil, List.push_toArray]
  go_enter Try.func19, Try.ntmps19
  go_wp2_with fail
  refine bodyPost_end (results_none rfl _ _ _) rfl ?_
  exact ⟨rfl, (Fr.refl (FF w0.heap.size B1) W).alloc _, noteAt_new _ _ _ HS.out ((Below.refl _ _).alloc (Nat.le_refl _) _)⟩
set_option maxHeartbeats 3200000 in
theorem stCb_most (w0 : World) (B1 p q : Nat) (h1 : w0.heap.size ≤ p) (h2 : p < B1) (hpq : q ≠ p) : StCb w0 B1 (NoteAt q p) okR 16 #[.pointer (some ⟨q, 0, none⟩)] usR := by
  intro W e xv bv iv a hok hb hB hs hk
  obtain ⟨⟨xa, xc, rfl, x1, x2, hxs⟩, ⟨ia, ic, rfl, i1, i2, _⟩, ba, bc, rfl, _, _, _⟩ := hok.open
  have hk1 : mostX e.x e.nx a ≤ 1000000 := hk
  have HN := Lib.hid (fun V hbV hsV => note_prog w0 V xa e.nx xc e.x p a x1 x2 hxs hbV h1 hsV hk1)
  have HU := Lib.hid (show usR e a = mostX e.x e.nx a from rfl)
  rw [HU.out]
  obtain ⟨r, hr⟩ : ∃ r, r = mostX e.x e.nx a := ⟨_, rfl⟩
  rw [← hr] at HN ⊢
  unfold stV
  have HB := Lib.hid hb
  have HS := Lib.hid hs
  have cq : W.cell? ⟨q, 0, none⟩ = some (.func (.func 15) #[] #[.pointer (some ⟨p, 0, none⟩)]) := rowC hs.1 0 _
  have hl := World.block_lt_of_cell? _ _ cq
  have hl2 : q < W.heap.size := hl
  clear hl
  clear hs hk hb hok hk1 hr hxs
  simp only [List.append_toArray, Array.append_singleton, List.cons_append, List.nil_append, List.push_toArray]
  go_enter Try.func16, Try.ntmps16
  go_wp2_with fail
  refine (HN.out _ (HB.out.alloc HB.out.size _) (cnt1_new _ _ _ HS.out.2 ((Below.refl _ _).alloc (Nat.le_refl _) _))).mono ?_
  rintro en w3 ⟨rfl, hf3, hs3⟩
  have HF3 := Lib.hid (show Fr (FF w0.heap.size B1) W w3 from ((Fr.refl (FF w0.heap.size B1) W).alloc _).trans (F' := fun k => k = p) hf3 (fun i _ h => by subst h; exact ⟨h1, h2⟩))
  have HQ3 := Lib.hid (show w3.heap[q]? = _ from (hf3.block q (Nat.lt_of_lt_of_le (Array.getElem?_eq_some_iff.1 HS.out.1).1 (by simp)) hpq).trans (blk_alloc HS.out.1 _))
  have HS3 := Lib.hid hs3
  clear hf3 hs3
  unfold unitE
  go_wp2_with fail
  refine bodyPost_end (results_none rfl _ _ _) rfl ?_
  exact ⟨rfl, HF3.out, HQ3.out, HS3.out⟩
end Go.Proofs.Ytmidkomdmnncoaa
