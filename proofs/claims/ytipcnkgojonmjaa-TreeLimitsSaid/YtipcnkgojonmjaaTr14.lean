/- Trees: how many expressions and statements there are. -/
import Derived.Test.YtipcnkgojonmjaaTr12
import Derived.Test.YtipcnkgojonmjaaTr13
namespace Go.Proofs.Ytipcnkgojonmjaa
open Go.RowKit Go.Waf
set_option maxRecDepth 100000
set_option linter.unusedVariables false
set_option linter.unusedSimpArgs false

set_option maxHeartbeats 3200000 in
theorem walkModule_prog {σ : Type} (w0 : World) (B1 : Nat) (Iv : σ → World → Prop) (ok : σ → Prop) (fs : Nat) (cs : Array Value) (us : St → σ → σ) (fe : Nat) (ce : Array Value) (ue : Ex → σ → σ) (hIv : ∀ s W W', Iv s W → Below W.heap.size W W' → Iv s W') (hue : ∀ e s, ok (ue e s) → ok s) (hus : ∀ e s, ok (us e s) → ok s) (hce : ExCb w0 B1 Iv ok fe ce ue) (hcs : StCb w0 B1 Iv ok fs cs us)
    (ege : ∀ args w, (callFunc fe args).run Try.prog w = .ok (.enter fe args) w) (egs : ∀ args w, (callFunc fs args).run Try.prog w = .ok (.enter fs args) w) (W : World) (va : Option Addr) (nv vc : Nat) (ba : Option Addr) (nb bc : Nat) (f : Nat → St) (s : σ) (h3 : nb ≤ bc) (h4 : bc ≤ 9223372036854775807) (hx : StsAt w0 ba nb f) (hb : Below w0.heap.size w0 W) (hB : B1 ≤ W.heap.size) (hs : Iv s W) (hk : ok (runSts ue us nb f s)) :
    Calls Try.prog 34 #[modV va nv vc ba nb bc, .func (.func fs) #[] cs, .func (.func fe) #[] ce] W fun en W' => en = unitE ∧ Fr (FF w0.heap.size B1) W W' ∧ Iv (runSts ue us nb f s) W' := by
  have H := Lib.hid (fun W hb hB hs => walk_prog w0 B1 Iv ok fs cs us fe ce ue hIv hue hus hce hcs ege egs (nestS nb f + 1) nb f (by omega) W ba bc s h3 h4 hx hb hB hs hk)
  obtain ⟨s', hs'⟩ : ∃ s', s' = runSts ue us nb f s := ⟨_, rfl⟩
  rw [← hs'] at H ⊢
  have HIV := Lib.hid hIv
  have HB := Lib.hid hb
  have HS := Lib.hid hs
  unfold modV
  have hal : Below W.heap.size W (W.alloc (.cells #[.string { data := #[77] }, .slice none 0 0, .slice none 0 0, .slice none 0 0, .slice none 0 0, .slice va nv vc, .slice none 0 0, .slice ba nb bc] 30)) := (Below.refl _ _).alloc (Nat.le_refl _) _
  have HAL := Lib.hid hal
  clear hk hx hIv hue hus hce hcs hb hs hs' hal ege egs
  go_enter Try.func34, Try.ntmps34
  go_wp2_with fail
  go_loop [15] (fun z => z = .int .i64 0) (fun z => 0)
  case atStart => rfl
  case round =>
  obtain rfl := hrel
  go_wp2_with fail
  go_loop [27] (fun z => z = .int .i64 0) (fun z => 0)
  case atStart => rfl
  case round =>
  obtain rfl := hrel
  go_wp2_with fail
  refine (H.out _ (HB.out.trans (HAL.out.mono HB.out.size)) (Nat.le_trans hB HAL.out.size) (HIV.out _ _ _ HS.out HAL.out)).mono ?_
  rintro en W2 ⟨rfl, hf2, hs2⟩
  have HF := Lib.hid (show Fr (FF w0.heap.size B1) W W2 from (Fr.of_new HAL.out).trans hf2 (fun i _ h => h))
  have HS2 := Lib.hid hs2
  clear hf2 hs2
  unfold unitE
  go_wp2_with fail
  refine bodyPost_end (results_none rfl _ _ _) rfl ?_
  exact ⟨rfl, HF.out, HS2.out⟩
/-- The two counters. -/
def Cnt2 (pa pb : Nat) (s : Nat × Nat) (w : World) : Prop := w.heap[pa]? = some (.cells #[.int .i64 (s.1 : Int)] 3 (0, 0)) ∧ w.heap[pb]? = some (.cells #[.int .i64 (s.2 : Int)] 3 (0, 0))
def ok2 (s : Nat × Nat) : Prop := s.1 ≤ 1000000000 ∧ s.2 ≤ 1000000000
def ueC (_ : Ex) (s : Nat × Nat) : Nat × Nat := (s.1 + 1, s.2)
def usC (_ : St) (s : Nat × Nat) : Nat × Nat := (s.1, s.2 + 1)
theorem cnt2_new {pa pb : Nat} (s : Nat × Nat) (W W' : World) (h : Cnt2 pa pb s W) (hb : Below W.heap.size W W') : Cnt2 pa pb s W' :=
  ⟨by rw [hb.block pa (Array.getElem?_eq_some_iff.1 h.1).1]; exact h.1, by rw [hb.block pb (Array.getElem?_eq_some_iff.1 h.2).1]; exact h.2⟩
theorem exCb_count (w0 : World) (B1 pa pb : Nat) (h1 : w0.heap.size ≤ pa) (h2 : pa < B1) (hne : pa ≠ pb) : ExCb w0 B1 (Cnt2 pa pb) ok2 36 #[.pointer (some ⟨pa, 0, none⟩)] ueC := by
  intro W e tv xv s hok hb hB hs hk
  obtain ⟨ta, tc, rfl, _, _⟩ := hok.ty.shape
  obtain ⟨xa, xc, rfl, _, _, _⟩ := hok.shape
  obtain ⟨a, b⟩ := s
  have hk1 : a + 1 ≤ 1000000000 := hk.1
  have ca := cell_of_row W pa 0 _ _ _ hs.1
  have cf := frozen_of_row W pa 0 _ _ hs.1
  have ca2 : W.cell? ⟨pa, 0, none⟩ = some (.int .i64 (a : Int)) := ca
  have hl := World.block_lt_of_cell? _ _ ca2
  have hl2 : pa < W.heap.size := hl
  unfold exV
  have HA := Lib.hid hs.1
  have HBq := Lib.hid hs.2
  clear hs hk hb hok ca hl
  simp only [List.append_toArray, Array.append_singleton, List.cons_append, List.nil_append, List.push_toArray]
  go_enter Try.func36, Try.ntmps36
  go_wp2_with fail
  refine bodyPost_end (results_none rfl _ _ _) rfl ?_
  refine ⟨rfl, ((Fr.refl (FF w0.heap.size B1) W).setCell (p := ⟨pa, 0, none⟩) (Or.inr (show FF w0.heap.size B1 pa from ⟨h1, h2⟩)) _).alloc _, ?_, ?_⟩
  · exact blk_alloc (by rw [heap_setCell_same _ pa 0 _ _ _ HA.out]; rfl) _
  · exact blk_alloc (blk_set_other HBq.out _ _ (fun e => hne e.symm)) _
theorem stCb_count (w0 : World) (B1 pa pb : Nat) (h1 : w0.heap.size ≤ pb) (h2 : pb < B1) (hne : pa ≠ pb) : StCb w0 B1 (Cnt2 pa pb) ok2 35 #[.pointer (some ⟨pb, 0, none⟩)] usC := by
  intro W e xv bv iv s hok hb hB hs hk
  obtain ⟨⟨xa, xc, rfl, _, _, _⟩, ⟨ia, ic, rfl, _, _, _⟩, ba, bc, rfl, _, _, _⟩ := hok.open
  obtain ⟨a, b⟩ := s
  have hk1 : b + 1 ≤ 1000000000 := hk.2
  have ca := cell_of_row W pb 0 _ _ _ hs.2
  have cf := frozen_of_row W pb 0 _ _ hs.2
  have ca2 : W.cell? ⟨pb, 0, none⟩ = some (.int .i64 (b : Int)) := ca
  have hl := World.block_lt_of_cell? _ _ ca2
  have hl2 : pb < W.heap.size := hl
  unfold stV
  have HA := Lib.hid hs.1
  have HBq := Lib.hid hs.2
  clear hs hk hb hok ca hl
  simp only [List.append_toArray, Array.append_singleton, List.cons_append, List.nil_append, List.push_toArray]
  go_enter Try.func35, Try.ntmps35
  go_wp2_with fail
  refine bodyPost_end (results_none rfl _ _ _) rfl ?_
  refine ⟨rfl, ((Fr.refl (FF w0.heap.size B1) W).setCell (p := ⟨pb, 0, none⟩) (Or.inr (show FF w0.heap.size B1 pb from ⟨h1, h2⟩)) _).alloc _, ?_, ?_⟩
  · exact blk_alloc (blk_set_other HA.out _ _ hne) _
  · exact blk_alloc (by rw [heap_setCell_same _ pb 0 _ _ _ HBq.out]; rfl) _
theorem iv3 {w : World} {b : Nat} {o1 o2 o3 : Obj} (h : b = w.heap.size) : (((w.alloc o1).alloc o2).alloc o3).heap[b + 1]? = some o2 ∧ (((w.alloc o1).alloc o2).alloc o3).heap[b + 2]? = some o3 := by
  subst h
  exact ⟨by simpa using heap_alloc2_old (w.alloc o1) o2 o3, by simpa using heap_alloc2_new (w.alloc o1) o2 o3⟩
set_option maxHeartbeats 3200000 in
theorem count_prog (w : World) (va : Option Addr) (nv vc : Nat) (ba : Option Addr) (nb bc : Nat) (f : Nat → St) (h3 : nb ≤ bc) (h4 : bc ≤ 9223372036854775807) (hx : StsAt w ba nb f) (hk : ok2 (runSts ueC usC nb f (0, 0))) :
    Calls Try.prog 7 #[modV va nv vc ba nb bc] w fun en w' => en = .returned (.tuple #[.int .i64 ((runSts ueC usC nb f (0, 0)).1 : Int), .int .i64 ((runSts ueC usC nb f (0, 0)).2 : Int)]) ∧ Below w.heap.size w w' := by
  have HW := Lib.hid (fun W hb hB hs => walkModule_prog w (w.heap.size + 3) (Cnt2 (w.heap.size + 1) (w.heap.size + 1 + 1)) ok2 35 #[.pointer (some ⟨w.heap.size + 1 + 1, 0, none⟩)] usC 36 #[.pointer (some ⟨w.heap.size + 1, 0, none⟩)] ueC cnt2_new
    (fun e s h => ⟨by have := h.1; simp [ueC] at this; omega, h.2⟩) (fun e s h => ⟨h.1, by have := h.2; simp [usC] at this; omega⟩) (exCb_count w (w.heap.size + 3) (w.heap.size + 1) (w.heap.size + 1 + 1) (by omega) (by omega) (by omega)) (stCb_count w (w.heap.size + 3) (w.heap.size + 1) (w.heap.size + 1 + 1) (by omega) (by omega) (by omega))
    (enters_of Try.func36 (by kernel_rfl) rfl) (enters_of Try.func35 (by kernel_rfl) rfl) W va nv vc ba nb bc f (0, 0) h3 h4 hx hb hB hs hk)
  obtain ⟨r, hr⟩ : ∃ r, r = runSts ueC usC nb f (0, 0) := ⟨_, rfl⟩
  rw [← hr] at HW ⊢
  clear hr hx hk
  unfold modV at HW ⊢
  go_enter Try.func7, Try.ntmps7
  go_wp2_with fail
  refine (HW.out _ (((Below.refl _ w).alloc (Nat.le_refl _) _).alloc (by simp) _ |>.alloc (by simp; omega) _) (by simp) ⟨(iv3 rfl).1, (iv3 rfl).2⟩).mono ?_
  rintro en w2 ⟨rfl, hf2, hs2⟩
  have hb2 : Below w.heap.size w w2 := Fr.old (((Below.refl _ w).alloc (Nat.le_refl _) _).alloc (by simp) _ |>.alloc (by simp; omega) _) hf2
  have c1 : w2.cell? ⟨w.heap.size + 1, 0, none⟩ = some (.int .i64 (r.1 : Int)) := rowC hs2.1 0 _
  have c2 : w2.cell? ⟨w.heap.size + 1 + 1, 0, none⟩ = some (.int .i64 (r.2 : Int)) := rowC hs2.2 0 _
  have HB2 := Lib.hid hb2
  clear hf2 hs2 hb2
  unfold unitE
  go_wp2_with fail
  go_quiet (fail)
  go_wp2_with fail
  go_ret2
  exact ⟨rfl, below_drewN HB2.out _⟩
end Go.Proofs.Ytipcnkgojonmjaa
