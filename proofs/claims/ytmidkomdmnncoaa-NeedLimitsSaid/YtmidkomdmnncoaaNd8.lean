/- Need: Recs, of modules without records. (Printed by wip/scripts/gen_nd8.py.) -/
import Derived.Test.YtmidkomdmnncoaaNd7
namespace Go.Proofs.Ytmidkomdmnncoaa
open Go.RowKit Go.Waf Go.Shelf
set_option maxRecDepth 100000
set_option linter.unusedVariables false
set_option linter.unusedSimpArgs false

/-- A module of variables, procedures, a body: what its cells hold. -/
structure Mo where
  nm : ByteArray
  va : Option Addr
  nv : Nat
  vc : Nat
  pa : Option Addr
  np : Nat
  pc : Nat
  ba : Option Addr
  nb : Nat
  bc : Nat
def Mo.arr (m : Mo) : Array Value := #[.string m.nm, .slice none 0 0, .slice none 0 0, .slice none 0 0, .slice none 0 0, .slice m.va m.nv m.vc, .slice m.pa m.np m.pc, .slice m.ba m.nb m.bc]
def Mo.val (m : Mo) : Value := .agg m.arr
def MoAt (w : World) (b o : Nat) (m : Mo) : Prop := w.cell? ⟨b, o, none⟩ = some (.string m.nm) ∧ w.cell? ⟨b, o + 1, none⟩ = some (.slice none 0 0) ∧ w.cell? ⟨b, o + 2, none⟩ = some (.slice none 0 0) ∧ w.cell? ⟨b, o + 3, none⟩ = some (.slice none 0 0) ∧ w.cell? ⟨b, o + 4, none⟩ = some (.slice none 0 0) ∧
  w.cell? ⟨b, o + 5, none⟩ = some (.slice m.va m.nv m.vc) ∧ w.cell? ⟨b, o + 6, none⟩ = some (.slice m.pa m.np m.pc) ∧ w.cell? ⟨b, o + 7, none⟩ = some (.slice m.ba m.nb m.bc)
theorem MoAt.below {w w' : World} {b o : Nat} {m : Mo} (h : MoAt w b o m) (hb : Below w.heap.size w w') : MoAt w' b o m := by
  obtain ⟨h0, h1, h2, h3, h4, h5, h6, h7⟩ := h
  exact ⟨cell_below hb (Nat.le_refl _) h0, cell_below hb (Nat.le_refl _) h1, cell_below hb (Nat.le_refl _) h2, cell_below hb (Nat.le_refl _) h3, cell_below hb (Nat.le_refl _) h4, cell_below hb (Nat.le_refl _) h5, cell_below hb (Nat.le_refl _) h6, cell_below hb (Nat.le_refl _) h7⟩
attribute [local go_sem] Oper.semAt_some
theorem grown_of_below {w w' : World} (h : Below w.heap.size w w') : w.grownBy w' none := ⟨h.os, h.tape, h.output, h.size, fun k hk _ => h.block k hk⟩
theorem nmM_size : ({ data := #[77] } : ByteArray).size ≤ 1000 := by decide
theorem nmN_size : ({ data := #[78] } : ByteArray).size ≤ 1000 := by decide
/-- What holds between two rounds: the names seen, the box of the map that is told, all that lay before, the rounds' marks. -/
def RI (w : World) (A : Nat) (l : List (List UInt8)) (ds : List Nat) (W : World) : Prop := Seen W (A + 2) l ∧ W.cell? ⟨A + 1, 0, none⟩ = some (.map (some A)) ∧ Below w.heap.size w W ∧ A + 2 < W.heap.size ∧ ∀ D ∈ ds, A + 2 < D ∧ W.heap[D]? = some (.deferred (some []))
theorem RI.step {w W W' : World} {A : Nat} {l : List (List UInt8)} {ds : List Nat} (h : RI w A l ds W) (hb : Below W.heap.size W W') : RI w A l ds W' :=
  ⟨h.1.keep (grown_of_below hb), cell_below hb (Nat.le_refl _) h.2.1, h.2.2.1.trans (hb.mono h.2.2.1.size), Nat.lt_of_lt_of_le h.2.2.2.1 hb.size, fun D hD => ⟨(h.2.2.2.2 D hD).1, by
    have := (h.2.2.2.2 D hD).2
    rw [hb.block D (Array.getElem?_eq_some_iff.1 this).1]; exact this⟩⟩
theorem RI.put {w W W' : World} {A : Nat} {l l' : List (List UInt8)} {ds : List Nat} (h : RI w A l ds W) (hw : w.heap.size ≤ A) (hs : Seen W' (A + 2) l') (hg : W.grownBy W' (some (A + 2))) : RI w A l' ds W' := by
  obtain ⟨h1, h2, h3, h4, h5⟩ := h
  refine ⟨hs, ?_, h3.grown hg h3.size fun k e => by have e := Option.some.inj e; omega, Nat.lt_of_lt_of_le h4 hg.size, fun D hD => ?_⟩
  · rw [World.cell?_of_block (a := ⟨A + 1, 0, none⟩) (hg.block (A + 1) (by omega) (fun e => by have e := Option.some.inj e; omega))]; exact h2
  · obtain ⟨k1, k2⟩ := h5 D hD
    exact ⟨k1, by rw [hg.block D (Array.getElem?_eq_some_iff.1 k2).1 (fun e => by have e := Option.some.inj e; omega)]; exact k2⟩
theorem RI.own {w : World} {A : Nat} {l : List (List UInt8)} {ds : List Nat} {B : Nat} (hB : A + 2 < B) (hw : w.heap.size ≤ A) (hds : ∀ D ∈ ds, D < B) : OwnFrom B (fun (_ : List Empty) W => RI w A l ds W) := fun s W W' row hs hg hr => by
  obtain ⟨h1, h2, h3, h4, h5⟩ := hs
  obtain ⟨k, D, hk, ho, hm, ha⟩ := h1
  have hne : ∀ r, row = some r → B ≤ r := fun r e => (hr r e).1
  refine ⟨⟨k, D, hk, ho.kept hg (fun e => by have := hne _ e.symm; omega), hm, ha⟩, ?_, h3.grown hg h3.size fun k e => by have := hne k e; omega, Nat.lt_of_lt_of_le h4 hg.size, fun D hD => ?_⟩
  · rw [World.cell?_of_block (a := ⟨A + 1, 0, none⟩) (hg.block (A + 1) (by omega) (fun e => by have := hne _ e.symm; omega))]
    exact h2
  · obtain ⟨k1, k2⟩ := h5 D hD
    exact ⟨k1, by rw [hg.block D (Array.getElem?_eq_some_iff.1 k2).1 (fun e => by have := hne _ e.symm; have := hds D hD; omega)]; exact k2⟩
theorem RI.mark {w W : World} {A D : Nat} {l : List (List UInt8)} {ds : List Nat} (h : RI w A l ds W) (hA : A + 2 < D) (hD : W.heap[D]? = some (.deferred (some []))) : RI w A l (D :: ds) W :=
  ⟨h.1, h.2.1, h.2.2.1, h.2.2.2.1, fun E hE => by
    rcases List.mem_cons.1 hE with rfl | hE
    · exact ⟨hA, hD⟩
    · exact h.2.2.2.2 E hE⟩
theorem below_marks {w W W' : World} {A : Nat} {l : List (List UInt8)} {ds : List Nat} (h : RI w A l ds W) (h1 : ∀ k, k ∉ ds → W'.heap[k]? = W.heap[k]?) (h2 : W'.os = W.os) (h3 : W'.tape = W.tape) (h4 : W'.output = W.output) (h5 : W'.heap.size = W.heap.size) (hw : w.heap.size ≤ A := by exact Nat.le_refl _) : Below w.heap.size w W' := by
  obtain ⟨_, _, hb, _, hd⟩ := h
  exact ⟨h2.trans hb.os, h3.trans hb.tape, h4.trans hb.output, by rw [h5]; exact hb.size, fun k hk => (h1 k (fun e => by have := (hd k e).1; omega)).trans (hb.block k hk)⟩
/-- At the return each mark is taken up. -/
theorem leaves_marks {fn : Func} {tmps : Array Value} {R : Ending → World → Prop} {n : Nat} : ∀ (ds : List Nat) (W : World), ds.Nodup → (∀ D ∈ ds, W.heap[D]? = some (.deferred (some []))) → (∀ W', (∀ k, k ∉ ds → W'.heap[k]? = W.heap[k]?) → W'.os = W.os → W'.tape = W.tape → W'.output = W.output → W'.heap.size = W.heap.size → LeavesIn Fence.wide n Try.prog fn tmps R [] .returning W') →
    LeavesInM Fence.wide n Try.prog fn tmps R (ds.map fun D => { target := .collected D, args := #[] }) .returning W
  | [], W, _, _, h => h W (fun _ _ => rfl) rfl rfl rfl rfl
  | D :: ds, W, hn, hd, h => by
    obtain ⟨hn1, hn2⟩ := List.nodup_cons.1 hn
    refine ⟨by simp, .inl ⟨_, _, rfl, run_takeDeferred (hd D (by simp)), ?_⟩⟩
    have hp : ∀ k, k ≠ D → (W.putObj D (.deferred none)).heap[k]? = W.heap[k]? := fun k hk => World.putObj_heap_other (fun e => hk e)
    refine leaves_marks ds _ hn2 (fun E hE => ?_) fun W' h1 h2 h3 h4 h5 => h W' (fun k hk => ?_) (h2.trans rfl) (h3.trans rfl) (h4.trans rfl) (h5.trans (by simp [World.putObj]))
    · rw [hp E (fun e => hn1 (e ▸ hE))]; exact hd E (List.mem_cons_of_mem _ hE)
    · rw [h1 k (fun e => hk (List.mem_cons_of_mem _ e)), hp k (fun e => hk (by rw [e]; simp))]
set_option maxHeartbeats 12800000 in
theorem recs_M (w : World) (b c : Nat) (m0 : Mo) (hn0 : m0.nm = { data := #[77] }) (h0 : MoAt w b 0 m0) (hc1 : 1 ≤ c) (hc2 : c ≤ 9223372036854775807) :
    Calls Try.prog 12 #[.slice (some ⟨b, 0, none⟩) 1 c] w fun en w' => (∃ r, en = .returned (.map (some r))) ∧ Below w.heap.size w w' := by
  have H0 := Lib.hid (fun W (hb : Below w.heap.size w W) => h0.below hb)
  clear h0
  obtain ⟨nm0, va0, nv0, vc0, pa0, np0, pc0, ba0, nb0, bc0⟩ := m0
  obtain rfl : nm0 = _ := hn0
  have hmm := @run_makeMap Try.prog
  refine (callsIn_wide (n := 6)).1 (callsIn_of_wp_marks Try.func12 rfl trivial ?_ rfl)
  simp only [Try.ntmps12, List.size_toArray, List.length_cons, List.length_nil, Nat.reduceAdd, Nat.reduceSub, Array.replicate_succ, Array.replicate_zero, List.push_toArray, List.append_toArray, List.nil_append, List.cons_append]
  gi_wp2
  have hri : RI w w.heap.size [] [] (((w.alloc (.map #[] 0)).alloc (.cells #[.map (some w.heap.size)] 56)).alloc (.map #[] 0)) := by
    refine ⟨?_, ?_, ((Below.refl _ w).alloc (Nat.le_refl _) _).alloc (by simp) _ |>.alloc (by simp; omega) _, by simp, fun D hD => by cases hD⟩
    · have := Seen.made ((w.alloc (.map #[] 0)).alloc (.cells #[.map (some w.heap.size)] 56))
      simpa using this
    · exact (World.cell?_of_block (a := ⟨w.heap.size + 1, 0, none⟩) (Below.heap_alloc _ _ _ (by simp))).trans (rowC (heap_alloc2_new w _ _) 0 _)
  obtain ⟨W0, hW0⟩ : ∃ W0 : World, W0 = ((w.alloc (.map #[] 0)).alloc (.cells #[.map (some w.heap.size)] 56)).alloc (.map #[] 0) := ⟨_, rfl⟩
  rw [← hW0] at hri ⊢
  have HR0 := Lib.hid hri
  clear hri hW0
  refine wpIn_loop_rounds 2 ?_
  rw [roundsIn_succ]
  obtain ⟨d0, d1, d2, d3, d4, d5, d6, d7⟩ := H0.out W0 HR0.out.2.2.1
  simp only [Nat.zero_add, Nat.reduceAdd] at d0 d1 d2 d3 d4 d5 d6 d7
  have hal0 : Below W0.heap.size W0 (W0.alloc (.cells #[.string { data := #[77] }, .slice none 0 0, .slice none 0 0, .slice none 0 0, .slice none 0 0, .slice va0 nv0 vc0, .slice pa0 np0 pc0, .slice ba0 nb0 bc0] 30)) := (Below.refl _ _).alloc (Nat.le_refl _) _
  have hr0 := HR0.out.step hal0
  have hlk := hr0.1.look { data := #[77] } nmM_size
  rw [show decide (({ data := #[77] } : ByteArray).data.toList ∈ ([] : List (List UInt8))) = false from by decide] at hlk
  obtain ⟨V0, hup, hsn, hgr⟩ := hr0.1.put (by decide) { data := #[77] } nmM_size
  have v4 : V0.cell? ⟨W0.heap.size, 4, none⟩ = some (.slice none 0 0) := by
    rw [World.cell?_of_block (hgr.block W0.heap.size (by simp) (fun e => by have e := Option.some.inj e; have := HR0.out.2.2.2.1; omega))]
    exact rowC (heap_alloc_new W0 _) 4 _
  have HV0 := Lib.hid (hr0.put (Nat.le_refl _) hsn hgr)
  clear hal0 hr0 hsn hgr
  gi_wp2
  refine ⟨trivial, CallsIn.mono (callsIn_wide.2 (backward_prog _)) ?_⟩
  rintro e wv ⟨rfl, rfl⟩
  gi_wp2
  have hx0 := HV0.out.step ((Below.refl _ V0).alloc (Nat.le_refl _) (.cells #[.slice none 0 0] 26))
  refine wpIn_rangeFunc_ownF (α := Empty) rfl (by omega) (gf := 27) (lb := #[.pointer (some ⟨V0.heap.size, 0, none⟩)]) rfl trivial (enters_of Try.func27 (by kernel_rfl) rfl)
    (back_stops 5 (by omega) V0.heap.size 0 _ (rowC (heap_alloc_new V0 _) 0 _)) belowK_t (belowK_b (Nat.zero_le _)) (Below.refl _ _) (fun x => x.elim) (fun _ W => RI w w.heap.size ([[77]] : List (List UInt8)) [] W) (fun _ _ _ => False)
    (RI.own (by have := hx0.2.2.2.1; exact this) (Nat.le_refl _) (fun D hD => (Array.getElem?_eq_some_iff.1 (hx0.2.2.2.2 D hD).2).1)) (fun _ _ _ _ _ hs _ _ => hs) hx0 (fun x => x.elim) (fun _ x => x.elim) (fun _ _ x => x.elim) (fun D0 xs W1 hD _ hI hK => ?_) (fun _ _ _ _ _ _ h => h.elim)
  have hlt0 : ∀ D ∈ ([] : List Nat), D ≠ D0 := fun D hD2 e => by have := (Array.getElem?_eq_some_iff.1 (hx0.2.2.2.2 D hD2).2).1; omega
  have HL0 := Lib.hid hlt0
  have HR1 := Lib.hid (hI.mark (by have := hx0.2.2.2.1; omega) hK)
  clear hx0 hI hK hD hup hlk v4 d0 d1 d2 d3 d4 d5 d6 d7 hlt0
  gi_wp2
  rw [roundsIn_succ]
  have cbx := HR1.out.2.1
  gi_wp2
  exact leaves_marks [D0] W1 (by simp) (fun D hD => (HR1.out.2.2.2.2 D hD).2) (fun W h1 h2 h3 h4 h5 => ⟨_, results_tmp rfl _ _ _, ⟨_, rfl⟩, below_marks HR1.out h1 h2 h3 h4 h5⟩)
set_option maxHeartbeats 12800000 in
theorem recs_MM (w : World) (b c : Nat) (m0 : Mo) (hn0 : m0.nm = { data := #[77] }) (h0 : MoAt w b 0 m0) (m1 : Mo) (hn1 : m1.nm = { data := #[77] }) (h1 : MoAt w b 8 m1) (hc1 : 2 ≤ c) (hc2 : c ≤ 9223372036854775807) :
    Calls Try.prog 12 #[.slice (some ⟨b, 0, none⟩) 2 c] w fun en w' => (∃ r, en = .returned (.map (some r))) ∧ Below w.heap.size w w' := by
  have H0 := Lib.hid (fun W (hb : Below w.heap.size w W) => h0.below hb)
  clear h0
  have H1 := Lib.hid (fun W (hb : Below w.heap.size w W) => h1.below hb)
  clear h1
  obtain ⟨nm0, va0, nv0, vc0, pa0, np0, pc0, ba0, nb0, bc0⟩ := m0
  obtain rfl : nm0 = _ := hn0
  obtain ⟨nm1, va1, nv1, vc1, pa1, np1, pc1, ba1, nb1, bc1⟩ := m1
  obtain rfl : nm1 = _ := hn1
  have hmm := @run_makeMap Try.prog
  refine (callsIn_wide (n := 6)).1 (callsIn_of_wp_marks Try.func12 rfl trivial ?_ rfl)
  simp only [Try.ntmps12, List.size_toArray, List.length_cons, List.length_nil, Nat.reduceAdd, Nat.reduceSub, Array.replicate_succ, Array.replicate_zero, List.push_toArray, List.append_toArray, List.nil_append, List.cons_append]
  gi_wp2
  have hri : RI w w.heap.size [] [] (((w.alloc (.map #[] 0)).alloc (.cells #[.map (some w.heap.size)] 56)).alloc (.map #[] 0)) := by
    refine ⟨?_, ?_, ((Below.refl _ w).alloc (Nat.le_refl _) _).alloc (by simp) _ |>.alloc (by simp; omega) _, by simp, fun D hD => by cases hD⟩
    · have := Seen.made ((w.alloc (.map #[] 0)).alloc (.cells #[.map (some w.heap.size)] 56))
      simpa using this
    · exact (World.cell?_of_block (a := ⟨w.heap.size + 1, 0, none⟩) (Below.heap_alloc _ _ _ (by simp))).trans (rowC (heap_alloc2_new w _ _) 0 _)
  obtain ⟨W0, hW0⟩ : ∃ W0 : World, W0 = ((w.alloc (.map #[] 0)).alloc (.cells #[.map (some w.heap.size)] 56)).alloc (.map #[] 0) := ⟨_, rfl⟩
  rw [← hW0] at hri ⊢
  have HR0 := Lib.hid hri
  clear hri hW0
  refine wpIn_loop_rounds 3 ?_
  rw [roundsIn_succ]
  obtain ⟨d0, d1, d2, d3, d4, d5, d6, d7⟩ := H0.out W0 HR0.out.2.2.1
  simp only [Nat.zero_add, Nat.reduceAdd] at d0 d1 d2 d3 d4 d5 d6 d7
  have hal0 : Below W0.heap.size W0 (W0.alloc (.cells #[.string { data := #[77] }, .slice none 0 0, .slice none 0 0, .slice none 0 0, .slice none 0 0, .slice va0 nv0 vc0, .slice pa0 np0 pc0, .slice ba0 nb0 bc0] 30)) := (Below.refl _ _).alloc (Nat.le_refl _) _
  have hr0 := HR0.out.step hal0
  have hlk := hr0.1.look { data := #[77] } nmM_size
  rw [show decide (({ data := #[77] } : ByteArray).data.toList ∈ ([] : List (List UInt8))) = false from by decide] at hlk
  obtain ⟨V0, hup, hsn, hgr⟩ := hr0.1.put (by decide) { data := #[77] } nmM_size
  have v4 : V0.cell? ⟨W0.heap.size, 4, none⟩ = some (.slice none 0 0) := by
    rw [World.cell?_of_block (hgr.block W0.heap.size (by simp) (fun e => by have e := Option.some.inj e; have := HR0.out.2.2.2.1; omega))]
    exact rowC (heap_alloc_new W0 _) 4 _
  have HV0 := Lib.hid (hr0.put (Nat.le_refl _) hsn hgr)
  clear hal0 hr0 hsn hgr
  gi_wp2
  refine ⟨trivial, CallsIn.mono (callsIn_wide.2 (backward_prog _)) ?_⟩
  rintro e wv ⟨rfl, rfl⟩
  gi_wp2
  have hx0 := HV0.out.step ((Below.refl _ V0).alloc (Nat.le_refl _) (.cells #[.slice none 0 0] 26))
  refine wpIn_rangeFunc_ownF (α := Empty) rfl (by omega) (gf := 27) (lb := #[.pointer (some ⟨V0.heap.size, 0, none⟩)]) rfl trivial (enters_of Try.func27 (by kernel_rfl) rfl)
    (back_stops 5 (by omega) V0.heap.size 0 _ (rowC (heap_alloc_new V0 _) 0 _)) belowK_t (belowK_b (Nat.zero_le _)) (Below.refl _ _) (fun x => x.elim) (fun _ W => RI w w.heap.size ([[77]] : List (List UInt8)) [] W) (fun _ _ _ => False)
    (RI.own (by have := hx0.2.2.2.1; exact this) (Nat.le_refl _) (fun D hD => (Array.getElem?_eq_some_iff.1 (hx0.2.2.2.2 D hD).2).1)) (fun _ _ _ _ _ hs _ _ => hs) hx0 (fun x => x.elim) (fun _ x => x.elim) (fun _ _ x => x.elim) (fun D0 xs W1 hD _ hI hK => ?_) (fun _ _ _ _ _ _ h => h.elim)
  have hlt0 : ∀ D ∈ ([] : List Nat), D ≠ D0 := fun D hD2 e => by have := (Array.getElem?_eq_some_iff.1 (hx0.2.2.2.2 D hD2).2).1; omega
  have HL0 := Lib.hid hlt0
  have HR1 := Lib.hid (hI.mark (by have := hx0.2.2.2.1; omega) hK)
  clear hx0 hI hK hD hup hlk v4 d0 d1 d2 d3 d4 d5 d6 d7 hlt0
  gi_wp2
  rw [roundsIn_succ]
  obtain ⟨d0, d1, d2, d3, d4, d5, d6, d7⟩ := H1.out W1 HR1.out.2.2.1
  simp only [Nat.zero_add, Nat.reduceAdd] at d0 d1 d2 d3 d4 d5 d6 d7
  have hal1 : Below W1.heap.size W1 (W1.alloc (.cells #[.string { data := #[77] }, .slice none 0 0, .slice none 0 0, .slice none 0 0, .slice none 0 0, .slice va1 nv1 vc1, .slice pa1 np1 pc1, .slice ba1 nb1 bc1] 30)) := (Below.refl _ _).alloc (Nat.le_refl _) _
  have hr1 := HR1.out.step hal1
  have hlk := hr1.1.look { data := #[77] } nmM_size
  rw [show decide (({ data := #[77] } : ByteArray).data.toList ∈ ([[77]] : List (List UInt8))) = true from by decide] at hlk
  have HR2 := Lib.hid hr1
  clear hal1 hr1
  obtain ⟨W2, hW2⟩ : ∃ W2 : World, W2 = W1.alloc (.cells #[.string { data := #[77] }, .slice none 0 0, .slice none 0 0, .slice none 0 0, .slice none 0 0, .slice va1 nv1 vc1, .slice pa1 np1 pc1, .slice ba1 nb1 bc1] 30) := ⟨_, rfl⟩
  rw [← hW2] at HR2
  have HWW2 := Lib.hid hW2
  clear hW2
  gi_wp2
  rw [← HWW2.out]
  clear hlk d0 d1 d2 d3 d4 d5 d6 d7
  rw [roundsIn_succ]
  have cbx := HR2.out.2.1
  gi_wp2
  exact leaves_marks [D0] W2 (by simp) (fun D hD => (HR2.out.2.2.2.2 D hD).2) (fun W h1 h2 h3 h4 h5 => ⟨_, results_tmp rfl _ _ _, ⟨_, rfl⟩, below_marks HR2.out h1 h2 h3 h4 h5⟩)
set_option maxHeartbeats 12800000 in
theorem recs_MMN (w : World) (b c : Nat) (m0 : Mo) (hn0 : m0.nm = { data := #[77] }) (h0 : MoAt w b 0 m0) (m1 : Mo) (hn1 : m1.nm = { data := #[77] }) (h1 : MoAt w b 8 m1) (m2 : Mo) (hn2 : m2.nm = { data := #[78] }) (h2 : MoAt w b 16 m2) (hc1 : 3 ≤ c) (hc2 : c ≤ 9223372036854775807) :
    Calls Try.prog 12 #[.slice (some ⟨b, 0, none⟩) 3 c] w fun en w' => (∃ r, en = .returned (.map (some r))) ∧ Below w.heap.size w w' := by
  have H0 := Lib.hid (fun W (hb : Below w.heap.size w W) => h0.below hb)
  clear h0
  have H1 := Lib.hid (fun W (hb : Below w.heap.size w W) => h1.below hb)
  clear h1
  have H2 := Lib.hid (fun W (hb : Below w.heap.size w W) => h2.below hb)
  clear h2
  obtain ⟨nm0, va0, nv0, vc0, pa0, np0, pc0, ba0, nb0, bc0⟩ := m0
  obtain rfl : nm0 = _ := hn0
  obtain ⟨nm1, va1, nv1, vc1, pa1, np1, pc1, ba1, nb1, bc1⟩ := m1
  obtain rfl : nm1 = _ := hn1
  obtain ⟨nm2, va2, nv2, vc2, pa2, np2, pc2, ba2, nb2, bc2⟩ := m2
  obtain rfl : nm2 = _ := hn2
  have hmm := @run_makeMap Try.prog
  refine (callsIn_wide (n := 6)).1 (callsIn_of_wp_marks Try.func12 rfl trivial ?_ rfl)
  simp only [Try.ntmps12, List.size_toArray, List.length_cons, List.length_nil, Nat.reduceAdd, Nat.reduceSub, Array.replicate_succ, Array.replicate_zero, List.push_toArray, List.append_toArray, List.nil_append, List.cons_append]
  gi_wp2
  have hri : RI w w.heap.size [] [] (((w.alloc (.map #[] 0)).alloc (.cells #[.map (some w.heap.size)] 56)).alloc (.map #[] 0)) := by
    refine ⟨?_, ?_, ((Below.refl _ w).alloc (Nat.le_refl _) _).alloc (by simp) _ |>.alloc (by simp; omega) _, by simp, fun D hD => by cases hD⟩
    · have := Seen.made ((w.alloc (.map #[] 0)).alloc (.cells #[.map (some w.heap.size)] 56))
      simpa using this
    · exact (World.cell?_of_block (a := ⟨w.heap.size + 1, 0, none⟩) (Below.heap_alloc _ _ _ (by simp))).trans (rowC (heap_alloc2_new w _ _) 0 _)
  obtain ⟨W0, hW0⟩ : ∃ W0 : World, W0 = ((w.alloc (.map #[] 0)).alloc (.cells #[.map (some w.heap.size)] 56)).alloc (.map #[] 0) := ⟨_, rfl⟩
  rw [← hW0] at hri ⊢
  have HR0 := Lib.hid hri
  clear hri hW0
  refine wpIn_loop_rounds 4 ?_
  rw [roundsIn_succ]
  obtain ⟨d0, d1, d2, d3, d4, d5, d6, d7⟩ := H0.out W0 HR0.out.2.2.1
  simp only [Nat.zero_add, Nat.reduceAdd] at d0 d1 d2 d3 d4 d5 d6 d7
  have hal0 : Below W0.heap.size W0 (W0.alloc (.cells #[.string { data := #[77] }, .slice none 0 0, .slice none 0 0, .slice none 0 0, .slice none 0 0, .slice va0 nv0 vc0, .slice pa0 np0 pc0, .slice ba0 nb0 bc0] 30)) := (Below.refl _ _).alloc (Nat.le_refl _) _
  have hr0 := HR0.out.step hal0
  have hlk := hr0.1.look { data := #[77] } nmM_size
  rw [show decide (({ data := #[77] } : ByteArray).data.toList ∈ ([] : List (List UInt8))) = false from by decide] at hlk
  obtain ⟨V0, hup, hsn, hgr⟩ := hr0.1.put (by decide) { data := #[77] } nmM_size
  have v4 : V0.cell? ⟨W0.heap.size, 4, none⟩ = some (.slice none 0 0) := by
    rw [World.cell?_of_block (hgr.block W0.heap.size (by simp) (fun e => by have e := Option.some.inj e; have := HR0.out.2.2.2.1; omega))]
    exact rowC (heap_alloc_new W0 _) 4 _
  have HV0 := Lib.hid (hr0.put (Nat.le_refl _) hsn hgr)
  clear hal0 hr0 hsn hgr
  gi_wp2
  refine ⟨trivial, CallsIn.mono (callsIn_wide.2 (backward_prog _)) ?_⟩
  rintro e wv ⟨rfl, rfl⟩
  gi_wp2
  have hx0 := HV0.out.step ((Below.refl _ V0).alloc (Nat.le_refl _) (.cells #[.slice none 0 0] 26))
  refine wpIn_rangeFunc_ownF (α := Empty) rfl (by omega) (gf := 27) (lb := #[.pointer (some ⟨V0.heap.size, 0, none⟩)]) rfl trivial (enters_of Try.func27 (by kernel_rfl) rfl)
    (back_stops 5 (by omega) V0.heap.size 0 _ (rowC (heap_alloc_new V0 _) 0 _)) belowK_t (belowK_b (Nat.zero_le _)) (Below.refl _ _) (fun x => x.elim) (fun _ W => RI w w.heap.size ([[77]] : List (List UInt8)) [] W) (fun _ _ _ => False)
    (RI.own (by have := hx0.2.2.2.1; exact this) (Nat.le_refl _) (fun D hD => (Array.getElem?_eq_some_iff.1 (hx0.2.2.2.2 D hD).2).1)) (fun _ _ _ _ _ hs _ _ => hs) hx0 (fun x => x.elim) (fun _ x => x.elim) (fun _ _ x => x.elim) (fun D0 xs W1 hD _ hI hK => ?_) (fun _ _ _ _ _ _ h => h.elim)
  have hlt0 : ∀ D ∈ ([] : List Nat), D ≠ D0 := fun D hD2 e => by have := (Array.getElem?_eq_some_iff.1 (hx0.2.2.2.2 D hD2).2).1; omega
  have HL0 := Lib.hid hlt0
  have HR1 := Lib.hid (hI.mark (by have := hx0.2.2.2.1; omega) hK)
  clear hx0 hI hK hD hup hlk v4 d0 d1 d2 d3 d4 d5 d6 d7 hlt0
  gi_wp2
  rw [roundsIn_succ]
  obtain ⟨d0, d1, d2, d3, d4, d5, d6, d7⟩ := H1.out W1 HR1.out.2.2.1
  simp only [Nat.zero_add, Nat.reduceAdd] at d0 d1 d2 d3 d4 d5 d6 d7
  have hal1 : Below W1.heap.size W1 (W1.alloc (.cells #[.string { data := #[77] }, .slice none 0 0, .slice none 0 0, .slice none 0 0, .slice none 0 0, .slice va1 nv1 vc1, .slice pa1 np1 pc1, .slice ba1 nb1 bc1] 30)) := (Below.refl _ _).alloc (Nat.le_refl _) _
  have hr1 := HR1.out.step hal1
  have hlk := hr1.1.look { data := #[77] } nmM_size
  rw [show decide (({ data := #[77] } : ByteArray).data.toList ∈ ([[77]] : List (List UInt8))) = true from by decide] at hlk
  have HR2 := Lib.hid hr1
  clear hal1 hr1
  obtain ⟨W2, hW2⟩ : ∃ W2 : World, W2 = W1.alloc (.cells #[.string { data := #[77] }, .slice none 0 0, .slice none 0 0, .slice none 0 0, .slice none 0 0, .slice va1 nv1 vc1, .slice pa1 np1 pc1, .slice ba1 nb1 bc1] 30) := ⟨_, rfl⟩
  rw [← hW2] at HR2
  have HWW2 := Lib.hid hW2
  clear hW2
  gi_wp2
  rw [← HWW2.out]
  clear hlk d0 d1 d2 d3 d4 d5 d6 d7
  rw [roundsIn_succ]
  obtain ⟨d0, d1, d2, d3, d4, d5, d6, d7⟩ := H2.out W2 HR2.out.2.2.1
  simp only [Nat.zero_add, Nat.reduceAdd] at d0 d1 d2 d3 d4 d5 d6 d7
  have hal2 : Below W2.heap.size W2 (W2.alloc (.cells #[.string { data := #[78] }, .slice none 0 0, .slice none 0 0, .slice none 0 0, .slice none 0 0, .slice va2 nv2 vc2, .slice pa2 np2 pc2, .slice ba2 nb2 bc2] 30)) := (Below.refl _ _).alloc (Nat.le_refl _) _
  have hr2 := HR2.out.step hal2
  have hlk := hr2.1.look { data := #[78] } nmN_size
  rw [show decide (({ data := #[78] } : ByteArray).data.toList ∈ ([[77]] : List (List UInt8))) = false from by decide] at hlk
  obtain ⟨V2, hup, hsn, hgr⟩ := hr2.1.put (by decide) { data := #[78] } nmN_size
  have v4 : V2.cell? ⟨W2.heap.size, 4, none⟩ = some (.slice none 0 0) := by
    rw [World.cell?_of_block (hgr.block W2.heap.size (by simp) (fun e => by have e := Option.some.inj e; have := HR2.out.2.2.2.1; omega))]
    exact rowC (heap_alloc_new W2 _) 4 _
  have HV2 := Lib.hid (hr2.put (Nat.le_refl _) hsn hgr)
  clear hal2 hr2 hsn hgr
  gi_wp2
  refine ⟨trivial, CallsIn.mono (callsIn_wide.2 (backward_prog _)) ?_⟩
  rintro e wv ⟨rfl, rfl⟩
  gi_wp2
  have hx2 := HV2.out.step ((Below.refl _ V2).alloc (Nat.le_refl _) (.cells #[.slice none 0 0] 26))
  refine wpIn_rangeFunc_ownF (α := Empty) rfl (by omega) (gf := 27) (lb := #[.pointer (some ⟨V2.heap.size, 0, none⟩)]) rfl trivial (enters_of Try.func27 (by kernel_rfl) rfl)
    (back_stops 5 (by omega) V2.heap.size 0 _ (rowC (heap_alloc_new V2 _) 0 _)) belowK_t (belowK_b (Nat.zero_le _)) (Below.refl _ _) (fun x => x.elim) (fun _ W => RI w w.heap.size ([[78], [77]] : List (List UInt8)) [D0] W) (fun _ _ _ => False)
    (RI.own (by have := hx2.2.2.2.1; exact this) (Nat.le_refl _) (fun D hD => (Array.getElem?_eq_some_iff.1 (hx2.2.2.2.2 D hD).2).1)) (fun _ _ _ _ _ hs _ _ => hs) hx2 (fun x => x.elim) (fun _ x => x.elim) (fun _ _ x => x.elim) (fun D2 xs W3 hD _ hI hK => ?_) (fun _ _ _ _ _ _ h => h.elim)
  have hlt2 : ∀ D ∈ ([D0] : List Nat), D ≠ D2 := fun D hD2 e => by have := (Array.getElem?_eq_some_iff.1 (hx2.2.2.2.2 D hD2).2).1; omega
  have HL2 := Lib.hid hlt2
  have HR3 := Lib.hid (hI.mark (by have := hx2.2.2.2.1; omega) hK)
  clear hx2 hI hK hD hup hlk v4 d0 d1 d2 d3 d4 d5 d6 d7 hlt2
  gi_wp2
  rw [roundsIn_succ]
  have cbx := HR3.out.2.1
  gi_wp2
  exact leaves_marks [D2, D0] W3 (by have := HL2.out D0 (by simp); simp; omega) (fun D hD => (HR3.out.2.2.2.2 D hD).2) (fun W h1 h2 h3 h4 h5 => ⟨_, results_tmp rfl _ _ _, ⟨_, rfl⟩, below_marks HR3.out h1 h2 h3 h4 h5⟩)
set_option maxHeartbeats 12800000 in
theorem recs_NMN (w : World) (b c : Nat) (m0 : Mo) (hn0 : m0.nm = { data := #[78] }) (h0 : MoAt w b 0 m0) (m1 : Mo) (hn1 : m1.nm = { data := #[77] }) (h1 : MoAt w b 8 m1) (m2 : Mo) (hn2 : m2.nm = { data := #[78] }) (h2 : MoAt w b 16 m2) (hc1 : 3 ≤ c) (hc2 : c ≤ 9223372036854775807) :
    Calls Try.prog 12 #[.slice (some ⟨b, 0, none⟩) 3 c] w fun en w' => (∃ r, en = .returned (.map (some r))) ∧ Below w.heap.size w w' := by
  have H0 := Lib.hid (fun W (hb : Below w.heap.size w W) => h0.below hb)
  clear h0
  have H1 := Lib.hid (fun W (hb : Below w.heap.size w W) => h1.below hb)
  clear h1
  have H2 := Lib.hid (fun W (hb : Below w.heap.size w W) => h2.below hb)
  clear h2
  obtain ⟨nm0, va0, nv0, vc0, pa0, np0, pc0, ba0, nb0, bc0⟩ := m0
  obtain rfl : nm0 = _ := hn0
  obtain ⟨nm1, va1, nv1, vc1, pa1, np1, pc1, ba1, nb1, bc1⟩ := m1
  obtain rfl : nm1 = _ := hn1
  obtain ⟨nm2, va2, nv2, vc2, pa2, np2, pc2, ba2, nb2, bc2⟩ := m2
  obtain rfl : nm2 = _ := hn2
  have hmm := @run_makeMap Try.prog
  refine (callsIn_wide (n := 6)).1 (callsIn_of_wp_marks Try.func12 rfl trivial ?_ rfl)
  simp only [Try.ntmps12, List.size_toArray, List.length_cons, List.length_nil, Nat.reduceAdd, Nat.reduceSub, Array.replicate_succ, Array.replicate_zero, List.push_toArray, List.append_toArray, List.nil_append, List.cons_append]
  gi_wp2
  have hri : RI w w.heap.size [] [] (((w.alloc (.map #[] 0)).alloc (.cells #[.map (some w.heap.size)] 56)).alloc (.map #[] 0)) := by
    refine ⟨?_, ?_, ((Below.refl _ w).alloc (Nat.le_refl _) _).alloc (by simp) _ |>.alloc (by simp; omega) _, by simp, fun D hD => by cases hD⟩
    · have := Seen.made ((w.alloc (.map #[] 0)).alloc (.cells #[.map (some w.heap.size)] 56))
      simpa using this
    · exact (World.cell?_of_block (a := ⟨w.heap.size + 1, 0, none⟩) (Below.heap_alloc _ _ _ (by simp))).trans (rowC (heap_alloc2_new w _ _) 0 _)
  obtain ⟨W0, hW0⟩ : ∃ W0 : World, W0 = ((w.alloc (.map #[] 0)).alloc (.cells #[.map (some w.heap.size)] 56)).alloc (.map #[] 0) := ⟨_, rfl⟩
  rw [← hW0] at hri ⊢
  have HR0 := Lib.hid hri
  clear hri hW0
  refine wpIn_loop_rounds 4 ?_
  rw [roundsIn_succ]
  obtain ⟨d0, d1, d2, d3, d4, d5, d6, d7⟩ := H0.out W0 HR0.out.2.2.1
  simp only [Nat.zero_add, Nat.reduceAdd] at d0 d1 d2 d3 d4 d5 d6 d7
  have hal0 : Below W0.heap.size W0 (W0.alloc (.cells #[.string { data := #[78] }, .slice none 0 0, .slice none 0 0, .slice none 0 0, .slice none 0 0, .slice va0 nv0 vc0, .slice pa0 np0 pc0, .slice ba0 nb0 bc0] 30)) := (Below.refl _ _).alloc (Nat.le_refl _) _
  have hr0 := HR0.out.step hal0
  have hlk := hr0.1.look { data := #[78] } nmN_size
  rw [show decide (({ data := #[78] } : ByteArray).data.toList ∈ ([] : List (List UInt8))) = false from by decide] at hlk
  obtain ⟨V0, hup, hsn, hgr⟩ := hr0.1.put (by decide) { data := #[78] } nmN_size
  have v4 : V0.cell? ⟨W0.heap.size, 4, none⟩ = some (.slice none 0 0) := by
    rw [World.cell?_of_block (hgr.block W0.heap.size (by simp) (fun e => by have e := Option.some.inj e; have := HR0.out.2.2.2.1; omega))]
    exact rowC (heap_alloc_new W0 _) 4 _
  have HV0 := Lib.hid (hr0.put (Nat.le_refl _) hsn hgr)
  clear hal0 hr0 hsn hgr
  gi_wp2
  refine ⟨trivial, CallsIn.mono (callsIn_wide.2 (backward_prog _)) ?_⟩
  rintro e wv ⟨rfl, rfl⟩
  gi_wp2
  have hx0 := HV0.out.step ((Below.refl _ V0).alloc (Nat.le_refl _) (.cells #[.slice none 0 0] 26))
  refine wpIn_rangeFunc_ownF (α := Empty) rfl (by omega) (gf := 27) (lb := #[.pointer (some ⟨V0.heap.size, 0, none⟩)]) rfl trivial (enters_of Try.func27 (by kernel_rfl) rfl)
    (back_stops 5 (by omega) V0.heap.size 0 _ (rowC (heap_alloc_new V0 _) 0 _)) belowK_t (belowK_b (Nat.zero_le _)) (Below.refl _ _) (fun x => x.elim) (fun _ W => RI w w.heap.size ([[78]] : List (List UInt8)) [] W) (fun _ _ _ => False)
    (RI.own (by have := hx0.2.2.2.1; exact this) (Nat.le_refl _) (fun D hD => (Array.getElem?_eq_some_iff.1 (hx0.2.2.2.2 D hD).2).1)) (fun _ _ _ _ _ hs _ _ => hs) hx0 (fun x => x.elim) (fun _ x => x.elim) (fun _ _ x => x.elim) (fun D0 xs W1 hD _ hI hK => ?_) (fun _ _ _ _ _ _ h => h.elim)
  have hlt0 : ∀ D ∈ ([] : List Nat), D ≠ D0 := fun D hD2 e => by have := (Array.getElem?_eq_some_iff.1 (hx0.2.2.2.2 D hD2).2).1; omega
  have HL0 := Lib.hid hlt0
  have HR1 := Lib.hid (hI.mark (by have := hx0.2.2.2.1; omega) hK)
  clear hx0 hI hK hD hup hlk v4 d0 d1 d2 d3 d4 d5 d6 d7 hlt0
  gi_wp2
  rw [roundsIn_succ]
  obtain ⟨d0, d1, d2, d3, d4, d5, d6, d7⟩ := H1.out W1 HR1.out.2.2.1
  simp only [Nat.zero_add, Nat.reduceAdd] at d0 d1 d2 d3 d4 d5 d6 d7
  have hal1 : Below W1.heap.size W1 (W1.alloc (.cells #[.string { data := #[77] }, .slice none 0 0, .slice none 0 0, .slice none 0 0, .slice none 0 0, .slice va1 nv1 vc1, .slice pa1 np1 pc1, .slice ba1 nb1 bc1] 30)) := (Below.refl _ _).alloc (Nat.le_refl _) _
  have hr1 := HR1.out.step hal1
  have hlk := hr1.1.look { data := #[77] } nmM_size
  rw [show decide (({ data := #[77] } : ByteArray).data.toList ∈ ([[78]] : List (List UInt8))) = false from by decide] at hlk
  obtain ⟨V1, hup, hsn, hgr⟩ := hr1.1.put (by decide) { data := #[77] } nmM_size
  have v4 : V1.cell? ⟨W1.heap.size, 4, none⟩ = some (.slice none 0 0) := by
    rw [World.cell?_of_block (hgr.block W1.heap.size (by simp) (fun e => by have e := Option.some.inj e; have := HR1.out.2.2.2.1; omega))]
    exact rowC (heap_alloc_new W1 _) 4 _
  have HV1 := Lib.hid (hr1.put (Nat.le_refl _) hsn hgr)
  clear hal1 hr1 hsn hgr
  gi_wp2
  refine ⟨trivial, CallsIn.mono (callsIn_wide.2 (backward_prog _)) ?_⟩
  rintro e wv ⟨rfl, rfl⟩
  gi_wp2
  have hx1 := HV1.out.step ((Below.refl _ V1).alloc (Nat.le_refl _) (.cells #[.slice none 0 0] 26))
  refine wpIn_rangeFunc_ownF (α := Empty) rfl (by omega) (gf := 27) (lb := #[.pointer (some ⟨V1.heap.size, 0, none⟩)]) rfl trivial (enters_of Try.func27 (by kernel_rfl) rfl)
    (back_stops 5 (by omega) V1.heap.size 0 _ (rowC (heap_alloc_new V1 _) 0 _)) belowK_t (belowK_b (Nat.zero_le _)) (Below.refl _ _) (fun x => x.elim) (fun _ W => RI w w.heap.size ([[77], [78]] : List (List UInt8)) [D0] W) (fun _ _ _ => False)
    (RI.own (by have := hx1.2.2.2.1; exact this) (Nat.le_refl _) (fun D hD => (Array.getElem?_eq_some_iff.1 (hx1.2.2.2.2 D hD).2).1)) (fun _ _ _ _ _ hs _ _ => hs) hx1 (fun x => x.elim) (fun _ x => x.elim) (fun _ _ x => x.elim) (fun D1 xs W2 hD _ hI hK => ?_) (fun _ _ _ _ _ _ h => h.elim)
  have hlt1 : ∀ D ∈ ([D0] : List Nat), D ≠ D1 := fun D hD2 e => by have := (Array.getElem?_eq_some_iff.1 (hx1.2.2.2.2 D hD2).2).1; omega
  have HL1 := Lib.hid hlt1
  have HR2 := Lib.hid (hI.mark (by have := hx1.2.2.2.1; omega) hK)
  clear hx1 hI hK hD hup hlk v4 d0 d1 d2 d3 d4 d5 d6 d7 hlt1
  gi_wp2
  rw [roundsIn_succ]
  obtain ⟨d0, d1, d2, d3, d4, d5, d6, d7⟩ := H2.out W2 HR2.out.2.2.1
  simp only [Nat.zero_add, Nat.reduceAdd] at d0 d1 d2 d3 d4 d5 d6 d7
  have hal2 : Below W2.heap.size W2 (W2.alloc (.cells #[.string { data := #[78] }, .slice none 0 0, .slice none 0 0, .slice none 0 0, .slice none 0 0, .slice va2 nv2 vc2, .slice pa2 np2 pc2, .slice ba2 nb2 bc2] 30)) := (Below.refl _ _).alloc (Nat.le_refl _) _
  have hr2 := HR2.out.step hal2
  have hlk := hr2.1.look { data := #[78] } nmN_size
  rw [show decide (({ data := #[78] } : ByteArray).data.toList ∈ ([[77], [78]] : List (List UInt8))) = true from by decide] at hlk
  have HR3 := Lib.hid hr2
  clear hal2 hr2
  obtain ⟨W3, hW3⟩ : ∃ W3 : World, W3 = W2.alloc (.cells #[.string { data := #[78] }, .slice none 0 0, .slice none 0 0, .slice none 0 0, .slice none 0 0, .slice va2 nv2 vc2, .slice pa2 np2 pc2, .slice ba2 nb2 bc2] 30) := ⟨_, rfl⟩
  rw [← hW3] at HR3
  have HWW3 := Lib.hid hW3
  clear hW3
  gi_wp2
  rw [← HWW3.out]
  clear hlk d0 d1 d2 d3 d4 d5 d6 d7
  rw [roundsIn_succ]
  have cbx := HR3.out.2.1
  gi_wp2
  exact leaves_marks [D1, D0] W3 (by have := HL1.out D0 (by simp); simp; omega) (fun D hD => (HR3.out.2.2.2.2 D hD).2) (fun W h1 h2 h3 h4 h5 => ⟨_, results_tmp rfl _ _ _, ⟨_, rfl⟩, below_marks HR3.out h1 h2 h3 h4 h5⟩)
end Go.Proofs.Ytmidkomdmnncoaa
