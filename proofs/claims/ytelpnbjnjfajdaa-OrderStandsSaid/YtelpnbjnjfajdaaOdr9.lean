/- Order: order.Modules. -/
import Derived.Test.YtelpnbjnjfajdaaOdr8
import Derived.Test.YtelpnbjnjfajdaaOrd
namespace Go.Proofs.Ytelpnbjnjfajdaa
open Go.RowKit Go.Waf Go.Maps
set_option maxRecDepth 100000
set_option linter.unusedVariables false
set_option linter.unusedSimpArgs false

/-- While the names are being laid down. -/
structure LayAt (w0 w : World) (q mb ob : Nat) (a : Option Addr) (n cap : Nat) (M : Nat → Md) (k : Nat) : Prop where
  blk : w.heap[q]? = some (.cells #[.slice a n cap, .map (some mb), .slice (some ⟨ob, 0, none⟩) n n, .slice none 0 0] 54 (0, 0))
  map : ∃ D, w.ownsMap Try.prog 9 (plainElem (H := Unit) Try.prog 3) mb k D ∧ MapK M k D
  on : w.heap[ob]? = some (.cells (boolsA n st0.on) 4 (0, 0))
  bq : w0.heap.size ≤ q
  bm : w0.heap.size ≤ mb
  bo : w0.heap.size ≤ ob
  qm : q ≠ mb
  qo : q ≠ ob
  mo : mb ≠ ob
  old : Below w0.heap.size w0 w
theorem LayAt.start (w0 w : World) (a : Option Addr) (n cap : Nat) (M : Nat → Md) (mb ob q : Nat) (o1 o2 : Obj) (hb : Below w0.heap.size w0 w) (hm : mb = w.heap.size) (h1 : o1 = .cells (madeCells #[.bool false] n) 4 (0, 0)) (hob : ob = w.heap.size + 1) (hq : q = w.heap.size + 2)
    (h2 : o2 = .cells #[.slice a n cap, .map (some mb), .slice (some ⟨ob, 0, none⟩) n n, .slice none 0 0] 54 (0, 0)) : LayAt w0 (((w.alloc (.map #[] 0)).alloc o1).alloc o2) q mb ob a n cap M 0 := by
  subst h1 hm hob hq h2
  have hs := hb.size
  have e1 : (w.alloc (.map #[] 0)).heap.size = w.heap.size + 1 := by simp
  refine ⟨?_, ⟨.map [], (((World.ownsMap_made w _ _ _).alloc _).alloc _), MapK.start M⟩, ?_, by omega, hs, by omega, by omega, by omega, by omega, ((hb.alloc hs _).alloc (by simp; omega) _).alloc (by simp; omega) _⟩
  · have := heap_alloc2_new (w.alloc (.map #[] 0)) (.cells (madeCells #[.bool false] n) 4 (0, 0)) (.cells #[.slice a n cap, .map (some w.heap.size), .slice (some ⟨w.heap.size + 1, 0, none⟩) n n, .slice none 0 0] 54 (0, 0))
    rw [e1] at this
    exact this
  · have := heap_alloc2_new w (.map #[] 0) (.cells (madeCells #[.bool false] n) 4 (0, 0))
    rw [blk_alloc this]
    have : (madeCells #[Value.bool false] n) = boolsA n st0.on := by
      apply Array.ext
      · simp [boolsA, size_madeCells]
      · intro j h1 h2; simp [madeCells, Nat.mod_one, boolsA, st0]
    rw [this]
theorem LayAt.walk {w0 w : World} {q mb ob n cap : Nat} {a : Option Addr} {M : Nat → Md} (h : LayAt w0 w q mb ob a n cap M n) (hn : n ≤ 16) : PW w0 w q mb ob a n cap M (.slice none 0 0) st0 :=
  ⟨h.blk, let ⟨D, h1, h2⟩ := h.map; ⟨D, h1.mono (by omega), h2.ok⟩, h.on, World.ownsRow_nil _ _ _ _, h.bq, h.bm, h.bo, h.qm, h.qo, h.mo, by simp [Value.ownBlock], by simp [Value.ownBlock], by simp [Value.ownBlock], by rw [free_st0]; simp [st0], h.old⟩
theorem LayAt.below {w0 w w' : World} {q mb ob n cap B k : Nat} {a : Option Addr} {M : Nat → Md} (h : LayAt w0 w q mb ob a n cap M k) (hb : Below B w w') (hB : w.heap.size ≤ B) : LayAt w0 w' q mb ob a n cap M k := by
  have l1 := (Array.getElem?_eq_some_iff.1 h.blk).1
  have l3 := (Array.getElem?_eq_some_iff.1 h.on).1
  obtain ⟨D, m1, m2⟩ := h.map
  have l2 := m1.lt
  have hs := h.old.size
  exact ⟨by rw [hb.block q (by omega)]; exact h.blk, ⟨D, m1.kept (w' := w') (row := none) ⟨hb.os, hb.tape, hb.output, hb.size, fun j hj _ => hb.block j (by omega)⟩ (by simp), m2⟩, by rw [hb.block ob (by omega)]; exact h.on, h.bq, h.bm, h.bo, h.qm, h.qo, h.mo, h.old.trans (hb.mono (by omega))⟩

theorem LayAt.put {w0 w w' : World} {q mb ob n cap k : Nat} {a : Option Addr} {M : Nat → Md} {D : DataW Unit} (h : LayAt w0 w q mb ob a n cap M k) (ho : w'.ownsMap Try.prog 9 (plainElem (H := Unit) Try.prog 3) mb (k + 1) D) (hM : MapK M (k + 1) D) (hg : w.grownBy w' (some mb)) : LayAt w0 w' q mb ob a n cap M (k + 1) := by
  have l1 := (Array.getElem?_eq_some_iff.1 h.blk).1
  have l3 := (Array.getElem?_eq_some_iff.1 h.on).1
  have hs := h.old.size
  have hb := h.bm
  refine ⟨by rw [hg.block q l1 (fun e => h.qm (Option.some.inj e))]; exact h.blk, ⟨D, ho, hM⟩, by rw [hg.block ob l3 (fun e => h.mo (Option.some.inj e).symm)]; exact h.on, h.bq, h.bm, h.bo, h.qm, h.qo, h.mo, hg.os.trans h.old.os, hg.tape.trans h.old.tape, hg.output.trans h.old.output, Nat.le_trans h.old.size hg.size, fun j hj => (hg.block j (by omega) (fun e => ?_)).trans (h.old.block j hj)⟩
  have := Option.some.inj e; omega

set_option maxHeartbeats 6400000 in
theorem order_prog (w : World) (a : Option Addr) (n cap : Nat) (M : Nat → Md) (hp : ModsAt w a n cap M) :
    Calls Try.prog 7 #[.slice a n cap] w fun e w' => (∃ v, e = .returned (.tuple #[v, .int .i64 (ordR M n).2]) ∧ Rd w' 1 v (ordR M n).1.length (nats (ordR M n).1)) ∧ Below w.heap.size w w' := by
  have hle := hp.le
  have hcap := hp.cap63
  by_cases hn : 16 < n
  · have e : ordR M n = ([], 34) := by unfold ordR; rw [if_pos hn]
    rw [e]
    clear hp
    go_enter Try.func7, Try.ntmps7
    go_wp2_with fail
    go_ret2
    exact ⟨⟨_, rfl, Rd.nil _ _⟩, Below.refl _ _⟩
  · have HP := Lib.hid hp
    clear hp
    have hmm := @run_makeMap Try.prog
    have hmk := run_make_row' (P := Try.prog) 52 4 (.bool false) 1 Try.underlying52 (by kernel_rfl) rfl .i64 .i64 n (by omega) (by omega)
    have HLY := Lib.hid (LayAt.start w w a n cap M w.heap.size (w.heap.size + 1) (w.heap.size + 2) _ _ (Below.refl _ _) rfl rfl rfl rfl rfl)
    go_enter Try.func7, Try.ntmps7
    go_wp2_with fail
    go_loopw [28] (fun z wr => ∃ k : Nat, k ≤ n ∧ z = .int .i64 (k : Int) ∧ (∀ j, j < k → atN M j (M j).name < 0) ∧ LayAt w wr (w.heap.size + 2) w.heap.size (w.heap.size + 1) a n cap M k) (fun z _ => n - (intOf z).toNat)
    case atStart => exact ⟨0, by omega, rfl, fun j hj => absurd hj (by omega), HLY.out⟩
    case round =>
      obtain ⟨k, hk, rfl, hon, hly⟩ := hrel
      obtain ⟨wo, rfl⟩ : ∃ wo : World, wo = wr := ⟨_, rfl⟩
      by_cases hlt : k < n
      · obtain ⟨ab, ao, rfl, hc⟩ := (HP.out.below hly.old (Nat.le_refl _)).cells (by omega)
        obtain ⟨iv, hr, d0, d1, d2, d3, d4, d5, d6, d7⟩ := hc k hlt
        obtain ⟨ia, ic, rfl, i1, i2, i3⟩ := rd_shape hr
        have HLK := Lib.hid hly
        have HON := Lib.hid hon
        clear hc hr hly hon
        obtain ⟨wm, hwm⟩ : ∃ wm : World, wm = wo.alloc (.cells #[.string (M k).name, .slice ia (M k).imps.length ic, .slice none 0 0, .slice none 0 0, .slice none 0 0, .slice none 0 0, .slice none 0 0, .slice none 0 0] 44) := ⟨_, rfl⟩
        have hbm : Below wo.heap.size wo wm := by rw [hwm]; exact (Below.refl _ _).alloc (Nat.le_refl _) _
        obtain ⟨wd, hwd⟩ : ∃ wd : World, wd = wm.drew := ⟨_, rfl⟩
        have hbd : Below wo.heap.size wo wd := by rw [hwd]; exact below_drewN hbm 1
        have hld := HLK.out.below hbd (Nat.le_refl _)
        have c1 : wd.cell? ⟨w.heap.size + 1 + 1, 1, none⟩ = some (.map (some w.heap.size)) := by rw [cell_of_row wd _ 1 _ _ _ hld.blk]; rfl
        have cm : wd.cell? ⟨wo.heap.size, 0, none⟩ = some (.string (M k).name) := by
          rw [hwd, hwm]
          show (wo.alloc _).cell? _ = _
          rw [World.cell?_alloc_new]; rfl
        obtain ⟨D, hown, hMK⟩ := hld.map
        have hkey := key_of (M k).name (HP.out.names k hlt)
        obtain ⟨v, ps, hrun, hv⟩ := hown.look_ok lawS Try.underlying51 (zeroI _) (plainElem_int Try.underlying3 (by decide)) hkey
        obtain ⟨c, rfl, hc1, hc2⟩ := plainElem_int_inv Try.underlying3 hv
        rw [hMK.has] at hrun
        obtain ⟨nm, hnm⟩ : ∃ nm, nm = (M k).name := ⟨_, rfl⟩
        rw [← hnm] at hrun cm
        obtain ⟨bb, hbb⟩ : ∃ bb, bb = decide (0 ≤ atN M k nm) := ⟨_, rfl⟩
        rw [← hbb] at hrun
        have hord : bb = true → ordR M n = ([], 43) := fun h => by
          have h0 : 0 ≤ atN M k (M k).name := by rw [← hnm]; rw [h] at hbb; exact of_decide_eq_true hbb.symm
          unfold ordR
          rw [if_neg hn, if_pos (not_once hlt h0)]
        have hlow : bb = false → atN M k (M k).name < 0 := fun h => by
          rw [h] at hbb; have := of_decide_eq_false hbb.symm; rw [hnm] at this; omega
        have HORD := Lib.hid hord
        have HLOW := Lib.hid hlow
        clear hord hlow
        have HS := Lib.hid (show (fun W => W.cell? ⟨w.heap.size + 1 + 1, 1, none⟩ = some (.map (some w.heap.size)) ∧ W.cell? ⟨wo.heap.size, 0, none⟩ = some (.string nm) ∧ (Instr.lookup 51 (.map (some w.heap.size)) (.string nm) true).run Try.prog W = .ok (.tuple #[.int .i64 c, .bool bb]) W) wd from ⟨c1, cm, hrun⟩)
        have HLD := Lib.hid hld
        have HNM := Lib.hid hnm
        have HBB := Lib.hid hbb
        have HWD := Lib.hid hwd
        have HWM := Lib.hid hwm
        have HBD := Lib.hid hbd
        clear hown hMK hkey hv hc1 hc2 hld hbb hbd hbm hwd hwm hnm
        cases bb
        · go_wp2_with fail
          rw [← HWM.out]
          refine wp_region_till 11 (fun W => W.cell? ⟨w.heap.size + 1 + 1, 1, none⟩ = some (.map (some w.heap.size)) ∧ W.cell? ⟨wo.heap.size, 0, none⟩ = some (.string nm) ∧ (Instr.lookup 51 (.map (some w.heap.size)) (.string nm) true).run Try.prog W = .ok (.tuple #[.int .i64 c, .bool false]) W) (by as_aux_lemma => kernel_rfl) ?_
          rw [← HWD.out]
          (refine wpAnyT_take (i := 0) (oi := ?_) (v := ?_) ?_ (by as_aux_lemma => kernel_rfl) (by as_aux_lemma => kernel_rfl) (by as_aux_lemma => kernel_rfl) (by as_aux_lemma => kernel_rfl) ?_ (Or.inl ⟨?_, ?_⟩) HS.out ?_; rotate_left 2; (focus (simp only [List.getElem?_toArray, List.getElem?_cons_succ, List.getElem?_cons_zero] <;> rfl)); (focus exact (fun _ _ _ h => h)); (focus rfl); (focus (intro w hSw; (try dsimp only at hSw); go_simp; try (with_reducible rfl))))
          (try simp only [Act.put, List.setIfInBounds_toArray, List.set_cons_zero, List.set_cons_succ])
          (refine wpAnyT_take (i := 1) (oi := ?_) (v := ?_) ?_ (by as_aux_lemma => kernel_rfl) (by as_aux_lemma => kernel_rfl) (by as_aux_lemma => kernel_rfl) (by as_aux_lemma => kernel_rfl) ?_ (Or.inl ⟨?_, ?_⟩) HS.out ?_; rotate_left 2; (focus (simp only [List.getElem?_toArray, List.getElem?_cons_succ, List.getElem?_cons_zero] <;> rfl)); (focus exact (fun _ _ _ h => h)); (focus rfl); (focus (intro w hSw; (try dsimp only at hSw); go_simp; try (with_reducible rfl))))
          (try simp only [Act.put, List.setIfInBounds_toArray, List.set_cons_zero, List.set_cons_succ])
          (refine wpAnyT_take (i := 2) (oi := ?_) (v := ?_) ?_ (by as_aux_lemma => kernel_rfl) (by as_aux_lemma => kernel_rfl) (by as_aux_lemma => kernel_rfl) (by as_aux_lemma => kernel_rfl) ?_ (Or.inl ⟨?_, ?_⟩) HS.out ?_; rotate_left 2; (focus (simp only [List.getElem?_toArray, List.getElem?_cons_succ, List.getElem?_cons_zero] <;> rfl)); (focus exact (fun _ _ _ h => h)); (focus rfl); (focus (intro w hSw; (try dsimp only at hSw); go_simp; try (with_reducible rfl))))
          (try simp only [Act.put, List.setIfInBounds_toArray, List.set_cons_zero, List.set_cons_succ])
          (refine wpAnyT_take (i := 3) (oi := ?_) (v := ?_) ?_ (by as_aux_lemma => kernel_rfl) (by as_aux_lemma => kernel_rfl) (by as_aux_lemma => kernel_rfl) (by as_aux_lemma => kernel_rfl) ?_ (Or.inl ⟨?_, ?_⟩) HS.out ?_; rotate_left 2; (focus (simp only [List.getElem?_toArray, List.getElem?_cons_succ, List.getElem?_cons_zero] <;> rfl)); (focus exact (fun _ _ _ h => h)); (focus rfl); (focus (intro w hSw; (try dsimp only at hSw); go_simp; try (with_reducible rfl))))
          (try simp only [Act.put, List.setIfInBounds_toArray, List.set_cons_zero, List.set_cons_succ])
          (refine wpAnyT_take (i := 4) (oi := ?_) (v := ?_) ?_ (by as_aux_lemma => kernel_rfl) (by as_aux_lemma => kernel_rfl) (by as_aux_lemma => kernel_rfl) (by as_aux_lemma => kernel_rfl) ?_ (Or.inl ⟨?_, ?_⟩) HS.out ?_; rotate_left 2; (focus (simp only [List.getElem?_toArray, List.getElem?_cons_succ, List.getElem?_cons_zero] <;> rfl)); (focus exact (fun _ _ _ h => h)); (focus rfl); (focus (intro w hSw; (try dsimp only at hSw); go_simp; try (with_reducible rfl))))
          (try simp only [Act.put, List.setIfInBounds_toArray, List.set_cons_zero, List.set_cons_succ])
          (refine wpAnyT_take (i := 5) (oi := ?_) (v := ?_) ?_ (by as_aux_lemma => kernel_rfl) (by as_aux_lemma => kernel_rfl) (by as_aux_lemma => kernel_rfl) (by as_aux_lemma => kernel_rfl) ?_ (Or.inl ⟨?_, ?_⟩) HS.out ?_; rotate_left 2; (focus (simp only [List.getElem?_toArray, List.getElem?_cons_succ, List.getElem?_cons_zero] <;> rfl)); (focus exact (fun _ _ _ h => h)); (focus rfl); (focus (intro w hSw; (try dsimp only at hSw); go_simp; try (with_reducible rfl))))
          (try simp only [Act.put, List.setIfInBounds_toArray, List.set_cons_zero, List.set_cons_succ])
          (refine wpAnyT_take (i := 6) (oi := ?_) (v := ?_) ?_ (by as_aux_lemma => kernel_rfl) (by as_aux_lemma => kernel_rfl) (by as_aux_lemma => kernel_rfl) (by as_aux_lemma => kernel_rfl) ?_ (Or.inl ⟨?_, ?_⟩) HS.out ?_; rotate_left 2; (focus (simp only [List.getElem?_toArray, List.getElem?_cons_succ, List.getElem?_cons_zero] <;> rfl)); (focus exact (fun _ _ _ h => h)); (focus rfl); (focus (intro w hSw; (try dsimp only at hSw); go_simp; try (with_reducible rfl))))
          (try simp only [Act.put, List.setIfInBounds_toArray, List.set_cons_zero, List.set_cons_succ])
          (refine wpAnyT_take (i := 7) (oi := ?_) (v := ?_) ?_ (by as_aux_lemma => kernel_rfl) (by as_aux_lemma => kernel_rfl) (by as_aux_lemma => kernel_rfl) (by as_aux_lemma => kernel_rfl) ?_ (Or.inl ⟨?_, ?_⟩) HS.out ?_; rotate_left 2; (focus (simp only [List.getElem?_toArray, List.getElem?_cons_succ, List.getElem?_cons_zero] <;> rfl)); (focus exact (fun _ _ _ h => h)); (focus rfl); (focus (intro w hSw; (try dsimp only at hSw); go_simp; try (with_reducible rfl))))
          (try simp only [Act.put, List.setIfInBounds_toArray, List.set_cons_zero, List.set_cons_succ])
          (refine wpAnyT_take (i := 8) (oi := ?_) (v := ?_) ?_ (by as_aux_lemma => kernel_rfl) (by as_aux_lemma => kernel_rfl) (by as_aux_lemma => kernel_rfl) (by as_aux_lemma => kernel_rfl) ?_ (Or.inl ⟨?_, ?_⟩) HS.out ?_; rotate_left 2; (focus (simp only [List.getElem?_toArray, List.getElem?_cons_succ, List.getElem?_cons_zero] <;> rfl)); (focus exact (fun _ _ _ h => h)); (focus rfl); (focus (intro w hSw; (try dsimp only at hSw); go_simp; try (with_reducible rfl))))
          (try simp only [Act.put, List.setIfInBounds_toArray, List.set_cons_zero, List.set_cons_succ])
          (refine wpAnyT_take (i := 9) (oi := ?_) (v := ?_) ?_ (by as_aux_lemma => kernel_rfl) (by as_aux_lemma => kernel_rfl) (by as_aux_lemma => kernel_rfl) (by as_aux_lemma => kernel_rfl) ?_ (Or.inl ⟨?_, ?_⟩) HS.out ?_; rotate_left 2; (focus (simp only [List.getElem?_toArray, List.getElem?_cons_succ, List.getElem?_cons_zero] <;> rfl)); (focus exact (fun _ _ _ h => h)); (focus rfl); (focus (intro w hSw; (try dsimp only at hSw); go_simp; try (with_reducible rfl))))
          (try simp only [Act.put, List.setIfInBounds_toArray, List.set_cons_zero, List.set_cons_succ])
          (refine wpAnyT_take (i := 10) (oi := ?_) (v := ?_) ?_ (by as_aux_lemma => kernel_rfl) (by as_aux_lemma => kernel_rfl) (by as_aux_lemma => kernel_rfl) (by as_aux_lemma => kernel_rfl) ?_ (Or.inl ⟨?_, ?_⟩) HS.out ?_; rotate_left 2; (focus (simp only [List.getElem?_toArray, List.getElem?_cons_succ, List.getElem?_cons_zero] <;> rfl)); (focus exact (fun _ _ _ h => h)); (focus rfl); (focus (intro w hSw; (try dsimp only at hSw); go_simp; try (with_reducible rfl))))
          (try simp only [Act.put, List.setIfInBounds_toArray, List.set_cons_zero, List.set_cons_succ])
          (refine wpAnyT_late (i := 11) (oi := ?_) ?_ (by as_aux_lemma => kernel_rfl) (by as_aux_lemma => kernel_rfl) (fun K hK => ?_); rotate_left; (focus (simp only [List.getElem?_toArray, List.getElem?_cons_succ, List.getElem?_cons_zero] <;> rfl)))
          go_simp
          refine hK.out _ _ ?_
          clear hK K
          refine wpAnyT_done (by as_aux_lemma => kernel_rfl) ?_ _
          go_wp2_with fail
          have hb2 : Below wd.heap.size wd wd.drew := below_drewN (Below.refl _ wd) 1
          obtain ⟨we, hwe⟩ : ∃ we : World, we = wd.drew := ⟨_, rfl⟩
          rw [← hwe] at hb2
          have hl2 := HLD.out.below hb2 (Nat.le_refl _)
          obtain ⟨D2, hown2, hMK2⟩ := hl2.map
          have hkey2 := key_of (M k).name (HP.out.names k hlt)
          obtain ⟨w5, hup, hown5, hg5⟩ := hown2.update lawS Try.underlying51 (by unfold maxLen; omega) hkey2 (plainElem_int Try.underlying3 (a := (k : Int)) (WalkArith.wf_i64 (by omega)))
          have hl5 := hl2.put hown5 (hMK2.next (HLOW.out trivial)) hg5
          rw [← HNM.out] at hup
          have e1 : we.cell? ⟨w.heap.size + 1 + 1, 1, none⟩ = some (.map (some w.heap.size)) := by rw [cell_of_row we _ 1 _ _ _ hl2.blk]; rfl
          have e2 : we.cell? ⟨wo.heap.size, 0, none⟩ = some (.string nm) := by rw [hwe]; exact HS.out.2.1
          have HS2 := Lib.hid (show (fun W => W.cell? ⟨w.heap.size + 1 + 1, 1, none⟩ = some (.map (some w.heap.size)) ∧ W.cell? ⟨wo.heap.size, 0, none⟩ = some (.string nm) ∧ (Instr.mapUpdate 51 (.map (some w.heap.size)) (.string nm) (.int .i64 (k : Int))).run Try.prog W = .ok () w5) we from ⟨e1, e2, hup⟩)
          have HL5 := Lib.hid hl5
          have HWE := Lib.hid hwe
          clear hb2 hwe hl2 hown2 hMK2 hkey2 hup hown5 hg5 hl5 e1 e2
          refine wp_region_till 7 (fun W => W.cell? ⟨w.heap.size + 1 + 1, 1, none⟩ = some (.map (some w.heap.size)) ∧ W.cell? ⟨wo.heap.size, 0, none⟩ = some (.string nm) ∧ (Instr.mapUpdate 51 (.map (some w.heap.size)) (.string nm) (.int .i64 (k : Int))).run Try.prog W = .ok () w5) (by as_aux_lemma => kernel_rfl) ?_
          rw [← HWE.out]
          (refine wpAnyT_take (i := 0) (oi := ?_) (v := ?_) ?_ (by as_aux_lemma => kernel_rfl) (by as_aux_lemma => kernel_rfl) (by as_aux_lemma => kernel_rfl) (by as_aux_lemma => kernel_rfl) ?_ (Or.inl ⟨?_, ?_⟩) HS2.out ?_; rotate_left 2; (focus (simp only [List.getElem?_toArray, List.getElem?_cons_succ, List.getElem?_cons_zero] <;> rfl)); (focus exact (fun _ _ _ h => h)); (focus rfl); (focus (intro w hSw; (try dsimp only at hSw); go_simp; try (with_reducible rfl))))
          (try simp only [Act.put, List.setIfInBounds_toArray, List.set_cons_zero, List.set_cons_succ])
          (refine wpAnyT_take (i := 1) (oi := ?_) (v := ?_) ?_ (by as_aux_lemma => kernel_rfl) (by as_aux_lemma => kernel_rfl) (by as_aux_lemma => kernel_rfl) (by as_aux_lemma => kernel_rfl) ?_ (Or.inl ⟨?_, ?_⟩) HS2.out ?_; rotate_left 2; (focus (simp only [List.getElem?_toArray, List.getElem?_cons_succ, List.getElem?_cons_zero] <;> rfl)); (focus exact (fun _ _ _ h => h)); (focus rfl); (focus (intro w hSw; (try dsimp only at hSw); go_simp; try (with_reducible rfl))))
          (try simp only [Act.put, List.setIfInBounds_toArray, List.set_cons_zero, List.set_cons_succ])
          (refine wpAnyT_take (i := 2) (oi := ?_) (v := ?_) ?_ (by as_aux_lemma => kernel_rfl) (by as_aux_lemma => kernel_rfl) (by as_aux_lemma => kernel_rfl) (by as_aux_lemma => kernel_rfl) ?_ (Or.inl ⟨?_, ?_⟩) HS2.out ?_; rotate_left 2; (focus (simp only [List.getElem?_toArray, List.getElem?_cons_succ, List.getElem?_cons_zero] <;> rfl)); (focus exact (fun _ _ _ h => h)); (focus rfl); (focus (intro w hSw; (try dsimp only at hSw); go_simp; try (with_reducible rfl))))
          (try simp only [Act.put, List.setIfInBounds_toArray, List.set_cons_zero, List.set_cons_succ])
          (refine wpAnyT_take (i := 3) (oi := ?_) (v := ?_) ?_ (by as_aux_lemma => kernel_rfl) (by as_aux_lemma => kernel_rfl) (by as_aux_lemma => kernel_rfl) (by as_aux_lemma => kernel_rfl) ?_ (Or.inl ⟨?_, ?_⟩) HS2.out ?_; rotate_left 2; (focus (simp only [List.getElem?_toArray, List.getElem?_cons_succ, List.getElem?_cons_zero] <;> rfl)); (focus exact (fun _ _ _ h => h)); (focus rfl); (focus (intro w hSw; (try dsimp only at hSw); go_simp; try (with_reducible rfl))))
          (try simp only [Act.put, List.setIfInBounds_toArray, List.set_cons_zero, List.set_cons_succ])
          (refine wpAnyT_take (i := 4) (oi := ?_) (v := ?_) ?_ (by as_aux_lemma => kernel_rfl) (by as_aux_lemma => kernel_rfl) (by as_aux_lemma => kernel_rfl) (by as_aux_lemma => kernel_rfl) ?_ (Or.inl ⟨?_, ?_⟩) HS2.out ?_; rotate_left 2; (focus (simp only [List.getElem?_toArray, List.getElem?_cons_succ, List.getElem?_cons_zero] <;> rfl)); (focus exact (fun _ _ _ h => h)); (focus rfl); (focus (intro w hSw; (try dsimp only at hSw); go_simp; try (with_reducible rfl))))
          (try simp only [Act.put, List.setIfInBounds_toArray, List.set_cons_zero, List.set_cons_succ])
          (refine wpAnyT_take (i := 5) (oi := ?_) (v := ?_) ?_ (by as_aux_lemma => kernel_rfl) (by as_aux_lemma => kernel_rfl) (by as_aux_lemma => kernel_rfl) (by as_aux_lemma => kernel_rfl) ?_ (Or.inl ⟨?_, ?_⟩) HS2.out ?_; rotate_left 2; (focus (simp only [List.getElem?_toArray, List.getElem?_cons_succ, List.getElem?_cons_zero] <;> rfl)); (focus exact (fun _ _ _ h => h)); (focus rfl); (focus (intro w hSw; (try dsimp only at hSw); go_simp; try (with_reducible rfl))))
          (try simp only [Act.put, List.setIfInBounds_toArray, List.set_cons_zero, List.set_cons_succ])
          (refine wpAnyT_take (i := 6) (oi := ?_) (v := ?_) ?_ (by as_aux_lemma => kernel_rfl) (by as_aux_lemma => kernel_rfl) (by as_aux_lemma => kernel_rfl) (by as_aux_lemma => kernel_rfl) ?_ (Or.inl ⟨?_, ?_⟩) HS2.out ?_; rotate_left 2; (focus (simp only [List.getElem?_toArray, List.getElem?_cons_succ, List.getElem?_cons_zero] <;> rfl)); (focus exact (fun _ _ _ h => h)); (focus rfl); (focus (intro w hSw; (try dsimp only at hSw); go_simp; try (with_reducible rfl))))
          (try simp only [Act.put, List.setIfInBounds_toArray, List.set_cons_zero, List.set_cons_succ])
          have HUP := HS2.out.2.2
          (refine wpAnyT_late (i := 7) (oi := ?_) ?_ (by as_aux_lemma => kernel_rfl) (by as_aux_lemma => kernel_rfl) (fun K hK => ?_); rotate_left; (focus (simp only [List.getElem?_toArray, List.getElem?_cons_succ, List.getElem?_cons_zero] <;> rfl)))
          go_simp
          refine hK.out _ _ ?_
          clear hK K
          refine wpAnyT_done (by as_aux_lemma => kernel_rfl) ?_ _
          go_wp2_with fail
          go_roundw
          case rel => exact ⟨k + 1, by omega, by go_num, fun j hj => by
            rcases Nat.lt_succ_iff_lt_or_eq.1 hj with h | h
            · exact HON.out j h
            · rw [h]; exact HLOW.out trivial, HL5.out⟩
          case measure => simp [intOf]; omega
        · go_wp2_with fail
          rw [← HWM.out]
          refine wp_region_till 11 (fun W => W.cell? ⟨w.heap.size + 1 + 1, 1, none⟩ = some (.map (some w.heap.size)) ∧ W.cell? ⟨wo.heap.size, 0, none⟩ = some (.string nm) ∧ (Instr.lookup 51 (.map (some w.heap.size)) (.string nm) true).run Try.prog W = .ok (.tuple #[.int .i64 c, .bool true]) W) (by as_aux_lemma => kernel_rfl) ?_
          rw [← HWD.out]
          (refine wpAnyT_take (i := 0) (oi := ?_) (v := ?_) ?_ (by as_aux_lemma => kernel_rfl) (by as_aux_lemma => kernel_rfl) (by as_aux_lemma => kernel_rfl) (by as_aux_lemma => kernel_rfl) ?_ (Or.inl ⟨?_, ?_⟩) HS.out ?_; rotate_left 2; (focus (simp only [List.getElem?_toArray, List.getElem?_cons_succ, List.getElem?_cons_zero] <;> rfl)); (focus exact (fun _ _ _ h => h)); (focus rfl); (focus (intro w hSw; (try dsimp only at hSw); go_simp; try (with_reducible rfl))))
          (try simp only [Act.put, List.setIfInBounds_toArray, List.set_cons_zero, List.set_cons_succ])
          (refine wpAnyT_take (i := 1) (oi := ?_) (v := ?_) ?_ (by as_aux_lemma => kernel_rfl) (by as_aux_lemma => kernel_rfl) (by as_aux_lemma => kernel_rfl) (by as_aux_lemma => kernel_rfl) ?_ (Or.inl ⟨?_, ?_⟩) HS.out ?_; rotate_left 2; (focus (simp only [List.getElem?_toArray, List.getElem?_cons_succ, List.getElem?_cons_zero] <;> rfl)); (focus exact (fun _ _ _ h => h)); (focus rfl); (focus (intro w hSw; (try dsimp only at hSw); go_simp; try (with_reducible rfl))))
          (try simp only [Act.put, List.setIfInBounds_toArray, List.set_cons_zero, List.set_cons_succ])
          (refine wpAnyT_take (i := 2) (oi := ?_) (v := ?_) ?_ (by as_aux_lemma => kernel_rfl) (by as_aux_lemma => kernel_rfl) (by as_aux_lemma => kernel_rfl) (by as_aux_lemma => kernel_rfl) ?_ (Or.inl ⟨?_, ?_⟩) HS.out ?_; rotate_left 2; (focus (simp only [List.getElem?_toArray, List.getElem?_cons_succ, List.getElem?_cons_zero] <;> rfl)); (focus exact (fun _ _ _ h => h)); (focus rfl); (focus (intro w hSw; (try dsimp only at hSw); go_simp; try (with_reducible rfl))))
          (try simp only [Act.put, List.setIfInBounds_toArray, List.set_cons_zero, List.set_cons_succ])
          (refine wpAnyT_take (i := 3) (oi := ?_) (v := ?_) ?_ (by as_aux_lemma => kernel_rfl) (by as_aux_lemma => kernel_rfl) (by as_aux_lemma => kernel_rfl) (by as_aux_lemma => kernel_rfl) ?_ (Or.inl ⟨?_, ?_⟩) HS.out ?_; rotate_left 2; (focus (simp only [List.getElem?_toArray, List.getElem?_cons_succ, List.getElem?_cons_zero] <;> rfl)); (focus exact (fun _ _ _ h => h)); (focus rfl); (focus (intro w hSw; (try dsimp only at hSw); go_simp; try (with_reducible rfl))))
          (try simp only [Act.put, List.setIfInBounds_toArray, List.set_cons_zero, List.set_cons_succ])
          (refine wpAnyT_take (i := 4) (oi := ?_) (v := ?_) ?_ (by as_aux_lemma => kernel_rfl) (by as_aux_lemma => kernel_rfl) (by as_aux_lemma => kernel_rfl) (by as_aux_lemma => kernel_rfl) ?_ (Or.inl ⟨?_, ?_⟩) HS.out ?_; rotate_left 2; (focus (simp only [List.getElem?_toArray, List.getElem?_cons_succ, List.getElem?_cons_zero] <;> rfl)); (focus exact (fun _ _ _ h => h)); (focus rfl); (focus (intro w hSw; (try dsimp only at hSw); go_simp; try (with_reducible rfl))))
          (try simp only [Act.put, List.setIfInBounds_toArray, List.set_cons_zero, List.set_cons_succ])
          (refine wpAnyT_take (i := 5) (oi := ?_) (v := ?_) ?_ (by as_aux_lemma => kernel_rfl) (by as_aux_lemma => kernel_rfl) (by as_aux_lemma => kernel_rfl) (by as_aux_lemma => kernel_rfl) ?_ (Or.inl ⟨?_, ?_⟩) HS.out ?_; rotate_left 2; (focus (simp only [List.getElem?_toArray, List.getElem?_cons_succ, List.getElem?_cons_zero] <;> rfl)); (focus exact (fun _ _ _ h => h)); (focus rfl); (focus (intro w hSw; (try dsimp only at hSw); go_simp; try (with_reducible rfl))))
          (try simp only [Act.put, List.setIfInBounds_toArray, List.set_cons_zero, List.set_cons_succ])
          (refine wpAnyT_take (i := 6) (oi := ?_) (v := ?_) ?_ (by as_aux_lemma => kernel_rfl) (by as_aux_lemma => kernel_rfl) (by as_aux_lemma => kernel_rfl) (by as_aux_lemma => kernel_rfl) ?_ (Or.inl ⟨?_, ?_⟩) HS.out ?_; rotate_left 2; (focus (simp only [List.getElem?_toArray, List.getElem?_cons_succ, List.getElem?_cons_zero] <;> rfl)); (focus exact (fun _ _ _ h => h)); (focus rfl); (focus (intro w hSw; (try dsimp only at hSw); go_simp; try (with_reducible rfl))))
          (try simp only [Act.put, List.setIfInBounds_toArray, List.set_cons_zero, List.set_cons_succ])
          (refine wpAnyT_take (i := 7) (oi := ?_) (v := ?_) ?_ (by as_aux_lemma => kernel_rfl) (by as_aux_lemma => kernel_rfl) (by as_aux_lemma => kernel_rfl) (by as_aux_lemma => kernel_rfl) ?_ (Or.inl ⟨?_, ?_⟩) HS.out ?_; rotate_left 2; (focus (simp only [List.getElem?_toArray, List.getElem?_cons_succ, List.getElem?_cons_zero] <;> rfl)); (focus exact (fun _ _ _ h => h)); (focus rfl); (focus (intro w hSw; (try dsimp only at hSw); go_simp; try (with_reducible rfl))))
          (try simp only [Act.put, List.setIfInBounds_toArray, List.set_cons_zero, List.set_cons_succ])
          (refine wpAnyT_take (i := 8) (oi := ?_) (v := ?_) ?_ (by as_aux_lemma => kernel_rfl) (by as_aux_lemma => kernel_rfl) (by as_aux_lemma => kernel_rfl) (by as_aux_lemma => kernel_rfl) ?_ (Or.inl ⟨?_, ?_⟩) HS.out ?_; rotate_left 2; (focus (simp only [List.getElem?_toArray, List.getElem?_cons_succ, List.getElem?_cons_zero] <;> rfl)); (focus exact (fun _ _ _ h => h)); (focus rfl); (focus (intro w hSw; (try dsimp only at hSw); go_simp; try (with_reducible rfl))))
          (try simp only [Act.put, List.setIfInBounds_toArray, List.set_cons_zero, List.set_cons_succ])
          (refine wpAnyT_take (i := 9) (oi := ?_) (v := ?_) ?_ (by as_aux_lemma => kernel_rfl) (by as_aux_lemma => kernel_rfl) (by as_aux_lemma => kernel_rfl) (by as_aux_lemma => kernel_rfl) ?_ (Or.inl ⟨?_, ?_⟩) HS.out ?_; rotate_left 2; (focus (simp only [List.getElem?_toArray, List.getElem?_cons_succ, List.getElem?_cons_zero] <;> rfl)); (focus exact (fun _ _ _ h => h)); (focus rfl); (focus (intro w hSw; (try dsimp only at hSw); go_simp; try (with_reducible rfl))))
          (try simp only [Act.put, List.setIfInBounds_toArray, List.set_cons_zero, List.set_cons_succ])
          (refine wpAnyT_take (i := 10) (oi := ?_) (v := ?_) ?_ (by as_aux_lemma => kernel_rfl) (by as_aux_lemma => kernel_rfl) (by as_aux_lemma => kernel_rfl) (by as_aux_lemma => kernel_rfl) ?_ (Or.inl ⟨?_, ?_⟩) HS.out ?_; rotate_left 2; (focus (simp only [List.getElem?_toArray, List.getElem?_cons_succ, List.getElem?_cons_zero] <;> rfl)); (focus exact (fun _ _ _ h => h)); (focus rfl); (focus (intro w hSw; (try dsimp only at hSw); go_simp; try (with_reducible rfl))))
          (try simp only [Act.put, List.setIfInBounds_toArray, List.set_cons_zero, List.set_cons_succ])
          (refine wpAnyT_late (i := 11) (oi := ?_) ?_ (by as_aux_lemma => kernel_rfl) (by as_aux_lemma => kernel_rfl) (fun K hK => ?_); rotate_left; (focus (simp only [List.getElem?_toArray, List.getElem?_cons_succ, List.getElem?_cons_zero] <;> rfl)))
          go_simp
          refine hK.out _ _ ?_
          clear hK K
          refine wpAnyT_done (by as_aux_lemma => kernel_rfl) ?_ _
          go_wp2_with fail
          go_ret2
          exact ⟨⟨.slice none 0 0, by rw [HORD.out trivial]; rfl, by rw [HORD.out trivial]; exact Rd.nil _ _⟩, HLD.out.old⟩
      · obtain rfl : k = n := by omega
        have HON := Lib.hid (once_of (fun j hj => hon j hj))
        have HLK := Lib.hid hly
        clear hon hly
        go_wp2_with fail
        go_loopw [54] (fun z wz => ∃ j : Nat, j ≤ k ∧ z = .int .i64 (j : Int) ∧ (∀ i, i < j → ∀ x ∈ needsOf (M i).imps, 0 ≤ atN M k x) ∧ LayAt w wz (w.heap.size + 2) w.heap.size (w.heap.size + 1) a k cap M k) (fun z _ => k - (intOf z).toNat)
        case atStart => exact ⟨0, by omega, rfl, fun j hj => absurd hj (by omega), HLK.out⟩
        case round =>
          obtain ⟨j, hj, rfl, hall, hly⟩ := hrel
          obtain ⟨wz, rfl⟩ : ∃ wz : World, wz = wr := ⟨_, rfl⟩
          by_cases hlt : j < k
          · have hpz := HP.out.below hly.old (Nat.le_refl _)
            obtain ⟨ab, ao, rfl, hc⟩ := hpz.cells (by omega)
            obtain ⟨iv, hr, d0, d1, d2, d3, d4, d5, d6, d7⟩ := hc j hlt
            have hsm := hpz.small j hlt
            obtain ⟨ia, ic, rfl, i1, i2, i3⟩ := rd_shape hr
            obtain ⟨L, hL⟩ : ∃ L, L = needsOf (M j).imps := ⟨_, rfl⟩
            obtain ⟨wm, hwm⟩ : ∃ wm : World, wm = wz.alloc (.cells #[.string (M j).name, .slice ia (M j).imps.length ic, .slice none 0 0, .slice none 0 0, .slice none 0 0, .slice none 0 0, .slice none 0 0, .slice none 0 0] 44) := ⟨_, rfl⟩
            have hbm : Below wz.heap.size wz wm := by rw [hwm]; exact (Below.refl _ _).alloc (Nat.le_refl _) _
            have hN : Calls Try.prog 11 #[.agg #[.string (M j).name, .slice ia (M j).imps.length ic, .slice none 0 0, .slice none 0 0, .slice none 0 0, .slice none 0 0, .slice none 0 0, .slice none 0 0]] wm (OwnRet wm.heap.size 9 1 L.length (strs L) wm) := by
              rw [hL]; exact needs_prog wm (M j).name _ (M j).imps hsm (hr.below hbm (Nat.le_refl _))
            rw [hwm] at hN
            have hLl : L.length ≤ 1000 := by rw [hL]; have := needsOf_le (M j).imps; omega
            have HN := Lib.hid hN
            have HL := Lib.hid hL
            have HALL := Lib.hid hall
            have HLM := Lib.hid (hly.below hbm (Nat.le_refl _))
            rw [hwm] at HLM
            have HINM := Lib.hid (HP.out.inames j hlt)
            clear hpz hc hr hN hL hall hly hbm hwm
            go_wp2_with fail
            refine HN.out.mono ?_
            rintro e w2 ⟨v, rfl, hrow, hb2⟩
            obtain ⟨va, vc, rfl, v1, v2, v3⟩ := owns_shape hrow
            unfold maxLen at v2
            have HL2 := Lib.hid (HLM.out.below hb2 (Nat.le_refl _))
            have HROW := Lib.hid hrow
            clear hrow hb2
            go_wp2_with fail
            go_loopw [61] (fun z wy => ∃ m : Nat, m ≤ L.length ∧ z = .int .i64 (m : Int) ∧ (∀ i, i < m → 0 ≤ atN M k (L.getD i ByteArray.empty)) ∧ wy = w2) (fun z _ => L.length - (intOf z).toNat)
            case atStart => exact ⟨0, by omega, rfl, fun j hj => absurd hj (by omega), rfl⟩
            case round =>
              obtain ⟨m, hm, rfl, hin, hwy⟩ := hrel
              obtain ⟨wy, rfl⟩ : ∃ wy : World, wy = wr := ⟨_, rfl⟩
              subst hwy
              by_cases hlm : m < L.length
              · obtain ⟨g, vc', hvv, hgb, hgs, _, _⟩ := owns_some HROW.out (by omega)
                cases hvv
                obtain ⟨x, hx⟩ : ∃ x, x = L.getD m ByteArray.empty := ⟨_, rfl⟩
                have hxm : x ∈ (M j).imps := by rw [hx]; have := mem_getD hlm; rw [HL.out] at this; rw [HL.out]; exact (List.mem_filter.1 this).1
                have dg : wy.cell? ⟨g, m, none⟩ = some (.string x) := by rw [HROW.out.cellAt m (by omega), strs_get _ _ hlm, hx]
                have c1 : wy.cell? ⟨w.heap.size + 1 + 1, 1, none⟩ = some (.map (some w.heap.size)) := by rw [cell_of_row wy _ 1 _ _ _ HL2.out.blk]; rfl
                obtain ⟨D, hown, hMK⟩ := HL2.out.map
                obtain ⟨u, ps, hrun, hv⟩ := hown.look_ok lawS Try.underlying51 (zeroI _) (plainElem_int Try.underlying3 (by decide)) (key_of x (HINM.out x hxm))
                rw [hMK.has] at hrun
                have HX := Lib.hid hx
                have HIN := Lib.hid hin
                clear hown hMK hv hx hin hxm
                by_cases h0 : 0 ≤ atN M k x
                · rw [decide_eq_true h0] at hrun
                  go_wp2_with fail
                  go_roundw
                  case rel => exact ⟨m + 1, by omega, by go_num, fun i hi => by
                    rcases Nat.lt_succ_iff_lt_or_eq.1 hi with h | h
                    · exact HIN.out i h
                    · rw [h, ← HX.out]; exact h0, trivial⟩
                  case measure => simp [intOf]; omega
                · rw [decide_eq_false h0] at hrun
                  have E := Lib.hid (show ordR M k = ([], 40) from by
                    unfold ordR
                    rw [if_neg hn, if_neg (fun h => h HON.out), if_pos (fun hA => h0 (hA j hlt x (by rw [← HL.out, HX.out]; exact mem_getD hlm)))])
                  go_wp2_with fail
                  go_ret2
                  exact ⟨⟨.slice none 0 0, by rw [E.out]; rfl, by rw [E.out]; exact Rd.nil _ _⟩, HL2.out.old⟩
              · obtain rfl : m = L.length := by omega
                have HALL2 := Lib.hid (show ∀ i, i < j + 1 → ∀ x ∈ needsOf (M i).imps, 0 ≤ atN M k x from fun i hi x hx => by
                  rcases Nat.lt_succ_iff_lt_or_eq.1 hi with h | h
                  · exact HALL.out i h x hx
                  · subst h
                    rw [← HL.out] at hx
                    obtain ⟨t, ht, rfl⟩ := List.getElem_of_mem hx
                    have := hin t ht
                    simpa [ht] using this)
                clear hin
                go_wp2_with fail
                go_roundw
                case rel => exact ⟨j + 1, by omega, by go_num, HALL2.out, HL2.out⟩
                case measure => simp [intOf]; omega
          · obtain rfl : j = k := by omega
            have HA := Lib.hid (show All M j from hall)
            have HPW := Lib.hid (hly.walk (by omega))
            clear hall hly
            have hO : ¬ ¬ Once M j := fun h => h HON.out
            have hA' : ¬ ¬ All M j := fun h => h HA.out
            have HO1 := Lib.hid (show ordR M j = if (visAll M j j 0 st0).1 = true then ((visAll M j j 0 st0).2.out, 0) else ([], 41) from by unfold ordR; rw [if_neg hn, if_neg hO, if_neg hA'])
            clear hO hA'
            go_wp2_with fail
            go_loopw [80] (fun z wy => ∃ (m : Nat) (s : St) (ov : Value), m ≤ j ∧ z = .int .i64 (m : Int) ∧ visAll M j j 0 st0 = visAll M j (j - m) m s ∧ PW w wy (w.heap.size + 1 + 1) w.heap.size (w.heap.size + 1) a j cap M ov s) (fun z _ => j - (intOf z).toNat)
            case atStart => exact ⟨0, st0, _, by omega, rfl, rfl, HPW.out⟩
            case round =>
              obtain ⟨m, s, ov, hm, rfl, hv, hW⟩ := hrel
              obtain ⟨wy, rfl⟩ : ∃ wy : World, wy = wr := ⟨_, rfl⟩
              by_cases hlm : m < j
              · have hV := visit_prog (by omega) HP.out HA.out j wy ov s m hW hlm (free_le _ _)
                have e1 : j - m = (j - (m + 1)) + 1 := by omega
                rw [e1, visAll] at hv
                have HV := Lib.hid hV
                have HVV := Lib.hid hv
                clear hV hv e1 hW
                go_wp2_with fail
                refine HV.out.mono ?_
                rintro e w4 ⟨ov4, he, hp4, hf4, hl4⟩
                cases hb : (vis M j j s m).1
                · rw [hb] at he
                  subst he
                  have hr : (visAll M j j 0 st0).1 = false := by rw [HVV.out, if_neg (by rw [hb]; simp)]
                  have E := Lib.hid (show ordR M j = ([], 41) from by rw [HO1.out, if_neg (by rw [hr]; simp)])
                  have HOLD := Lib.hid hp4.old
                  clear hr hp4 hf4 hl4 hb
                  go_wp2_with fail
                  go_ret2
                  exact ⟨⟨.slice none 0 0, by rw [E.out]; rfl, by rw [E.out]; exact Rd.nil _ _⟩, HOLD.out⟩
                · rw [hb] at he
                  subst he
                  have E := Lib.hid (show visAll M j j 0 st0 = visAll M j (j - (m + 1)) (m + 1) (vis M j j s m).2 from by rw [HVV.out, if_pos hb])
                  have HP4 := Lib.hid hp4
                  clear hp4 hf4 hl4 hb
                  go_wp2_with fail
                  go_roundw
                  case rel => exact ⟨m + 1, _, ov4, by omega, by go_num, E.out, HP4.out⟩
                  case measure => simp [intOf]; omega
              · obtain rfl : m = j := by omega
                rw [Nat.sub_self, visAll] at hv
                have E := Lib.hid (show ordR M m = (s.out, 0) from by rw [HO1.out, hv]; simp)
                have c2 : wy.cell? ⟨w.heap.size + 1 + 1, 3, none⟩ = some ov := by rw [cell_of_row wy _ 3 _ _ _ hW.blk]; rfl
                have HOLD := Lib.hid hW.old
                have HROW := Lib.hid (rd_of_owns hW.row)
                obtain ⟨oa, oc, rfl, o1, o2, o3⟩ := owns_shape hW.row
                clear hv hW
                go_wp2_with fail
                go_ret2
                exact ⟨⟨_, by rw [E.out]; rfl, by rw [E.out]; exact HROW.out⟩, HOLD.out⟩
end Go.Proofs.Ytelpnbjnjfajdaa
