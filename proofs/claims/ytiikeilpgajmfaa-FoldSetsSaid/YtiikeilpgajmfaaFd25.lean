/- Fold: the walk of FoldSets (printed by wip/scripts/gen_fd25.py from XFd25.src). -/
import Derived.Test.YtiikeilpgajmfaaFd24
namespace Go.Proofs.Ytiikeilpgajmfaa
open Go.RowKit Go.Waf
set_option maxRecDepth 100000
set_option linter.unusedVariables false
set_option linter.unusedSimpArgs false

theorem nArr_one (f v : Int) : (nArr f v).all (·.oneCell') = true := by unfold nArr; simp [Value.oneCell']
theorem cells8 {w : World} {p : Nat} {f v : Int} {t : TypeId} (h : w.heap[p]? = some (.cells (nArr f v) t (0, 0))) : w.cell? ⟨p, 0, none⟩ = some (.int .i64 0) ∧ w.cell? ⟨p, 1, none⟩ = some (.int .i64 f) ∧ w.cell? ⟨p, 2, none⟩ = some (.int .i64 0) ∧ w.cell? ⟨p, 3, none⟩ = some (.string ByteArray.empty) ∧ w.cell? ⟨p, 4, none⟩ = some (.slice none 0 0) ∧ w.cell? ⟨p, 5, none⟩ = some (.int .i32 v) ∧ w.cell? ⟨p, 6, none⟩ = some (.string ByteArray.empty) ∧ w.cell? ⟨p, 7, none⟩ = some (.slice none 0 0) ∧ p < w.heap.size :=
  have g := fun j => cell_of_row w p j _ _ _ h
  ⟨g 0, g 1, g 2, g 3, g 4, g 5, g 6, g 7, (Array.getElem?_eq_some_iff.1 h).1⟩
theorem cells8s {w : World} {p : Nat} {v : Value} {t : TypeId} (h : w.heap[p]? = some (.cells (setArr v) t (0, 0))) : w.cell? ⟨p, 0, none⟩ = some (.int .i64 24) ∧ w.cell? ⟨p, 1, none⟩ = some (.int .i64 4) ∧ w.cell? ⟨p, 2, none⟩ = some (.int .i64 0) ∧ w.cell? ⟨p, 3, none⟩ = some (.string ByteArray.empty) ∧ w.cell? ⟨p, 4, none⟩ = some (.slice none 0 0) ∧ w.cell? ⟨p, 5, none⟩ = some (.int .i32 0) ∧ w.cell? ⟨p, 6, none⟩ = some (.string ByteArray.empty) ∧ w.cell? ⟨p, 7, none⟩ = some v ∧ p < w.heap.size :=
  have g := fun j => cell_of_row w p j _ _ _ h
  ⟨g 0, g 1, g 2, g 3, g 4, g 5, g 6, g 7, (Array.getElem?_eq_some_iff.1 h).1⟩
theorem zero31 : -2147483648 ≤ (0 : Int) ∧ (0 : Int) ≤ 2147483647 := by decide
theorem and31 (x : Int) : -2147483648 ≤ bits .and .i32 x 31 ∧ bits .and .i32 x 31 ≤ 2147483647 := by rw [mask31_i32]; omega
theorem keepBlk {wx w2 w3 : World} {g eb : Nat} {o : Obj} {ev v3 : Value} (h : wx.heap[g]? = some o) (hb : Below wx.heap.size wx w2) (hg : w2.grownBy w3 ev.ownBlock) (h1 : ev.ownBlock ≠ some g) (h2 : g ≠ eb) : (w3.setCell ⟨eb, 7, none⟩ v3).heap[g]? = some o := by
  rw [Below.heap_setCell _ _ _ _ (by exact h2)]
  refine blk_grown ?_ hg h1
  rw [hb.block g (Array.getElem?_eq_some_iff.1 h).1]; exact h
theorem rd_newAt {b : Nat} (w : World) (hb : b = w.heap.size) (cs : List Value) (t : TypeId) (n size : Nat) (hl : cs.length = n * size) (hm : n ≤ maxLen) : Rd (w.alloc (.cells cs.toArray t)) size (.slice (some ⟨b, 0, none⟩) n n) n cs := by
  subst hb; exact rd_new w cs t n size hl hm
set_option maxHeartbeats 6400000 in
theorem foldSets_walk (w : World) (a0 a1 : Option Addr) (n0 c0 n1 c1 : Nat) (ls : List Int) (sp : List Bool) (hr0 : Rd w 1 (.slice a0 n0 c0) n0 (ls.map (Value.int .i32))) (hr1 : Rd w 1 (.slice a1 n1 c1) n1 (bls sp)) (hln : ls.length = n0) (hw : ∀ z ∈ ls, -2147483648 ≤ z ∧ z ≤ 2147483647) (hb0 : n0 ≤ c0) (hc0 : c0 ≤ 9223372036854775807) (hb1 : n1 ≤ c1) (hc1 : c1 ≤ 9223372036854775807) :
    Calls Try.prog 5 #[.slice a0 n0 c0, .slice a1 n1 c1] w fun e w' => e = .returned (.bool true) ∧ Below w.heap.size w w' := by
  have HR0 := Lib.hid hr0
  have HR1 := Lib.hid hr1
  have HLN := Lib.hid hln
  have HWF := Lib.hid hw
  clear hr0 hr1 hln hw
  by_cases hl : 20 < n0
  · go_enter Try.func5, Try.ntmps5
    go_wp2_with fail
    refine (known_prog w).mono ?_
    rintro en wk ⟨rfl, hbk⟩
    have HBK := Lib.hid hbk
    clear hbk
    go_wp2_with fail
    go_ret
    exact ⟨rfl, HBK.out⟩
  · by_cases hs : n1 < n0
    · go_enter Try.func5, Try.ntmps5
      go_wp2_with fail
      refine (known_prog w).mono ?_
      rintro en wk ⟨rfl, hbk⟩
      have HBK := Lib.hid hbk
      clear hbk
      go_wp2_with fail
      go_ret
      exact ⟨rfl, HBK.out⟩
    · go_enter Try.func5, Try.ntmps5
      go_wp2_with fail
      refine (known_prog w).mono ?_
      rintro en wk ⟨rfl, hbk⟩
      have HBK := Lib.hid hbk
      clear hbk
      go_wp2_with fail
      refine (basic_ref wk 4).mono ?_
      rintro en w1 ⟨he, hb1⟩
      obtain rfl : en = .returned (.agg #[.int .i64 4, .int .i64 0, .string ByteArray.empty, .slice none 0 0]) := he
      have HB1 := Lib.hid (HBK.out.trans (hb1.mono HBK.out.size))
      clear hb1
      go_wp2_with fail
      obtain ⟨w2, hw2⟩ : ∃ w2 : World, w2 = (w1.alloc (.cells (setArr (.slice none 0 0)) 27)).alloc (.cells (setArr (.slice none 0 0)) 27) := ⟨_, rfl⟩
      change Code.wp _ _ _ _ ((w1.alloc (.cells (setArr (.slice none 0 0)) 27)).alloc (.cells (setArr (.slice none 0 0)) 27))
      rw [← hw2]
      have hs1 := HB1.out.size
      have he1 : ERow w w2 w1.heap.size (.slice none 0 0) [] := ⟨by rw [hw2]; exact heap_alloc2_old w1 _ _, World.ownsRow_nil _ _ _ _, hs1, by simp [Value.ownBlock], fun d hd => by cases hd⟩
      have he2 : ERow w w2 (w1.heap.size + 1) (.slice none 0 0) [] := ⟨by rw [hw2]; exact heap_alloc2_new w1 _ _, World.ownsRow_nil _ _ _ _, by omega, by simp [Value.ownBlock], fun d hd => by cases hd⟩
      have HT := Lib.hid (show Two w w2 w1.heap.size (w1.heap.size + 1) (.slice none 0 0) (.slice none 0 0) [] [] from ⟨he1, he2, by simp [Value.ownBlock], by simp [Value.ownBlock], by simp [Value.ownBlock], by omega, by simp, by simp, by rw [hw2]; exact (HB1.out.alloc hs1 _).alloc (by simp; omega) _⟩)
      clear he1 he2 hw2
      go_loopw [7] (fun z wr => ∃ (i : Nat) (ev rv : Value) (l m : List El), i ≤ n0 + 1 ∧ z = .int .i64 (i : Int) ∧ l.length ≤ i ∧ m.length ≤ i ∧ Two w wr w1.heap.size (w1.heap.size + 1) ev rv l m) (fun z _ => n0 + 1 - (intOf z).toNat)
      case atStart => exact ⟨0, _, _, [], [], by omega, rfl, by simp, by simp, HT.out⟩
      case round =>
        obtain ⟨i, ev, rv, l, m, hi, rfl, hll, hml, hT⟩ := hrel
        obtain ⟨wo, rfl⟩ : ∃ wo : World, wo = wr := ⟨_, rfl⟩
        clear HT
        by_cases hlt : i + 1 < n0
        · obtain ⟨_, _, _, hx0, _, _, _, hx4⟩ := HR0.out
          cases hx0
          obtain ⟨lb, lo, rfl, hcl⟩ := hx4 (by omega)
          obtain ⟨A, hA⟩ : ∃ A, A = ls.getD i 0 := ⟨_, rfl⟩
          obtain ⟨B, hB⟩ : ∃ B, B = ls.getD (i + 1) 0 := ⟨_, rfl⟩
          have hln := HLN.out
          have hb := hT.old
          have cA : wo.cell? ⟨lb, lo + i, none⟩ = some (.int .i32 A) := cell_below hb (Nat.le_refl _) (hcl i _ (by rw [hA]; simp [show i < ls.length from by omega]))
          have cB : wo.cell? ⟨lb, lo + (i + 1), none⟩ = some (.int .i32 B) := cell_below hb (Nat.le_refl _) (hcl (i + 1) _ (by rw [hB]; simp [show i + 1 < ls.length from by omega]))
          have HAR := Lib.hid (show -2147483648 ≤ A ∧ A ≤ 2147483647 from HWF.out A (by rw [hA]; simp [show i < ls.length from by omega]))
          have HBR := Lib.hid (show -2147483648 ≤ B ∧ B ≤ 2147483647 from HWF.out B (by rw [hB]; simp [show i + 1 < ls.length from by omega]))
          have hi1 : (i : Int) + 1 < (n0 : Int) := by omega
          have HCS := Lib.hid (show ∀ V : World, Below wo.heap.size wo V → V.cell? ⟨lb, lo + i, none⟩ = some (.int .i32 A) ∧ V.cell? ⟨lb, lo + (i + 1), none⟩ = some (.int .i32 B) from fun V hv => ⟨cell_below hv (Nat.le_refl _) cA, cell_below hv (Nat.le_refl _) cB⟩)
          have HT := Lib.hid hT
          clear hcl hA hB hln hx4 hT hb cA cB
          go_upto_region 10 with fail
          go_cut [8, 9] from 27 to 98 (fun x y wx => ∃ p r : Nat, x = .pointer (some ⟨p, 0, none⟩) ∧ y = .pointer (some ⟨r, 0, none⟩) ∧ wo.heap.size ≤ p ∧ wo.heap.size ≤ r ∧ p ≠ r ∧ wx.heap[p]? = some (.cells (nArr 1 (bits .and .i32 A 31)) 27 (0, 0)) ∧ wx.heap[r]? = some (.cells (nArr 1 (bits .and .i32 B 31)) 27 (0, 0)) ∧ Below wo.heap.size wo wx)
          case first =>
            have hz0 : (0 : Int) ≤ (i : Int) := by omega
            have hz1 : (0 : Int) ≤ (i : Int) + 1 := by omega
            have hz2 : (i : Int) < (n0 : Int) := by omega
            have hz3 : IntKind.i64.wrap ((i : Int) + 1) = (i : Int) + 1 := IntWalk.i64_in _ (by omega)
            have hz4 : ((i : Int) + 1).toNat = i + 1 := by omega
            refine wp_region_held_drew (S := fun W => W.cell? ⟨lb, lo + i, none⟩ = some (.int .i32 A) ∧ W.cell? ⟨lb, lo + (i + 1), none⟩ = some (.int .i32 B)) (by kernel_rfl) (HCS.out _ (Below.drew (Below.refl _ wo))) (fun hHeld => ?_)
            (refine wpAnyH_take (i := 0) (oi := ?_) (v := ?_) ?_ (by kernel_rfl) (by kernel_rfl) (by kernel_rfl) ?_ (Or.inl ⟨?_, ?_⟩) hHeld ?_; rotate_left 2; (focus (simp only [List.getElem?_toArray, List.getElem?_cons_succ, List.getElem?_cons_zero] <;> rfl)); (focus exact (fun _ _ _ h => h)); (focus rfl); (focus (intro w hSw; (try dsimp only at hSw); obtain ⟨hS1, hS2⟩ := hSw; go_simp; try (with_reducible rfl))))
            (try simp only [Act.put, List.setIfInBounds_toArray, List.set_cons_zero, List.set_cons_succ])
            (refine wpAnyH_take (i := 1) (oi := ?_) (v := ?_) ?_ (by kernel_rfl) (by kernel_rfl) (by kernel_rfl) ?_ (Or.inl ⟨?_, ?_⟩) hHeld ?_; rotate_left 2; (focus (simp only [List.getElem?_toArray, List.getElem?_cons_succ, List.getElem?_cons_zero] <;> rfl)); (focus exact (fun _ _ _ h => h)); (focus rfl); (focus (intro w hSw; (try dsimp only at hSw); obtain ⟨hS1, hS2⟩ := hSw; go_simp; try (with_reducible rfl))))
            (try simp only [Act.put, List.setIfInBounds_toArray, List.set_cons_zero, List.set_cons_succ])
            (refine wpAnyH_take (i := 2) (oi := ?_) (v := ?_) ?_ (by kernel_rfl) (by kernel_rfl) (by kernel_rfl) ?_ (Or.inl ⟨?_, ?_⟩) hHeld ?_; rotate_left 2; (focus (simp only [List.getElem?_toArray, List.getElem?_cons_succ, List.getElem?_cons_zero] <;> rfl)); (focus exact (fun _ _ _ h => h)); (focus rfl); (focus (intro w hSw; (try dsimp only at hSw); obtain ⟨hS1, hS2⟩ := hSw; go_simp; try (with_reducible rfl))))
            (try simp only [Act.put, List.setIfInBounds_toArray, List.set_cons_zero, List.set_cons_succ])
            (refine wpAnyH_take (i := 3) (oi := ?_) (v := ?_) ?_ (by kernel_rfl) (by kernel_rfl) (by kernel_rfl) ?_ (Or.inl ⟨?_, ?_⟩) hHeld ?_; rotate_left 2; (focus (simp only [List.getElem?_toArray, List.getElem?_cons_succ, List.getElem?_cons_zero] <;> rfl)); (focus exact (fun _ _ _ h => h)); (focus rfl); (focus (intro w hSw; (try dsimp only at hSw); obtain ⟨hS1, hS2⟩ := hSw; go_simp; try (with_reducible rfl))))
            (try simp only [Act.put, List.setIfInBounds_toArray, List.set_cons_zero, List.set_cons_succ])
            (refine wpAnyH_take (i := 4) (oi := ?_) (v := ?_) ?_ (by kernel_rfl) (by kernel_rfl) (by kernel_rfl) ?_ (Or.inl ⟨?_, ?_⟩) hHeld ?_; rotate_left 2; (focus (simp only [List.getElem?_toArray, List.getElem?_cons_succ, List.getElem?_cons_zero] <;> rfl)); (focus exact (fun _ _ _ h => h)); (focus rfl); (focus (intro w hSw; (try dsimp only at hSw); obtain ⟨hS1, hS2⟩ := hSw; go_simp; try (with_reducible rfl))))
            (try simp only [Act.put, List.setIfInBounds_toArray, List.set_cons_zero, List.set_cons_succ])
            (refine wpAnyH_take (i := 6) (oi := ?_) (v := ?_) ?_ (by kernel_rfl) (by kernel_rfl) (by kernel_rfl) ?_ (Or.inl ⟨?_, ?_⟩) hHeld ?_; rotate_left 2; (focus (simp only [List.getElem?_toArray, List.getElem?_cons_succ, List.getElem?_cons_zero] <;> rfl)); (focus exact (fun _ _ _ h => h)); (focus rfl); (focus (intro w hSw; (try dsimp only at hSw); obtain ⟨hS1, hS2⟩ := hSw; go_simp; try (with_reducible rfl))))
            (try simp only [Act.put, List.setIfInBounds_toArray, List.set_cons_zero, List.set_cons_succ])
            (refine wpAnyH_take (i := 7) (oi := ?_) (v := ?_) ?_ (by kernel_rfl) (by kernel_rfl) (by kernel_rfl) ?_ (Or.inl ⟨?_, ?_⟩) hHeld ?_; rotate_left 2; (focus (simp only [List.getElem?_toArray, List.getElem?_cons_succ, List.getElem?_cons_zero] <;> rfl)); (focus exact (fun _ _ _ h => h)); (focus rfl); (focus (intro w hSw; (try dsimp only at hSw); obtain ⟨hS1, hS2⟩ := hSw; go_simp; try (with_reducible rfl))))
            (try simp only [Act.put, List.setIfInBounds_toArray, List.set_cons_zero, List.set_cons_succ])
            (refine wpAnyH_take (i := 8) (oi := ?_) (v := ?_) ?_ (by kernel_rfl) (by kernel_rfl) (by kernel_rfl) ?_ (Or.inl ⟨?_, ?_⟩) hHeld ?_; rotate_left 2; (focus (simp only [List.getElem?_toArray, List.getElem?_cons_succ, List.getElem?_cons_zero] <;> rfl)); (focus exact (fun _ _ _ h => h)); (focus rfl); (focus (intro w hSw; (try dsimp only at hSw); obtain ⟨hS1, hS2⟩ := hSw; go_simp; try (with_reducible rfl))))
            (try simp only [Act.put, List.setIfInBounds_toArray, List.set_cons_zero, List.set_cons_succ])
            (refine wpAnyH_take (i := 9) (oi := ?_) (v := ?_) ?_ (by kernel_rfl) (by kernel_rfl) (by kernel_rfl) ?_ (Or.inl ⟨?_, ?_⟩) hHeld ?_; rotate_left 2; (focus (simp only [List.getElem?_toArray, List.getElem?_cons_succ, List.getElem?_cons_zero] <;> rfl)); (focus exact (fun _ _ _ h => h)); (focus rfl); (focus (intro w hSw; (try dsimp only at hSw); obtain ⟨hS1, hS2⟩ := hSw; go_simp; try (with_reducible rfl))))
            (try simp only [Act.put, List.setIfInBounds_toArray, List.set_cons_zero, List.set_cons_succ])
            (refine wpAnyH_take (i := 10) (oi := ?_) (v := ?_) ?_ (by kernel_rfl) (by kernel_rfl) (by kernel_rfl) ?_ (Or.inl ⟨?_, ?_⟩) hHeld ?_; rotate_left 2; (focus (simp only [List.getElem?_toArray, List.getElem?_cons_succ, List.getElem?_cons_zero] <;> rfl)); (focus exact (fun _ _ _ h => h)); (focus rfl); (focus (intro w hSw; (try dsimp only at hSw); obtain ⟨hS1, hS2⟩ := hSw; go_simp; try (with_reducible rfl))))
            (try simp only [Act.put, List.setIfInBounds_toArray, List.set_cons_zero, List.set_cons_succ])
            (refine wpAnyH_take (i := 11) (oi := ?_) (v := ?_) ?_ (by kernel_rfl) (by kernel_rfl) (by kernel_rfl) ?_ (Or.inl ⟨?_, ?_⟩) hHeld ?_; rotate_left 2; (focus (simp only [List.getElem?_toArray, List.getElem?_cons_succ, List.getElem?_cons_zero] <;> rfl)); (focus exact (fun _ _ _ h => h)); (focus rfl); (focus (intro w hSw; (try dsimp only at hSw); obtain ⟨hS1, hS2⟩ := hSw; go_simp; try (with_reducible rfl))))
            (try simp only [Act.put, List.setIfInBounds_toArray, List.set_cons_zero, List.set_cons_succ])
            refine drawn_from 39 46 8 9 5 12 13 14 15 16 (wo := wo) (z := exZ) (T := 27) (r1 := nArr 1 (bits .and .i32 A 31)) (r2 := nArr 1 (bits .and .i32 B 31)) (.agg (nArr 1 (bits .and .i32 A 31))) (.agg (nArr 1 (bits .and .i32 B 31))) (fun b1 b2 e1 e2 => #[true, true, true, true, true, b1, true, true, true, true, true, true, b2, e1, e2, false, false]) ?_ ?_ ?_ ?_ ?_ ?_ ?_ ?_ ?_ ?_ ?_ ?_ ?_ ?_ ?_ ?_ ?_
            · exact HCS.out
            · intros; rfl
            · intros; rfl
            · intros; rfl
            · intros; rfl
            · kernel_rfl
            · kernel_rfl
            · kernel_rfl
            · intro x1 x2 y1 y2 W K hK
              refine wpOp_step (o := ?_) ?_ (fun K' hK' => ?_)
              rotate_left
              focus (simp only [List.getElem?_toArray, List.getElem?_cons_succ, List.getElem?_cons_zero] <;> rfl)
              simp only [fill4, Act.put, List.setIfInBounds_toArray, List.set_cons_zero, List.set_cons_succ] at hK ⊢
              go_simp
              go_at_call 9
              refine (num_whole _ _ _).mono ?_
              rintro e wa ⟨rfl, rfl⟩
              try go_simp
              exact hK' _ _ (hK _ (belAl (belAl (Below.refl _ _) _) _))
            · intro x1 x2 y1 y2 W K hK
              refine wpOp_step (o := ?_) ?_ (fun K' hK' => ?_)
              rotate_left
              focus (simp only [List.getElem?_toArray, List.getElem?_cons_succ, List.getElem?_cons_zero] <;> rfl)
              simp only [fill4, Act.put, List.setIfInBounds_toArray, List.set_cons_zero, List.set_cons_succ] at hK ⊢
              go_simp
              go_at_call 9
              refine (num_whole _ _ _).mono ?_
              rintro e wa ⟨rfl, rfl⟩
              try go_simp
              exact hK' _ _ (hK _ (belAl (belAl (Below.refl _ _) _) _))
            · intro x1 x2 y1 y2 W K hK
              refine wpOp_step (o := ?_) ?_ (fun K' hK' => ?_)
              rotate_left
              focus (simp only [List.getElem?_toArray, List.getElem?_cons_succ, List.getElem?_cons_zero] <;> rfl)
              simp only [fill4, Act.put, List.setIfInBounds_toArray, List.set_cons_zero, List.set_cons_succ] at hK ⊢
              go_simp
              exact hK' _ _ hK
            · intro x1 x2 y1 y2 W K hK
              refine wpOp_step (o := ?_) ?_ (fun K' hK' => ?_)
              rotate_left
              focus (simp only [List.getElem?_toArray, List.getElem?_cons_succ, List.getElem?_cons_zero] <;> rfl)
              simp only [fill4, Act.put, List.setIfInBounds_toArray, List.set_cons_zero, List.set_cons_succ] at hK ⊢
              go_simp
              exact hK' _ _ hK
            · intro p r W K hp hK
              refine wpOp_step (o := ?_) ?_ (fun K' hK' => ?_)
              rotate_left
              focus (simp only [List.getElem?_toArray, List.getElem?_cons_succ, List.getElem?_cons_zero] <;> rfl)
              simp only [fill4, Act.put, List.setIfInBounds_toArray, List.set_cons_zero, List.set_cons_succ] at hK ⊢
              rw [if_pos (by rfl)]
              refine wp_store_row 27 _ _ rfl p (nArr 1 (bits .and .i32 A 31)) rfl rfl 27 exZ hp (by kernel_rfl) rfl (nArr_one _ _) ?_
              exact hK' _ _ hK
            · intro p r W K hp hK
              refine wpOp_step (o := ?_) ?_ (fun K' hK' => ?_)
              rotate_left
              focus (simp only [List.getElem?_toArray, List.getElem?_cons_succ, List.getElem?_cons_zero] <;> rfl)
              simp only [fill4, Act.put, List.setIfInBounds_toArray, List.set_cons_zero, List.set_cons_succ] at hK ⊢
              rw [if_pos (by rfl)]
              refine wp_store_row 27 _ _ rfl r (nArr 1 (bits .and .i32 B 31)) rfl rfl 27 exZ hp (by kernel_rfl) rfl (nArr_one _ _) ?_
              exact hK' _ _ hK
            · intro p r W hp hr hpr hP hR hb
              simp only [fill4, Act.put, List.setIfInBounds_toArray, List.set_cons_zero, List.set_cons_succ]
              go_wp2_with fail
              go_meet
              case rel => exact ⟨p, r, rfl, rfl, hp, hr, hpr, (setRow_other _ r p _ hpr).trans (setRow_same _ hP), setRow_same _ ((setRow_other _ p r _ (fun e => hpr e.symm)).trans hR), below_setRow (below_setRow hb hp _) hr _⟩
            · rfl
            · exact Below.drew (Below.refl _ wo)
          case rest =>
            obtain ⟨p, r, rfl, rfl, hp, hr, hpr, hP, hR, hb1⟩ := hcut
            obtain ⟨wp, rfl⟩ : ∃ wp : World, wp = wc := ⟨_, rfl⟩
            have HP := Lib.hid hP
            have HR := Lib.hid hR
            have HB1 := Lib.hid hb1
            have HCP := Lib.hid (show ∀ V : World, Below wp.heap.size wp V → V.cell? ⟨lb, lo + i, none⟩ = some (.int .i32 A) ∧ V.cell? ⟨lb, lo + (i + 1), none⟩ = some (.int .i32 B) from fun V hv => HCS.out V (HB1.out.trans (hv.mono HB1.out.size)))
            clear hP hR hb1
            go_upto_region 11 with fail
            go_cut [10, 11] from 27 to 98 (fun x y wx => ∃ q s : Nat, x = .pointer (some ⟨q, 0, none⟩) ∧ y = .pointer (some ⟨s, 0, none⟩) ∧ wp.heap.size ≤ q ∧ wp.heap.size ≤ s ∧ q ≠ s ∧ wx.heap[q]? = some (.cells (nArr 1 A) 27 (0, 0)) ∧ wx.heap[s]? = some (.cells (nArr 1 B) 27 (0, 0)) ∧ Below wp.heap.size wp wx)
            case first =>
                have hz0 : (0 : Int) ≤ (i : Int) := by omega
                have hz1 : (0 : Int) ≤ (i : Int) + 1 := by omega
                have hz2 : (i : Int) < (n0 : Int) := by omega
                have hz3 : IntKind.i64.wrap ((i : Int) + 1) = (i : Int) + 1 := IntWalk.i64_in _ (by omega)
                have hz4 : ((i : Int) + 1).toNat = i + 1 := by omega
                refine wp_region_held_drew (S := fun W => W.cell? ⟨lb, lo + i, none⟩ = some (.int .i32 A) ∧ W.cell? ⟨lb, lo + (i + 1), none⟩ = some (.int .i32 B)) (by kernel_rfl) (HCP.out _ (Below.drew (Below.refl _ wp))) (fun hHeld => ?_)
                (refine wpAnyH_take (i := 0) (oi := ?_) (v := ?_) ?_ (by kernel_rfl) (by kernel_rfl) (by kernel_rfl) ?_ (Or.inl ⟨?_, ?_⟩) hHeld ?_; rotate_left 2; (focus (simp only [List.getElem?_toArray, List.getElem?_cons_succ, List.getElem?_cons_zero] <;> rfl)); (focus exact (fun _ _ _ h => h)); (focus rfl); (focus (intro w hSw; (try dsimp only at hSw); obtain ⟨hS1, hS2⟩ := hSw; go_simp; try (with_reducible rfl))))
                (try simp only [Act.put, List.setIfInBounds_toArray, List.set_cons_zero, List.set_cons_succ])
                (refine wpAnyH_take (i := 1) (oi := ?_) (v := ?_) ?_ (by kernel_rfl) (by kernel_rfl) (by kernel_rfl) ?_ (Or.inl ⟨?_, ?_⟩) hHeld ?_; rotate_left 2; (focus (simp only [List.getElem?_toArray, List.getElem?_cons_succ, List.getElem?_cons_zero] <;> rfl)); (focus exact (fun _ _ _ h => h)); (focus rfl); (focus (intro w hSw; (try dsimp only at hSw); obtain ⟨hS1, hS2⟩ := hSw; go_simp; try (with_reducible rfl))))
                (try simp only [Act.put, List.setIfInBounds_toArray, List.set_cons_zero, List.set_cons_succ])
                (refine wpAnyH_take (i := 2) (oi := ?_) (v := ?_) ?_ (by kernel_rfl) (by kernel_rfl) (by kernel_rfl) ?_ (Or.inl ⟨?_, ?_⟩) hHeld ?_; rotate_left 2; (focus (simp only [List.getElem?_toArray, List.getElem?_cons_succ, List.getElem?_cons_zero] <;> rfl)); (focus exact (fun _ _ _ h => h)); (focus rfl); (focus (intro w hSw; (try dsimp only at hSw); obtain ⟨hS1, hS2⟩ := hSw; go_simp; try (with_reducible rfl))))
                (try simp only [Act.put, List.setIfInBounds_toArray, List.set_cons_zero, List.set_cons_succ])
                (refine wpAnyH_take (i := 3) (oi := ?_) (v := ?_) ?_ (by kernel_rfl) (by kernel_rfl) (by kernel_rfl) ?_ (Or.inl ⟨?_, ?_⟩) hHeld ?_; rotate_left 2; (focus (simp only [List.getElem?_toArray, List.getElem?_cons_succ, List.getElem?_cons_zero] <;> rfl)); (focus exact (fun _ _ _ h => h)); (focus rfl); (focus (intro w hSw; (try dsimp only at hSw); obtain ⟨hS1, hS2⟩ := hSw; go_simp; try (with_reducible rfl))))
                (try simp only [Act.put, List.setIfInBounds_toArray, List.set_cons_zero, List.set_cons_succ])
                (refine wpAnyH_take (i := 5) (oi := ?_) (v := ?_) ?_ (by kernel_rfl) (by kernel_rfl) (by kernel_rfl) ?_ (Or.inl ⟨?_, ?_⟩) hHeld ?_; rotate_left 2; (focus (simp only [List.getElem?_toArray, List.getElem?_cons_succ, List.getElem?_cons_zero] <;> rfl)); (focus exact (fun _ _ _ h => h)); (focus rfl); (focus (intro w hSw; (try dsimp only at hSw); obtain ⟨hS1, hS2⟩ := hSw; go_simp; try (with_reducible rfl))))
                (try simp only [Act.put, List.setIfInBounds_toArray, List.set_cons_zero, List.set_cons_succ])
                (refine wpAnyH_take (i := 6) (oi := ?_) (v := ?_) ?_ (by kernel_rfl) (by kernel_rfl) (by kernel_rfl) ?_ (Or.inl ⟨?_, ?_⟩) hHeld ?_; rotate_left 2; (focus (simp only [List.getElem?_toArray, List.getElem?_cons_succ, List.getElem?_cons_zero] <;> rfl)); (focus exact (fun _ _ _ h => h)); (focus rfl); (focus (intro w hSw; (try dsimp only at hSw); obtain ⟨hS1, hS2⟩ := hSw; go_simp; try (with_reducible rfl))))
                (try simp only [Act.put, List.setIfInBounds_toArray, List.set_cons_zero, List.set_cons_succ])
                (refine wpAnyH_take (i := 7) (oi := ?_) (v := ?_) ?_ (by kernel_rfl) (by kernel_rfl) (by kernel_rfl) ?_ (Or.inl ⟨?_, ?_⟩) hHeld ?_; rotate_left 2; (focus (simp only [List.getElem?_toArray, List.getElem?_cons_succ, List.getElem?_cons_zero] <;> rfl)); (focus exact (fun _ _ _ h => h)); (focus rfl); (focus (intro w hSw; (try dsimp only at hSw); obtain ⟨hS1, hS2⟩ := hSw; go_simp; try (with_reducible rfl))))
                (try simp only [Act.put, List.setIfInBounds_toArray, List.set_cons_zero, List.set_cons_succ])
                (refine wpAnyH_take (i := 8) (oi := ?_) (v := ?_) ?_ (by kernel_rfl) (by kernel_rfl) (by kernel_rfl) ?_ (Or.inl ⟨?_, ?_⟩) hHeld ?_; rotate_left 2; (focus (simp only [List.getElem?_toArray, List.getElem?_cons_succ, List.getElem?_cons_zero] <;> rfl)); (focus exact (fun _ _ _ h => h)); (focus rfl); (focus (intro w hSw; (try dsimp only at hSw); obtain ⟨hS1, hS2⟩ := hSw; go_simp; try (with_reducible rfl))))
                (try simp only [Act.put, List.setIfInBounds_toArray, List.set_cons_zero, List.set_cons_succ])
                (refine wpAnyH_take (i := 9) (oi := ?_) (v := ?_) ?_ (by kernel_rfl) (by kernel_rfl) (by kernel_rfl) ?_ (Or.inl ⟨?_, ?_⟩) hHeld ?_; rotate_left 2; (focus (simp only [List.getElem?_toArray, List.getElem?_cons_succ, List.getElem?_cons_zero] <;> rfl)); (focus exact (fun _ _ _ h => h)); (focus rfl); (focus (intro w hSw; (try dsimp only at hSw); obtain ⟨hS1, hS2⟩ := hSw; go_simp; try (with_reducible rfl))))
                (try simp only [Act.put, List.setIfInBounds_toArray, List.set_cons_zero, List.set_cons_succ])
                refine drawn_from 51 57 10 11 4 10 11 12 13 14 (wo := wp) (z := exZ) (T := 27) (r1 := nArr 1 (A)) (r2 := nArr 1 (B)) (.agg (nArr 1 (A))) (.agg (nArr 1 (B))) (fun b1 b2 e1 e2 => #[true, true, true, true, b1, true, true, true, true, true, b2, e1, e2, false, false]) ?_ ?_ ?_ ?_ ?_ ?_ ?_ ?_ ?_ ?_ ?_ ?_ ?_ ?_ ?_ ?_ ?_
                · exact HCP.out
                · intros; rfl
                · intros; rfl
                · intros; rfl
                · intros; rfl
                · kernel_rfl
                · kernel_rfl
                · kernel_rfl
                · intro x1 x2 y1 y2 W K hK
                  refine wpOp_step (o := ?_) ?_ (fun K' hK' => ?_)
                  rotate_left
                  focus (simp only [List.getElem?_toArray, List.getElem?_cons_succ, List.getElem?_cons_zero] <;> rfl)
                  simp only [fill4, Act.put, List.setIfInBounds_toArray, List.set_cons_zero, List.set_cons_succ] at hK ⊢
                  go_simp
                  go_at_call 9
                  refine (num_whole _ _ _).mono ?_
                  rintro e wa ⟨rfl, rfl⟩
                  try go_simp
                  exact hK' _ _ (hK _ (belAl (belAl (Below.refl _ _) _) _))
                · intro x1 x2 y1 y2 W K hK
                  refine wpOp_step (o := ?_) ?_ (fun K' hK' => ?_)
                  rotate_left
                  focus (simp only [List.getElem?_toArray, List.getElem?_cons_succ, List.getElem?_cons_zero] <;> rfl)
                  simp only [fill4, Act.put, List.setIfInBounds_toArray, List.set_cons_zero, List.set_cons_succ] at hK ⊢
                  go_simp
                  go_at_call 9
                  refine (num_whole _ _ _).mono ?_
                  rintro e wa ⟨rfl, rfl⟩
                  try go_simp
                  exact hK' _ _ (hK _ (belAl (belAl (Below.refl _ _) _) _))
                · intro x1 x2 y1 y2 W K hK
                  refine wpOp_step (o := ?_) ?_ (fun K' hK' => ?_)
                  rotate_left
                  focus (simp only [List.getElem?_toArray, List.getElem?_cons_succ, List.getElem?_cons_zero] <;> rfl)
                  simp only [fill4, Act.put, List.setIfInBounds_toArray, List.set_cons_zero, List.set_cons_succ] at hK ⊢
                  go_simp
                  exact hK' _ _ hK
                · intro x1 x2 y1 y2 W K hK
                  refine wpOp_step (o := ?_) ?_ (fun K' hK' => ?_)
                  rotate_left
                  focus (simp only [List.getElem?_toArray, List.getElem?_cons_succ, List.getElem?_cons_zero] <;> rfl)
                  simp only [fill4, Act.put, List.setIfInBounds_toArray, List.set_cons_zero, List.set_cons_succ] at hK ⊢
                  go_simp
                  exact hK' _ _ hK
                · intro p r W K hp hK
                  refine wpOp_step (o := ?_) ?_ (fun K' hK' => ?_)
                  rotate_left
                  focus (simp only [List.getElem?_toArray, List.getElem?_cons_succ, List.getElem?_cons_zero] <;> rfl)
                  simp only [fill4, Act.put, List.setIfInBounds_toArray, List.set_cons_zero, List.set_cons_succ] at hK ⊢
                  rw [if_pos (by rfl)]
                  refine wp_store_row 27 _ _ rfl p (nArr 1 (A)) rfl rfl 27 exZ hp (by kernel_rfl) rfl (nArr_one _ _) ?_
                  exact hK' _ _ hK
                · intro p r W K hp hK
                  refine wpOp_step (o := ?_) ?_ (fun K' hK' => ?_)
                  rotate_left
                  focus (simp only [List.getElem?_toArray, List.getElem?_cons_succ, List.getElem?_cons_zero] <;> rfl)
                  simp only [fill4, Act.put, List.setIfInBounds_toArray, List.set_cons_zero, List.set_cons_succ] at hK ⊢
                  rw [if_pos (by rfl)]
                  refine wp_store_row 27 _ _ rfl r (nArr 1 (B)) rfl rfl 27 exZ hp (by kernel_rfl) rfl (nArr_one _ _) ?_
                  exact hK' _ _ hK
                · intro p r W hp hr hpr hP hR hb
                  simp only [fill4, Act.put, List.setIfInBounds_toArray, List.set_cons_zero, List.set_cons_succ]
                  go_wp2_with fail
                  go_meet
                  case rel => exact ⟨p, r, rfl, rfl, hp, hr, hpr, (setRow_other _ r p _ hpr).trans (setRow_same _ hP), setRow_same _ ((setRow_other _ p r _ (fun e => hpr e.symm)).trans hR), below_setRow (below_setRow hb hp _) hr _⟩
                · rfl
                · exact Below.drew (Below.refl _ wp)
            case rest =>
              obtain ⟨q, s, rfl, rfl, hq, hs, hqs, hQ, hS, hb2⟩ := hcut
              obtain ⟨wx, rfl⟩ : ∃ wx : World, wx = wc := ⟨_, rfl⟩
              have bP := (hb2.block p (Array.getElem?_eq_some_iff.1 HP.out).1).trans HP.out
              have bR := (hb2.block r (Array.getElem?_eq_some_iff.1 HR.out).1).trans HR.out
              have hbo : Below wo.heap.size wo wx := HB1.out.trans (hb2.mono HB1.out.size)
              have hX := HT.out.below hbo
              have hpq : wo.heap.size ≤ q := Nat.le_trans HB1.out.size hq
              have hps : wo.heap.size ≤ s := Nat.le_trans HB1.out.size hs
              have evl : ∀ k, ev.ownBlock = some k → k < wo.heap.size := fun k hk => (HT.out.e.row.lt k hk).2
              have rvl : ∀ k, rv.ownBlock = some k → k < wo.heap.size := fun k hk => (HT.out.r.row.lt k hk).2
              have nq : ev.ownBlock ≠ some q := fun e => by have := evl _ e; omega
              have ns : ev.ownBlock ≠ some s := fun e => by have := evl _ e; omega
              have nq1 : q ≠ w1.heap.size := fun e => by have := HT.out.e.lt; omega
              have ns1 : s ≠ w1.heap.size := fun e => by have := HT.out.e.lt; omega
              have hwb : w.heap.size ≤ wx.heap.size := hX.old.size
              obtain ⟨hl1, _, _, hx, _, _, _, hx4⟩ := HR1.out
              cases hx
              obtain ⟨sb, so, rfl, hcs⟩ := hx4 (by omega)
              obtain ⟨D, hD⟩ : ∃ D, D = sp.getD i false := ⟨_, rfl⟩
              have hsl : sp.length = n1 := by simpa [bls] using hl1
              have cS : wx.cell? ⟨sb, so + i, none⟩ = some (.bool D) := cell_below hX.old (Nat.le_refl _) (hcs i _ (by rw [hD]; simp [bls, show i < sp.length from by omega]))
              obtain ⟨ea, ec, rfl, _, _, _⟩ := owns_shape hX.e.row
              obtain ⟨ra, rc, rfl, _, _, _⟩ := owns_shape hX.r.row
              have HX := Lib.hid hX
              obtain ⟨p0, p1, p2, p3, p4, p5, p6, p7, pl⟩ := cells8 bP
              obtain ⟨r0, r1, r2, r3, r4, r5, r6, r7, rl⟩ := cells8 bR
              have ql := (Array.getElem?_eq_some_iff.1 hQ).1
              have sl := (Array.getElem?_eq_some_iff.1 hS).1
              obtain ⟨_, _, _, _, _, _, _, e7, el⟩ := cells8s hX.e.blk
              have BQ := Lib.hid hQ
              have BS := Lib.hid hS
              have i1 : i < n1 := by omega
              have wxs : wx.heap.size = wx.heap.size := rfl
              have HPB := Lib.hid (show wo.heap.size ≤ wx.heap.size from hbo.size)
              have HEV := Lib.hid evl
              have HRV := Lib.hid rvl
              have HNS := Lib.hid (show (Value.slice ea l.length ec).ownBlock ≠ some q ∧ (Value.slice ea l.length ec).ownBlock ≠ some s ∧ q ≠ w1.heap.size ∧ s ≠ w1.heap.size ∧ wo.heap.size ≤ q ∧ wo.heap.size ≤ s from ⟨nq, ns, nq1, ns1, hpq, hps⟩)
              clear hD hcs hx4 hl1 hsl hX bP bR hQ hS hbo hb2 HP HR HB1 HCP HCS evl rvl nq ns nq1 ns1 wxs
              cases D
              · go_upto_region 16 with (at_builtin; refine app_own2 _ elemExpr rfl _ _ rfl w.heap.size _ l.length (elCells l) rfl (((HX.out.e.row.alloc _).alloc _).alloc _) _ 2 (elCells [⟨false, bits .and .i32 A 31, 0, wx.heap.size⟩, ⟨false, bits .and .i32 B 31, 0, wx.heap.size + 1⟩]) rfl (rd_newAt _ (by simp) _ _ _ _ (by rfl) (by decide)) (elCells_one _) (by simp only [maxLen]; omega) (by omega) (by simp; omega) ?_; intro v3 w3 ho3 hg3 hl3; have b3 := blk_grown (blk_alloc (blk_alloc (blk_alloc HX.out.e.blk _) _) _) hg3 HX.out.e.ne; have f3 := frozen_of_row w3 _ 7 _ _ b3; have k3 := (cell_of_row w3 _ 7 _ _ _ b3).trans (rfl : _ = some (Value.slice ea l.length ec)); obtain ⟨va, vc, rfl, _, _, _⟩ := owns_shape ho3; clear b3)
                have hk : ∀ d ∈ [(⟨false, bits .and .i32 A 31, 0, wx.heap.size⟩ : El), ⟨false, bits .and .i32 B 31, 0, wx.heap.size + 1⟩], (((wx.alloc (.cells (El.kids ⟨false, bits .and .i32 A 31, 0, wx.heap.size⟩) 27)).alloc (.cells (El.kids ⟨false, bits .and .i32 B 31, 0, wx.heap.size + 1⟩) 27)).alloc (.cells (elCells [⟨false, bits .and .i32 A 31, 0, wx.heap.size⟩, ⟨false, bits .and .i32 B 31, 0, wx.heap.size + 1⟩]).toArray 27)).heap[d.blk]? = some (.cells d.kids 27 (0, 0)) ∧ wx.heap.size ≤ d.blk ∧ d.In := by
                  intro d hd
                  simp only [List.mem_cons, List.not_mem_nil, or_false] at hd
                  rcases hd with rfl | rfl
                  · exact ⟨blk_alloc (heap_alloc2_old wx _ _) _, Nat.le_refl _, and31 A, zero31⟩
                  · exact ⟨blk_alloc (heap_alloc2_new wx _ _) _, by simp, and31 B, zero31⟩
                have hbb := belAl (belAl (belAl (Below.refl _ wx) (.cells (El.kids ⟨false, bits .and .i32 A 31, 0, wx.heap.size⟩) 27)) (.cells (El.kids ⟨false, bits .and .i32 B 31, 0, wx.heap.size + 1⟩) 27)) (.cells (elCells [⟨false, bits .and .i32 A 31, 0, wx.heap.size⟩, ⟨false, bits .and .i32 B 31, 0, wx.heap.size + 1⟩]).toArray 27)
                have hY := (HX.out.add hbb ho3 hg3 hl3 hk).symm
                have bQ := keepBlk (ev := .slice ea l.length ec) (eb := w1.heap.size) (v3 := .slice va (l.length + 2) vc) BQ.out hbb hg3 HNS.out.1 HNS.out.2.2.1
                obtain ⟨L, hL⟩ : ∃ L, L = l ++ [(⟨false, bits .and .i32 A 31, 0, wx.heap.size⟩ : El), ⟨false, bits .and .i32 B 31, 0, wx.heap.size + 1⟩] := ⟨_, rfl⟩
                have hLl : L.length ≤ i + 2 := by rw [hL]; simp; omega
                rw [← hL] at hY
                obtain ⟨w4, hw4⟩ : ∃ w4 : World, w4 = w3.setCell ⟨w1.heap.size, 7, none⟩ (.slice va (l.length + 2) vc) := ⟨_, rfl⟩
                rw [← hw4] at hY bQ
                change Code.wp _ _ _ _ (w3.setCell ⟨w1.heap.size, 7, none⟩ (.slice va (l.length + 2) vc))
                rw [← hw4]
                clear hw4 hL hk hbb ho3 hg3 hl3 f3 k3 p0 p1 p2 p3 p4 p5 p6 p7 pl r0 r1 r2 r3 r4 r5 r6 r7 rl e7 el
                obtain ⟨p0, p1, p2, p3, p4, p5, p6, p7, pl⟩ := cells8 bQ
                obtain ⟨_, _, _, _, _, _, _, e7, el⟩ := cells8s hY.e.blk
                have HY := Lib.hid hY
                have hwb4 : w.heap.size ≤ w4.heap.size := hY.old.size
                clear hY bQ
                go_wp2_with (at_builtin; refine app_own2 _ elemExpr rfl _ _ rfl w.heap.size _ m.length (elCells m) rfl ((HY.out.e.row.alloc _).alloc _) _ 1 (elCells [⟨false, A, 0, w4.heap.size⟩]) rfl (rd_newAt _ (by simp) _ _ _ _ (by rfl) (by decide)) (elCells_one _) (by simp only [maxLen]; omega) (by omega) (by simp; omega) ?_; intro v5 w5 ho5 hg5 hl5; have b5 := blk_grown (blk_alloc (blk_alloc HY.out.e.blk _) _) hg5 HY.out.e.ne; have f5 := frozen_of_row w5 _ 7 _ _ b5; have k5 := (cell_of_row w5 _ 7 _ _ _ b5).trans (rfl : _ = some (Value.slice ra m.length rc)); obtain ⟨ua, uc, rfl, _, _, _⟩ := owns_shape ho5; clear b5)
                go_roundw
                case rel => exact ⟨i + 2, _, _, L, m ++ [⟨false, A, 0, w4.heap.size⟩], by omega, by go_num, hLl, by simp; omega, (HY.out.add (belAl (belAl (Below.refl _ w4) _) _) ho5 hg5 hl5 (fun d hd => by obtain rfl := List.mem_singleton.1 hd; exact ⟨blk_alloc (heap_alloc_new w4 _) _, Nat.le_refl _, HAR.out, zero31⟩)).symm⟩
                case measure => simp [intOf]; omega
              · go_upto_region 14 with (at_builtin; refine app_own2 _ elemExpr rfl _ _ rfl w.heap.size _ l.length (elCells l) rfl ((HX.out.e.row.alloc _).alloc _) _ 1 (elCells [⟨true, bits .and .i32 A 31, bits .and .i32 B 31, wx.heap.size⟩]) rfl (rd_newAt _ (by simp) _ _ _ _ (by rfl) (by decide)) (elCells_one _) (by simp only [maxLen]; omega) (by omega) (by simp; omega) ?_; intro v3 w3 ho3 hg3 hl3; have b3 := blk_grown (blk_alloc (blk_alloc HX.out.e.blk _) _) hg3 HX.out.e.ne; have f3 := frozen_of_row w3 _ 7 _ _ b3; have k3 := (cell_of_row w3 _ 7 _ _ _ b3).trans (rfl : _ = some (Value.slice ea l.length ec)); obtain ⟨va, vc, rfl, _, _, _⟩ := owns_shape ho3; clear b3)
                have hk : ∀ d ∈ [(⟨true, bits .and .i32 A 31, bits .and .i32 B 31, wx.heap.size⟩ : El)], ((wx.alloc (.cells (El.kids ⟨true, bits .and .i32 A 31, bits .and .i32 B 31, wx.heap.size⟩) 27)).alloc (.cells (elCells [⟨true, bits .and .i32 A 31, bits .and .i32 B 31, wx.heap.size⟩]).toArray 27)).heap[d.blk]? = some (.cells d.kids 27 (0, 0)) ∧ wx.heap.size ≤ d.blk ∧ d.In := by
                  intro d hd
                  simp only [List.mem_cons, List.not_mem_nil, or_false] at hd
                  obtain rfl := hd
                  exact ⟨blk_alloc (heap_alloc_new wx _) _, Nat.le_refl _, and31 A, and31 B⟩
                have hbb := belAl (belAl (Below.refl _ wx) (.cells (El.kids ⟨true, bits .and .i32 A 31, bits .and .i32 B 31, wx.heap.size⟩) 27)) (.cells (elCells [⟨true, bits .and .i32 A 31, bits .and .i32 B 31, wx.heap.size⟩]).toArray 27)
                have hY := (HX.out.add hbb ho3 hg3 hl3 hk).symm
                have bS := keepBlk (ev := .slice ea l.length ec) (eb := w1.heap.size) (v3 := .slice va (l.length + 1) vc) BS.out hbb hg3 HNS.out.2.1 HNS.out.2.2.2.1
                have bQ := keepBlk (ev := .slice ea l.length ec) (eb := w1.heap.size) (v3 := .slice va (l.length + 1) vc) BQ.out hbb hg3 HNS.out.1 HNS.out.2.2.1
                obtain ⟨L, hL⟩ : ∃ L, L = l ++ [(⟨true, bits .and .i32 A 31, bits .and .i32 B 31, wx.heap.size⟩ : El)] := ⟨_, rfl⟩
                have hLl : L.length ≤ i + 2 := by rw [hL]; simp; omega
                rw [← hL] at hY
                obtain ⟨w4, hw4⟩ : ∃ w4 : World, w4 = w3.setCell ⟨w1.heap.size, 7, none⟩ (.slice va (l.length + 1) vc) := ⟨_, rfl⟩
                rw [← hw4] at hY bQ bS
                change Code.wp _ _ _ _ (w3.setCell ⟨w1.heap.size, 7, none⟩ (.slice va (l.length + 1) vc))
                rw [← hw4]
                clear hw4 hL hk hbb ho3 hg3 hl3 f3 k3 p0 p1 p2 p3 p4 p5 p6 p7 pl r0 r1 r2 r3 r4 r5 r6 r7 rl e7 el
                obtain ⟨p0, p1, p2, p3, p4, p5, p6, p7, pl⟩ := cells8 bQ
                obtain ⟨r0, r1, r2, r3, r4, r5, r6, r7, rl⟩ := cells8 bS
                obtain ⟨_, _, _, _, _, _, _, e7, el⟩ := cells8s hY.e.blk
                have HY := Lib.hid hY
                have hwb4 : w.heap.size ≤ w4.heap.size := hY.old.size
                clear hY bQ bS
                go_wp2_with (at_builtin; refine app_own2 _ elemExpr rfl _ _ rfl w.heap.size _ m.length (elCells m) rfl ((HY.out.e.row.alloc _).alloc _) _ 1 (elCells [⟨true, A, B, w4.heap.size⟩]) rfl (rd_newAt _ (by simp) _ _ _ _ (by rfl) (by decide)) (elCells_one _) (by simp only [maxLen]; omega) (by omega) (by simp; omega) ?_; intro v5 w5 ho5 hg5 hl5; have b5 := blk_grown (blk_alloc (blk_alloc HY.out.e.blk _) _) hg5 HY.out.e.ne; have f5 := frozen_of_row w5 _ 7 _ _ b5; have k5 := (cell_of_row w5 _ 7 _ _ _ b5).trans (rfl : _ = some (Value.slice ra m.length rc)); obtain ⟨ua, uc, rfl, _, _, _⟩ := owns_shape ho5; clear b5)
                go_roundw
                case rel => exact ⟨i + 2, _, _, L, m ++ [⟨true, A, B, w4.heap.size⟩], by omega, by go_num, hLl, by simp; omega, (HY.out.add (belAl (belAl (Below.refl _ w4) _) _) ho5 hg5 hl5 (fun d hd => by obtain rfl := List.mem_singleton.1 hd; exact ⟨blk_alloc (heap_alloc_new w4 _) _, Nat.le_refl _, HAR.out, HBR.out⟩)).symm⟩
                case measure => simp [intOf]; omega
        · obtain ⟨e0, e1, e2, e3, e4, e5, e6, e7, el⟩ := cells8s hT.e.blk
          have HT := Lib.hid hT
          have tE := told_any wo (setE l) (.slice none 0 0) ev hT.e.ok hT.e.fit
          obtain ⟨ea, ec, rfl, _, _, _⟩ := owns_shape hT.e.row
          have TE := Lib.hid tE
          clear hT tE
          go_wp2_with fail
          refine TE.out.mono ?_
          rintro en wt ⟨rfl, hbt⟩
          have hT2 := HT.out.below hbt
          obtain ⟨q0, q1, q2, q3, q4, q5, q6, q7, ql⟩ := cells8s hT2.r.blk
          have tR := told_any wt (setE m) (.slice none 0 0) rv hT2.r.ok hT2.r.fit
          obtain ⟨ra, rc, rfl, _, _, _⟩ := owns_shape hT2.r.row
          have TR := Lib.hid tR
          have HOLD := Lib.hid hT2.old
          clear hT2 tR hbt e0 e1 e2 e3 e4 e5 e6 e7 el
          go_wp2_with fail
          refine TR.out.mono ?_
          rintro en wz ⟨rfl, hbz⟩
          have HZ := Lib.hid (HOLD.out.trans (hbz.mono HOLD.out.size))
          clear hbz
          go_wp2_with fail
          go_ret
          exact ⟨rfl, HZ.out⟩
end Go.Proofs.Ytiikeilpgajmfaa
