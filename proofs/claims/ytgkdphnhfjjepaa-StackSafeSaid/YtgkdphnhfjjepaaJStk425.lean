/- The walks and the plain lemmas of the statement, joined: part 5. No condition. -/
import Derived.Test.YtgkdphnhfjjepaaJStk422
import Derived.Test.YtgkdphnhfjjepaaJStk424
import Derived.Test.YtgkdphnhfjjepaaJStk423

/- The reference's do: the operations whose regions are walked by hand (printed by gen_stk32.py). -/
namespace Go.Proofs.Ytgkdphnhfjjepaa
open Go.RowKit Go.Waf
set_option maxRecDepth 100000
set_option linter.unusedVariables false
set_option linter.unusedSimpArgs false

section
variable {w : World} {B q : Nat} {F : Nat → Prop} {cv mv iv sv kv ov : Value} {s : SSt}
set_option maxHeartbeats 3200000 in
theorem rdo_31 {b off n c : Nat} {x : Int} {t : List Int} (h : SM false w B q F cv mv (.slice (some ⟨b, off, none⟩) n c) sv kv ov s) (hin : s.inp = x :: t) (hnt : n = t.length + 1) (k : Int) (hk : I32 k) (hp0 : 0 ≤ s.pc) (hp1 : s.pc ≤ 1000000) (hl : s.st.length < 1000) :
    Calls Try.prog 43 #[.pointer (some ⟨q, 0, none⟩), codeV 31 k] w fun e w' => e = .returned (.bool true) ∧ FuQ false w B q F cv mv (.slice (some ⟨b, off, none⟩) n c) { s with inp := t, st := x :: s.st, pc := s.pc + 1 } w' := by
  obtain ⟨sa, sc, hsv, hnc, hcm, hnone⟩ := rd_shape h.ops.rd
  have HK := Lib.hid hk
  unfold I32 at hk
  obtain ⟨hk0, hk1⟩ := hk
  have H := Lib.hid h
  have hql := h.lt
  have c2 := h.r2
  have c5 := h.r5
  have hsl := h.fit.sl
  have E := Lib.hid (fun W => effect_any 31 ⟨by omega, by omega⟩ W)
  rw [show takesC 31 = 0 from rfl, show leavesC 31 = 1 from rfl] at E
  have hrd : Rd w 1 (.slice sa s.st.length sc) s.st.length (i32s s.st.reverse) := by have := h.ops.rd; rw [hsv] at this; exact this
  obtain ⟨N, hN⟩ : ∃ N, N = s.st.length := ⟨_, rfl⟩
  obtain ⟨M, hM⟩ : ∃ M, N = M + 0 := ⟨N - 0, by skip; omega⟩
  rw [hsv] at c2
  have hMl : s.st.length - 0 = M := by omega
  have hNM : N = M := by omega
  subst hNM
  rw [← hN] at c2 hsl hnc hrd hMl
  obtain ⟨D, hD⟩ : ∃ D : Option Addr, (if sc = N then sa else Option.map (fun x => x.add N) sa) = D := ⟨_, rfl⟩
  have hx := rd_from hrd (lo := N) (by omega) hD
  have hMe : N = s.st.length - 0 := by omega
  have hxl : (i32s s.st.reverse).drop N = i32s (s.st.take 0).reverse := by rw [hMe]; exact take_rev _ _ (by omega)
  rw [hxl, show N - N = 0 by omega] at hx
  have HX := Lib.hid hx
  have HN := Lib.hid hN
  have HSV := Lib.hid hsv
  have HMe := Lib.hid hMe
  have g0 : decide ((N : Int) < 0) = false := by simp
  have g1 : ¬ (1000 : Int) < (N : Int) + 1 := by omega
  have g4 : decide ((1000 : Int) < (N : Int) + 1) = false := by simp; omega
  have m0 : (0 : Int) ≤ (N : Int) := by omega
  have m1 : (N : Int) ≤ (N : Int) := by omega
  have m2 : N ≤ N := by omega
  clear h hN hsv hx hxl hrd hMe hMl hM
  have HIN := Lib.hid hin
  have HNT := Lib.hid hnt
  obtain ⟨b', off', c', hiv, hi1, hi2, _⟩ := H.out.inAt hin
  injection hiv with ha hn1' hc'
  clear hn1'
  injection ha with ha; injection ha with hb1 ho1
  subst hb1 ho1 hc'
  have hxb := H.out.fit.inp x (by rw [hin]; exact List.mem_cons_self ..)
  have HXB := Lib.hid hxb
  have ex : IntKind.i32.wrap x = x := IntWalk.i32_in _ (by unfold Byt at hxb; omega)
  obtain ⟨dp, hdp⟩ : ∃ dp : Option Addr, (if c = 1 then (some ⟨b, off, none⟩ : Option Addr) else some ⟨b, off + 1, none⟩) = dp := ⟨_, rfl⟩
  have HOB := Lib.hid (show (Value.slice dp (n - 1) (c - 1)).ownBlock = (Value.slice (some ⟨b, off, none⟩) n c).ownBlock by rw [← hdp]; split <;> rfl)
  have HDP := Lib.hid hdp
  have i0 : 1 ≤ n := by omega
  have i1 : (0 : Int) < (n : Int) := by omega
  have i2 : (1 : Int) ≤ (n : Int) := by omega
  have i3 : n ≤ c := by omega
  have i5 : (n : Int) ≤ (c : Int) := by omega
  have i6 : (1 : Int) ≤ (c : Int) := by omega
  have i4 : 1 ≤ c := by omega
  clear hin hnt hxb hi1
  simp only [codeV]
  go_enter Try.func43, Try.ntmps43
  go_wp2_with fail
  refine (E.out _).mono ?_; rintro e w1 ⟨rfl, hw1⟩
  have hM1 : SM false w1 B q F cv mv (.slice (some ⟨b, off, none⟩) n c) sv kv ov s := by rw [← hw1]; exact H.out.alloc _
  have hm1 : Mv w F F w1 := by rw [← hw1]; exact (Mv.refl w F).alloc _
  have b0 : w1.cell? ⟨w.heap.size, 0, none⟩ = some (.int .i64 31) := by rw [← hw1]; exact World.cell?_alloc_new w _ _ _
  have b1 : w1.cell? ⟨w.heap.size, 1, none⟩ = some (.int .i32 k) := by rw [← hw1]; exact World.cell?_alloc_new w _ _ _
  have c2' : w1.cell? ⟨q, 2, none⟩ = some (.slice sa N sc) := by rw [← hw1]; exact alloc_keep c2
  have hx1 : Rd w1 1 (.slice D 0 (sc - N)) 0 (i32s (s.st.take 0).reverse) := HX.out.below (B := w.heap.size) (by rw [← hw1]; exact (Below.refl _ _).alloc (Nat.le_refl _) _) (Nat.le_refl _)
  have HX1 := Lib.hid hx1
  have HM1 := Lib.hid hM1
  have Hm1 := Lib.hid hm1
  have HB0 := Lib.hid b0
  have HB1 := Lib.hid b1
  have hl1 := World.block_lt_of_cell? w1 _ b0
  have hq1 := HM1.out.lt
  clear hw1 hM1 hm1 c2 c5 hx1
  go_wp2_with (first | (at_builtin; refine app_own _ elemI32 rfl (.const (.slice none 0 0)) (.tmp 46) rfl w1.heap.size (.slice none 0 0) 0 [] rfl (World.ownsRow_nil _ _ _ _) (.slice D 0 (sc - N)) 0 (i32s (s.st.take 0).reverse) rfl HX1.out (one_i32s _) (by simp [maxLen]) (by simp) (Nat.le_refl _) ?_; intro v8 w2 ho8 hg8; simp only [Nat.zero_add, List.nil_append] at ho8; obtain ⟨xa, xc, rfl, _⟩ := owns_shape ho8; have hM2 := HM1.out.grown hg8; have hm2 := Hm1.out.grown hg8; have b0 := hg8.cell HB0.out (by simp [Value.ownBlock]); have b1 := hg8.cell HB1.out (by simp [Value.ownBlock]); have c2 := hM2.r2; rw [HSV.out, ← HN.out] at c2; have c5 := hM2.r5; have f2 := hM2.frozen 2; have f5 := hM2.frozen 5; have hq2 := hM2.lt; have hl2 := World.block_lt_of_cell? _ _ b0; have hin2 := hM2.inAt HIN.out; obtain ⟨b2, off2, c2i, hiv2, _, _, cx2⟩ := hin2; injection hiv2 with ha2 hn2 hc2; clear hn2 hc2; injection ha2 with ha2; injection ha2 with hb2 ho2; subst hb2 ho2; have c7 := hM2.r7; have f7 := hM2.frozen 7; have lx2 := World.block_lt_of_cell? _ _ cx2; have HM2 := Lib.hid hM2; have Hm2 := Lib.hid hm2; have HO8 := Lib.hid ho8; clear hM2 hm2 ho8 hg8) | fail)
  obtain ⟨W1, hW1⟩ : ∃ W1 : World, W1 = w2.alloc (.cells #[.int .i32 0] 21) := ⟨_, rfl⟩
  rw [← hW1]
  have hM5 : SM false W1 B q F cv mv (.slice (some ⟨b, off, none⟩) n c) sv kv ov s := by rw [hW1]; exact HM2.out.alloc _
  have hm5 : Mv w F F W1 := by rw [hW1]; exact Hm2.out.alloc _
  have c7 := hM5.r7
  have f7 := hM5.frozen 7
  have hq5 := hM5.lt
  have hz5 : W1.cell? ⟨w2.heap.size, 0, none⟩ = some (.int .i32 0) := by rw [hW1]; exact World.cell?_alloc_new w2 _ _ _
  have fz5 : W1.frozen? ⟨w2.heap.size, 0, none⟩ = false := by rw [hW1]; exact frozen_of_row _ _ _ _ _ (by exact heap_alloc_new w2 _)
  have cx5 : W1.cell? ⟨b, off, none⟩ = some (.int .u8 x) := by rw [hW1]; exact alloc_keep cx2
  have hnew5 : w2.heap.size ≠ q := by omega
  have hnew6 : w2.heap.size ≠ b := by omega
  have hl5 : w2.heap.size < W1.heap.size := by rw [hW1]; simp
  obtain ⟨W6, hW6⟩ : ∃ W6 : World, W6 = W1.setCell ⟨w2.heap.size, 0, none⟩ (.int .i32 x) := ⟨_, rfl⟩
  have hfr6 : Fr (fun k => k = w2.heap.size) W1 W6 := by rw [hW6]; exact (Fr.refl (fun k => k = w2.heap.size) W1).setCell (p := ⟨w2.heap.size, 0, none⟩) (.inr rfl) _
  have hM6 : SM false W6 B q F cv mv (.slice (some ⟨b, off, none⟩) n c) sv kv ov s := hM5.keep hfr6 (fun k hk e => by have := (HM2.out.fb k hk).2; omega) (fun k hk h0 e => by have := rd_lt HM2.out.code (by decide) h0 hk; omega) (fun k hk h0 e => by have := rd_lt HM2.out.inp (by decide) h0 hk; omega)
  have hm6 : Mv w F F W6 := by rw [hW6]; exact ⟨hm5.fr.setCell (p := ⟨w2.heap.size, 0, none⟩) (.inl Hm2.out.fr.size) _, hm5.new⟩
  have hrd6 : Rd W6 1 (.slice (some ⟨w2.heap.size, 0, none⟩) 1 1) 1 (i32s [x]) := by
    refine ⟨rfl, _, 1, rfl, Nat.le_refl _, by simp [maxLen], by simp, fun _ => ⟨w2.heap.size, 0, rfl, fun j u hu => ?_⟩⟩
    have hj : j = 0 := by
      have := (List.getElem?_eq_some_iff.1 hu).1
      simp [i32s] at this; exact this
    subst hj
    have hu' : u = .int .i32 x := by simpa [i32s] using hu.symm
    rw [hu', hW6]
    exact World.cell?_setCell_same _ _ _ hz5
  have e7 := hM6.r7
  have g7 := hM6.frozen 7
  have l6 := hM6.lt
  have cx6 : W6.cell? ⟨b, off, none⟩ = some (.int .u8 x) := by rw [hW6, World.cell?_setCell_other _ _ _ _ (by intro h; injection h with h; exact hnew6 h)]; exact cx5
  have hin6 : Rd W6 1 (.slice dp (n - 1) (c - 1)) t.length (byt t) := by
    have hr : Rd W6 1 (.slice (some ⟨b, off, none⟩) n c) n (byt (x :: t)) := by have h0 := hM6.inp; rw [HIN.out] at h0; rw [HNT.out]; rw [HNT.out] at h0; exact h0
    have h1 := rd_from (w := W6) (lo := 1) (D := dp) hr i0 HDP.out
    rw [show n - 1 = t.length by rw [HNT.out]; omega] at h1 ⊢
    exact h1
  have hfit6 : SFit { s with inp := t } := hM6.fit.inps (fun y hy => hM6.fit.inp y (by rw [HIN.out]; exact List.mem_cons_of_mem _ hy)) (by rw [HIN.out]; simp)
  have hM7 := hM6.newI hin6 HOB.out (fun _ => by rw [HIN.out]; simp) hfit6
  have hm7 := hm6.set hM6.fq 7 (.slice dp (n - 1) (c - 1))
  obtain ⟨W8, hW8⟩ : ∃ W8 : World, W8 = (W6.setCell ⟨q, 7, none⟩ (.slice dp (n - 1) (c - 1))).drew := ⟨_, rfl⟩
  have HM7 := Lib.hid (show SM false W8 B q F cv mv (.slice dp (n - 1) (c - 1)) sv kv ov { s with inp := t } from by rw [hW8]; exact hM7.drew)
  have Hm7 := Lib.hid (show Mv w F F W8 from by rw [hW8]; exact hm7.drewN 1)
  have hrd7 : Rd (W6.setCell ⟨q, 7, none⟩ (.slice dp (n - 1) (c - 1))).drew 1 (.slice (some ⟨w2.heap.size, 0, none⟩) 1 1) 1 (i32s [x]) := (show Rd (W6.setCell ⟨q, 7, none⟩ (.slice dp (n - 1) (c - 1))) 1 _ 1 (i32s [x]) from (fr_set W6 q 7 _).rd hrd6 (fun k hk e => by cases hk; exact hnew5 e))
  rw [← hW8] at hrd7
  have HRD := Lib.hid hrd7
  have HW8 := Lib.hid hW8
  clear hW8
  have HS1 := Lib.hid (show (fun W => W.cell? ⟨q, 7, none⟩ = some (.slice (some ⟨b, off, none⟩) n c) ∧ W.cell? ⟨b, off, none⟩ = some (.int .u8 x)) W1.drew from ⟨c7, cx5⟩)
  have HS6 := Lib.hid (show (fun W => W.cell? ⟨q, 7, none⟩ = some (.slice (some ⟨b, off, none⟩) n c) ∧ W.cell? ⟨b, off, none⟩ = some (.int .u8 x)) W6.drew from ⟨e7, cx6⟩)
  have HS := HS1
  have HW6 := Lib.hid hW6
  have hdp := HDP.out
  clear hM5 hm5 hfr6 hM6 hm6 hrd6 hin6 hfit6 hM7 hm7 hrd7 hW1 hW6
  refine wp_region_till 18 (fun W => W.cell? ⟨q, 7, none⟩ = some (.slice (some ⟨b, off, none⟩) n c) ∧ W.cell? ⟨b, off, none⟩ = some (.int .u8 x)) (by kernel_rfl) ?_
  (refine wpAnyT_take (i := 0) (oi := ?_) (v := ?_) ?_ (by kernel_rfl) (by kernel_rfl) (by kernel_rfl) (by kernel_rfl) ?_ (Or.inl ⟨?_, ?_⟩) HS.out ?_; rotate_left 2; (focus (simp only [List.getElem?_toArray, List.getElem?_cons_succ, List.getElem?_cons_zero] <;> rfl)); (focus exact (fun _ _ _ h => h)); (focus rfl); (focus (intro w hSw; (try dsimp only at hSw); go_simp; try (with_reducible rfl))))
  (try simp only [Act.put, List.setIfInBounds_toArray, List.set_cons_zero, List.set_cons_succ])
  (refine wpAnyT_take (i := 1) (oi := ?_) (v := ?_) ?_ (by kernel_rfl) (by kernel_rfl) (by kernel_rfl) (by kernel_rfl) ?_ (Or.inl ⟨?_, ?_⟩) HS.out ?_; rotate_left 2; (focus (simp only [List.getElem?_toArray, List.getElem?_cons_succ, List.getElem?_cons_zero] <;> rfl)); (focus exact (fun _ _ _ h => h)); (focus rfl); (focus (intro w hSw; (try dsimp only at hSw); go_simp; try (with_reducible rfl))))
  (try simp only [Act.put, List.setIfInBounds_toArray, List.set_cons_zero, List.set_cons_succ])
  (refine wpAnyT_take (i := 2) (oi := ?_) (v := ?_) ?_ (by kernel_rfl) (by kernel_rfl) (by kernel_rfl) (by kernel_rfl) ?_ (Or.inl ⟨?_, ?_⟩) HS.out ?_; rotate_left 2; (focus (simp only [List.getElem?_toArray, List.getElem?_cons_succ, List.getElem?_cons_zero] <;> rfl)); (focus exact (fun _ _ _ h => h)); (focus rfl); (focus (intro w hSw; (try dsimp only at hSw); go_simp; try (with_reducible rfl))))
  (try simp only [Act.put, List.setIfInBounds_toArray, List.set_cons_zero, List.set_cons_succ])
  (refine wpAnyT_take (i := 3) (oi := ?_) (v := ?_) ?_ (by kernel_rfl) (by kernel_rfl) (by kernel_rfl) (by kernel_rfl) ?_ (Or.inl ⟨?_, ?_⟩) HS.out ?_; rotate_left 2; (focus (simp only [List.getElem?_toArray, List.getElem?_cons_succ, List.getElem?_cons_zero] <;> rfl)); (focus exact (fun _ _ _ h => h)); (focus rfl); (focus (intro w hSw; (try dsimp only at hSw); go_simp; try (with_reducible rfl))))
  (try simp only [Act.put, List.setIfInBounds_toArray, List.set_cons_zero, List.set_cons_succ])
  (refine wpAnyT_take (i := 4) (oi := ?_) (v := ?_) ?_ (by kernel_rfl) (by kernel_rfl) (by kernel_rfl) (by kernel_rfl) ?_ (Or.inl ⟨?_, ?_⟩) HS.out ?_; rotate_left 2; (focus (simp only [List.getElem?_toArray, List.getElem?_cons_succ, List.getElem?_cons_zero] <;> rfl)); (focus exact (fun _ _ _ h => h)); (focus rfl); (focus (intro w hSw; (try dsimp only at hSw); go_simp; try (with_reducible rfl))))
  (try simp only [Act.put, List.setIfInBounds_toArray, List.set_cons_zero, List.set_cons_succ])
  (refine wpAnyT_take (i := 5) (oi := ?_) (v := ?_) ?_ (by kernel_rfl) (by kernel_rfl) (by kernel_rfl) (by kernel_rfl) ?_ (Or.inl ⟨?_, ?_⟩) HS.out ?_; rotate_left 2; (focus (simp only [List.getElem?_toArray, List.getElem?_cons_succ, List.getElem?_cons_zero] <;> rfl)); (focus exact (fun _ _ _ h => h)); (focus rfl); (focus (intro w hSw; (try dsimp only at hSw); go_simp; try (with_reducible rfl))))
  (try simp only [Act.put, List.setIfInBounds_toArray, List.set_cons_zero, List.set_cons_succ])
  (refine wpAnyT_take (i := 6) (oi := ?_) (v := ?_) ?_ (by kernel_rfl) (by kernel_rfl) (by kernel_rfl) (by kernel_rfl) ?_ (Or.inl ⟨?_, ?_⟩) HS.out ?_; rotate_left 2; (focus (simp only [List.getElem?_toArray, List.getElem?_cons_succ, List.getElem?_cons_zero] <;> rfl)); (focus exact (fun _ _ _ h => h)); (focus rfl); (focus (intro w hSw; (try dsimp only at hSw); go_simp; try (with_reducible rfl))))
  (try simp only [Act.put, List.setIfInBounds_toArray, List.set_cons_zero, List.set_cons_succ])
  (refine wpAnyT_take (i := 7) (oi := ?_) (v := ?_) ?_ (by kernel_rfl) (by kernel_rfl) (by kernel_rfl) (by kernel_rfl) ?_ (Or.inl ⟨?_, ?_⟩) HS.out ?_; rotate_left 2; (focus (simp only [List.getElem?_toArray, List.getElem?_cons_succ, List.getElem?_cons_zero] <;> rfl)); (focus exact (fun _ _ _ h => h)); (focus rfl); (focus (intro w hSw; (try dsimp only at hSw); go_simp; try (with_reducible rfl))))
  (try simp only [Act.put, List.setIfInBounds_toArray, List.set_cons_zero, List.set_cons_succ])
  (refine wpAnyT_take (i := 8) (oi := ?_) (v := ?_) ?_ (by kernel_rfl) (by kernel_rfl) (by kernel_rfl) (by kernel_rfl) ?_ (Or.inl ⟨?_, ?_⟩) HS.out ?_; rotate_left 2; (focus (simp only [List.getElem?_toArray, List.getElem?_cons_succ, List.getElem?_cons_zero] <;> rfl)); (focus exact (fun _ _ _ h => h)); (focus rfl); (focus (intro w hSw; (try dsimp only at hSw); go_simp; try (with_reducible rfl))))
  (try simp only [Act.put, List.setIfInBounds_toArray, List.set_cons_zero, List.set_cons_succ])
  (refine wpAnyT_take (i := 9) (oi := ?_) (v := ?_) ?_ (by kernel_rfl) (by kernel_rfl) (by kernel_rfl) (by kernel_rfl) ?_ (Or.inl ⟨?_, ?_⟩) HS.out ?_; rotate_left 2; (focus (simp only [List.getElem?_toArray, List.getElem?_cons_succ, List.getElem?_cons_zero] <;> rfl)); (focus exact (fun _ _ _ h => h)); (focus rfl); (focus (intro w hSw; (try dsimp only at hSw); go_simp; try (with_reducible rfl))))
  (try simp only [Act.put, List.setIfInBounds_toArray, List.set_cons_zero, List.set_cons_succ])
  (refine wpAnyT_take (i := 10) (oi := ?_) (v := ?_) ?_ (by kernel_rfl) (by kernel_rfl) (by kernel_rfl) (by kernel_rfl) ?_ (Or.inl ⟨?_, ?_⟩) HS.out ?_; rotate_left 2; (focus (simp only [List.getElem?_toArray, List.getElem?_cons_succ, List.getElem?_cons_zero] <;> rfl)); (focus exact (fun _ _ _ h => h)); (focus rfl); (focus (intro w hSw; (try dsimp only at hSw); go_simp; try (with_reducible rfl))))
  (try simp only [Act.put, List.setIfInBounds_toArray, List.set_cons_zero, List.set_cons_succ])
  (refine wpAnyT_take (i := 11) (oi := ?_) (v := ?_) ?_ (by kernel_rfl) (by kernel_rfl) (by kernel_rfl) (by kernel_rfl) ?_ (Or.inl ⟨?_, ?_⟩) HS.out ?_; rotate_left 2; (focus (simp only [List.getElem?_toArray, List.getElem?_cons_succ, List.getElem?_cons_zero] <;> rfl)); (focus exact (fun _ _ _ h => h)); (focus rfl); (focus (intro w hSw; (try dsimp only at hSw); go_simp; try (with_reducible rfl))))
  (try simp only [Act.put, List.setIfInBounds_toArray, List.set_cons_zero, List.set_cons_succ])
  (refine wpAnyT_take (i := 12) (oi := ?_) (v := ?_) ?_ (by kernel_rfl) (by kernel_rfl) (by kernel_rfl) (by kernel_rfl) ?_ (Or.inl ⟨?_, ?_⟩) HS.out ?_; rotate_left 2; (focus (simp only [List.getElem?_toArray, List.getElem?_cons_succ, List.getElem?_cons_zero] <;> rfl)); (focus exact (fun _ _ _ h => h)); (focus rfl); (focus (intro w hSw; (try dsimp only at hSw); go_simp; try (with_reducible rfl))))
  (try simp only [Act.put, List.setIfInBounds_toArray, List.set_cons_zero, List.set_cons_succ])
  (refine wpAnyT_take (i := 13) (oi := ?_) (v := ?_) ?_ (by kernel_rfl) (by kernel_rfl) (by kernel_rfl) (by kernel_rfl) ?_ (Or.inl ⟨?_, ?_⟩) HS.out ?_; rotate_left 2; (focus (simp only [List.getElem?_toArray, List.getElem?_cons_succ, List.getElem?_cons_zero] <;> rfl)); (focus exact (fun _ _ _ h => h)); (focus rfl); (focus (intro w hSw; (try dsimp only at hSw); go_simp; try (with_reducible rfl))))
  (try simp only [Act.put, List.setIfInBounds_toArray, List.set_cons_zero, List.set_cons_succ])
  (refine wpAnyT_take (i := 14) (oi := ?_) (v := ?_) ?_ (by kernel_rfl) (by kernel_rfl) (by kernel_rfl) (by kernel_rfl) ?_ (Or.inl ⟨?_, ?_⟩) HS.out ?_; rotate_left 2; (focus (simp only [List.getElem?_toArray, List.getElem?_cons_succ, List.getElem?_cons_zero] <;> rfl)); (focus exact (fun _ _ _ h => h)); (focus rfl); (focus (intro w hSw; (try dsimp only at hSw); go_simp; try (with_reducible rfl))))
  (try simp only [Act.put, List.setIfInBounds_toArray, List.set_cons_zero, List.set_cons_succ])
  (refine wpAnyT_one (i := 15) (oi := ?_) ?_ (by kernel_rfl) (fun K hK => ?_); rotate_left; (focus (simp only [List.getElem?_toArray, List.getElem?_cons_succ, List.getElem?_cons_zero] <;> rfl)))
  go_simp
  rw [← HW6.out]
  refine hK.out _ _ HS6.out ?_
  clear hK K HS
  have HS := HS6
  (try simp only [Act.put, List.setIfInBounds_toArray, List.set_cons_zero, List.set_cons_succ])
  (refine wpAnyT_take (i := 16) (oi := ?_) (v := ?_) ?_ (by kernel_rfl) (by kernel_rfl) (by kernel_rfl) (by kernel_rfl) ?_ (Or.inl ⟨?_, ?_⟩) HS.out ?_; rotate_left 2; (focus (simp only [List.getElem?_toArray, List.getElem?_cons_succ, List.getElem?_cons_zero] <;> rfl)); (focus exact (fun _ _ _ h => h)); (focus rfl); (focus (intro w hSw; (try dsimp only at hSw); go_simp; try (with_reducible rfl))))
  (try simp only [Act.put, List.setIfInBounds_toArray, List.set_cons_zero, List.set_cons_succ])
  (refine wpAnyT_take (i := 17) (oi := ?_) (v := ?_) ?_ (by kernel_rfl) (by kernel_rfl) (by kernel_rfl) (by kernel_rfl) ?_ (Or.inl ⟨?_, ?_⟩) HS.out ?_; rotate_left 2; (focus (simp only [List.getElem?_toArray, List.getElem?_cons_succ, List.getElem?_cons_zero] <;> rfl)); (focus exact (fun _ _ _ h => h)); (focus rfl); (focus (intro w hSw; (try dsimp only at hSw); go_simp; try (with_reducible rfl))))
  (try simp only [Act.put, List.setIfInBounds_toArray, List.set_cons_zero, List.set_cons_succ])
  (refine wpAnyT_late (i := 18) (oi := ?_) ?_ (by kernel_rfl) (by kernel_rfl) (fun K hK => ?_); rotate_left; (focus (simp only [List.getElem?_toArray, List.getElem?_cons_succ, List.getElem?_cons_zero] <;> rfl)))
  go_simp
  refine hK.out _ _ ?_
  clear hK K
  refine wpAnyT_done (by kernel_rfl) ?_ _
  rw [← HW8.out]
  have c2 := HM7.out.r2
  rw [HSV.out, ← HN.out] at c2
  have c5 := HM7.out.r5
  have f2 := HM7.out.frozen 2
  have f5 := HM7.out.frozen 5
  have hq4 := HM7.out.lt
  clear c7 f7 hz5 fz5 cx5 e7 g7 cx6 cx2 b0 b1
  go_wp2_with (at_builtin; refine app_full _ elemI32 rfl (.tmp 432) (.tmp 433) rfl sa N (i32s (s.st.drop 0).reverse) rfl (rd_left0 (s := { s with inp := t }) HM7.out HSV.out HN.out HMe.out) (.slice (some ⟨w2.heap.size, 0, none⟩) 1 1) 1 (i32s [x]) rfl HRD.out (one_i32s _) (by omega) (by simp only [maxLen]; omega) (by omega) ?_; intro v3 w3 ho3 hg3; obtain ⟨va, vc, rfl, _⟩ := owns_shape ho3; have hM3 := HM7.out.grown hg3; have c2 := hM3.r2; have f2 := hM3.frozen 2; have c5 := hM3.r5; have f5 := hM3.frozen 5; have hq3 := hM3.lt; have HR := Lib.hid (rdo_end (o := [x]) (a := 0) (iv := (.slice (some ⟨b, off, none⟩) n c)) HM7.out Hm7.out HOB.out (by rw [← HMe.out]; exact ho3) hg3 (by rw [← HN.out]; omega) (by intro z hz; rw [List.mem_singleton.1 hz]; have := HXB.out; unfold I32; unfold Byt at this; omega) (by rw [← HMe.out]; simp; omega) (s.pc + 1) (by omega) (by omega)); clear hM3 ho3 hg3)
  go_ret
  exact ⟨rfl, HR.out⟩
set_option maxHeartbeats 3200000 in
theorem rdo_8 {g nm c : Nat} (h : SM false w B q F cv (.slice (some ⟨g, 0, none⟩) nm c) iv sv kv ov s) (hnm : nm = s.mem.length) (k : Nat) (hk : I32 k) (hp0 : 0 ≤ s.pc) (hp1 : s.pc ≤ 1000000) {x y : Int} {t : List Int} (hst : s.st = y :: x :: t) {p Y : Nat} (hxp : x = (p : Int)) (hyp : y = (Y : Int)) (hPk : p + k ≤ nm) (hYk : Y + k ≤ nm) :
    Calls Try.prog 43 #[.pointer (some ⟨q, 0, none⟩), codeV 8 k] w fun e w' => e = .returned (.bool true) ∧ FuQ false w B q F cv (.slice (some ⟨g, 0, none⟩) nm c) iv { s with st := t, mem := splice s.mem p ((s.mem.drop Y).take k), pc := s.pc + 1 } w' := by
  obtain ⟨sa, sc, hsv, hnc, hcm, hnone⟩ := rd_shape h.ops.rd
  have HK := Lib.hid hk
  unfold I32 at hk
  obtain ⟨hk0, hk1⟩ := hk
  have HST := Lib.hid hst
  have hxi : I32 x := h.fit.st x (by rw [hst]; simp)
  have HXI := Lib.hid hxi
  unfold I32 at hxi
  obtain ⟨hxi0, hxi1⟩ := hxi
  have hyi : I32 y := h.fit.st y (by rw [hst]; simp)
  have HYI := Lib.hid hyi
  unfold I32 at hyi
  obtain ⟨hyi0, hyi1⟩ := hyi
  have H := Lib.hid h
  have hql := h.lt
  have c2 := h.r2
  have c5 := h.r5
  have hsl := h.fit.sl
  have E := Lib.hid (fun W => effect_any 8 ⟨by omega, by omega⟩ W)
  rw [show takesC 8 = 2 from rfl, show leavesC 8 = 0 from rfl] at E
  have hrd : Rd w 1 (.slice sa s.st.length sc) s.st.length (i32s s.st.reverse) := by have := h.ops.rd; rw [hsv] at this; exact this
  obtain ⟨N, hN⟩ : ∃ N, N = s.st.length := ⟨_, rfl⟩
  obtain ⟨M, hM⟩ : ∃ M, N = M + 2 := ⟨N - 2, by rw [hst] at hN; simp at hN; omega⟩
  rw [hsv] at c2
  have hMl : s.st.length - 2 = M := by omega
  rw [← hN] at c2 hsl hnc hrd hMl
  obtain ⟨D, hD⟩ : ∃ D : Option Addr, Option.map (fun x => x.add M) sa = D := ⟨_, rfl⟩
  have hx := rd_from hrd (lo := M) (by omega) (show (if sc = M then sa else Option.map (fun x => x.add M) sa) = D from by rw [if_neg (by omega)]; exact hD)
  have hMe : M = s.st.length - 2 := by omega
  have hxl : (i32s s.st.reverse).drop M = i32s (s.st.take 2).reverse := by rw [hMe]; exact take_rev _ _ (by omega)
  rw [hxl, show N - M = 2 by omega] at hx
  have HX := Lib.hid hx
  have HN := Lib.hid hN
  have HSV := Lib.hid hsv
  have HMe := Lib.hid hMe
  have eN : IntKind.i64.wrap ((N : Int) - 2) = M := by rw [show (N : Int) - 2 = M by omega]; exact IntWalk.i64_in _ (by omega)
  have eNM : N - M = 2 := by omega
  have g0 : decide ((N : Int) < 2) = false := by simp; omega
  have g0' : ¬ (N : Int) < 2 := by omega
  have g1 : ¬ (1000 : Int) < (M : Int) := by omega
  have g4 : decide ((1000 : Int) < (M : Int)) = false := by simp; omega
  have m0 : (0 : Int) ≤ (M : Int) := by omega
  have m1 : (M : Int) ≤ (N : Int) := by omega
  have m2 : M ≤ N := by omega
  clear hst h hN hsv hx hxl hrd hMe hMl hM
  have HNM := Lib.hid hnm
  have hml := H.out.fit.ml
  obtain ⟨_, c', hv, hcn, hcm2, _⟩ := owns_shape H.out.mem
  injection hv with hva hvn hcc
  subst hva
  clear hvn
  subst hcc
  rw [← hnm] at hcn hml
  have hy0 : (0 : Int) ≤ y := by omega
  have hy1 : y ≤ y + (k : Int) := by omega
  have hy2 : y + (k : Int) ≤ (c : Int) := by omega
  have hy3 : y.toNat = Y := by omega
  have hy4 : (y + (k : Int)).toNat = Y + k := by omega
  have hy5 : IntKind.i64.wrap y = y := IntWalk.i64_in _ (by omega)
  have hy6 : IntKind.i64.wrap (y + (k : Int)) = y + (k : Int) := IntWalk.i64_in _ (by omega)
  have hy7 : Y + k - Y = k := by omega
  have hx2 : (0 : Int) ≤ x := by omega
  have hx3 : x ≤ (nm : Int) := by omega
  have hx4 : x ≤ (c : Int) := by omega
  have hx5 : x.toNat = p := by omega
  have hx6 : IntKind.i64.wrap x = x := IntWalk.i64_in _ (by omega)
  have HKI := Lib.hid (show I32 (k : Int) from ⟨hk0, hk1⟩)
  have HOK := Lib.hid (show decide (okAt s x k) = true from decide_eq_true ⟨by omega, by omega, by omega⟩)
  have HOK2 := Lib.hid (show decide (okAt s y k) = true from decide_eq_true ⟨by omega, by omega, by omega⟩)
  obtain ⟨DD, hDD⟩ : ∃ D : Nat → Option Addr, ∀ i, (if c = i then (some ⟨g, 0, none⟩ : Option Addr) else some ⟨g, i, none⟩) = D i := ⟨_, fun _ => rfl⟩
  have HDD := Lib.hid hDD
  have HYK := Lib.hid hYk
  have HPK := Lib.hid hPk
  have hgq := (H.out.fm g rfl).2
  have HGQ := Lib.hid hgq
  clear hnm hxp hyp hgq
  simp only [codeV]
  go_enter Try.func43, Try.ntmps43
  go_wp2_with fail
  refine (E.out _).mono ?_; rintro e w1 ⟨rfl, hw1⟩
  have hM1 : SM false w1 B q F cv (.slice (some ⟨g, 0, none⟩) nm c) iv sv kv ov s := by rw [← hw1]; exact H.out.alloc _
  have hm1 : Mv w F F w1 := by rw [← hw1]; exact (Mv.refl w F).alloc _
  have b0 : w1.cell? ⟨w.heap.size, 0, none⟩ = some (.int .i64 8) := by rw [← hw1]; exact World.cell?_alloc_new w _ _ _
  have b1 : w1.cell? ⟨w.heap.size, 1, none⟩ = some (.int .i32 k) := by rw [← hw1]; exact World.cell?_alloc_new w _ _ _
  have c2' : w1.cell? ⟨q, 2, none⟩ = some (.slice sa N sc) := by rw [← hw1]; exact alloc_keep c2
  have hx1 : Rd w1 1 (.slice D 2 (sc - M)) 2 (i32s (s.st.take 2).reverse) := HX.out.below (B := w.heap.size) (by rw [← hw1]; exact (Below.refl _ _).alloc (Nat.le_refl _) _) (Nat.le_refl _)
  have HX1 := Lib.hid hx1
  have HM1 := Lib.hid hM1
  have Hm1 := Lib.hid hm1
  have HB0 := Lib.hid b0
  have HB1 := Lib.hid b1
  have hl1 := World.block_lt_of_cell? w1 _ b0
  have hq1 := HM1.out.lt
  clear hw1 hM1 hm1 c2 c5 hx1
  go_wp2_with (first | (at_builtin; refine app_own _ elemI32 rfl (.const (.slice none 0 0)) (.tmp 46) rfl w1.heap.size (.slice none 0 0) 0 [] rfl (World.ownsRow_nil _ _ _ _) (.slice D 2 (sc - M)) 2 (i32s (s.st.take 2).reverse) rfl HX1.out (one_i32s _) (by simp [maxLen]) (by simp) (Nat.le_refl _) ?_; intro v8 w2 ho8 hg8; simp only [Nat.zero_add, List.nil_append] at ho8; obtain ⟨xg, xc, rfl, hxc, hxg, hcells⟩ := st_owned ho8 (by omega) (by rw [HST.out]; rfl); have hx0 : w2.cell? ⟨xg, 0, none⟩ = some (.int .i32 x) := (by have := hcells 0 (by omega); rw [HST.out] at this; simpa using this); have hx1 : w2.cell? ⟨xg, 1, none⟩ = some (.int .i32 y) := (by have := hcells 1 (by omega); rw [HST.out] at this; simpa using this); have hlx := World.block_lt_of_cell? _ _ hx0; clear hcells; have hM2 := HM1.out.grown hg8; have hm2 := Hm1.out.grown hg8; have b0 := hg8.cell HB0.out (by simp [Value.ownBlock]); have b1 := hg8.cell HB1.out (by simp [Value.ownBlock]); have c2 := hM2.r2; rw [HSV.out, ← HN.out] at c2; have c5 := hM2.r5; have f2 := hM2.frozen 2; have f5 := hM2.frozen 5; have hq2 := hM2.lt; have hl2 := World.block_lt_of_cell? _ _ b0; have c1 := hM2.r1; have HM2 := Lib.hid hM2; have Hm2 := Lib.hid hm2; have HO8 := Lib.hid ho8; clear hM2 hm2 ho8 hg8) | fail)
  refine (rplace_any HM2.out x (k : Int) HXI.out HKI.out).mono ?_; rintro e wt ⟨rfl, rfl⟩
  rw [HOK.out]
  go_wp2_with fail
  refine (rplace_any HM2.out y (k : Int) HYI.out HKI.out).mono ?_; rintro e wt ⟨rfl, rfl⟩
  rw [HOK2.out]
  go_wp2_with fail
  have HS := Lib.hid (show (fun W => W.cell? ⟨q, 1, none⟩ = some (.slice (some ⟨g, 0, none⟩) nm c) ∧ W.cell? ⟨xg, 1, none⟩ = some (.int .i32 y)) wt.drew from ⟨c1, hx1⟩)
  have HSRC := Lib.hid (show Rd wt.drew 1 (.slice (DD Y) k (c - Y)) k (i32s ((s.mem.drop Y).take k)) from by
    have h0 : Rd wt.drew 1 (.slice (some ⟨g, 0, none⟩) nm c) nm (i32s s.mem) := by have := HM2.out.drew.mem; rw [← HNM.out] at this; exact rd_of_owns this
    have hYn : Y ≤ nm := by have := HYK.out; omega
    have h1 := rd_from (lo := Y) (D := DD Y) h0 hYn (by rw [← HDD.out]; split <;> simp [Addr.add_lit])
    have h2 := Rd.take k (c - Y) (by have := HYK.out; omega) (by have := HYK.out; omega) (Nat.le_refl _) h1
    rw [Nat.mul_one] at h2
    have e : i32s ((s.mem.drop Y).take k) = ((i32s s.mem).drop Y).take k := by simp [i32s, List.map_take, List.map_drop]
    rw [e]; exact h2)
  refine wp_region_till 15 (fun W => W.cell? ⟨q, 1, none⟩ = some (.slice (some ⟨g, 0, none⟩) nm c) ∧ W.cell? ⟨xg, 1, none⟩ = some (.int .i32 y)) (by kernel_rfl) ?_
  (refine wpAnyT_take (i := 0) (oi := ?_) (v := ?_) ?_ (by kernel_rfl) (by kernel_rfl) (by kernel_rfl) (by kernel_rfl) ?_ (Or.inl ⟨?_, ?_⟩) HS.out ?_; rotate_left 2; (focus (simp only [List.getElem?_toArray, List.getElem?_cons_succ, List.getElem?_cons_zero] <;> rfl)); (focus exact (fun _ _ _ h => h)); (focus rfl); (focus (intro w hSw; (try dsimp only at hSw); go_simp; try (with_reducible rfl))))
  (try simp only [Act.put, List.setIfInBounds_toArray, List.set_cons_zero, List.set_cons_succ])
  (refine wpAnyT_take (i := 1) (oi := ?_) (v := ?_) ?_ (by kernel_rfl) (by kernel_rfl) (by kernel_rfl) (by kernel_rfl) ?_ (Or.inl ⟨?_, ?_⟩) HS.out ?_; rotate_left 2; (focus (simp only [List.getElem?_toArray, List.getElem?_cons_succ, List.getElem?_cons_zero] <;> rfl)); (focus exact (fun _ _ _ h => h)); (focus rfl); (focus (intro w hSw; (try dsimp only at hSw); go_simp; try (with_reducible rfl))))
  (try simp only [Act.put, List.setIfInBounds_toArray, List.set_cons_zero, List.set_cons_succ])
  (refine wpAnyT_take (i := 2) (oi := ?_) (v := ?_) ?_ (by kernel_rfl) (by kernel_rfl) (by kernel_rfl) (by kernel_rfl) ?_ (Or.inl ⟨?_, ?_⟩) HS.out ?_; rotate_left 2; (focus (simp only [List.getElem?_toArray, List.getElem?_cons_succ, List.getElem?_cons_zero] <;> rfl)); (focus exact (fun _ _ _ h => h)); (focus rfl); (focus (intro w hSw; (try dsimp only at hSw); go_simp; try (with_reducible rfl))))
  (try simp only [Act.put, List.setIfInBounds_toArray, List.set_cons_zero, List.set_cons_succ])
  (refine wpAnyT_take (i := 3) (oi := ?_) (v := ?_) ?_ (by kernel_rfl) (by kernel_rfl) (by kernel_rfl) (by kernel_rfl) ?_ (Or.inl ⟨?_, ?_⟩) HS.out ?_; rotate_left 2; (focus (simp only [List.getElem?_toArray, List.getElem?_cons_succ, List.getElem?_cons_zero] <;> rfl)); (focus exact (fun _ _ _ h => h)); (focus rfl); (focus (intro w hSw; (try dsimp only at hSw); go_simp; try (with_reducible rfl))))
  (try simp only [Act.put, List.setIfInBounds_toArray, List.set_cons_zero, List.set_cons_succ])
  (refine wpAnyT_take (i := 4) (oi := ?_) (v := ?_) ?_ (by kernel_rfl) (by kernel_rfl) (by kernel_rfl) (by kernel_rfl) ?_ (Or.inl ⟨?_, ?_⟩) HS.out ?_; rotate_left 2; (focus (simp only [List.getElem?_toArray, List.getElem?_cons_succ, List.getElem?_cons_zero] <;> rfl)); (focus exact (fun _ _ _ h => h)); (focus rfl); (focus (intro w hSw; (try dsimp only at hSw); go_simp; try (with_reducible rfl))))
  (try simp only [Act.put, List.setIfInBounds_toArray, List.set_cons_zero, List.set_cons_succ])
  (refine wpAnyT_take (i := 5) (oi := ?_) (v := ?_) ?_ (by kernel_rfl) (by kernel_rfl) (by kernel_rfl) (by kernel_rfl) ?_ (Or.inl ⟨?_, ?_⟩) HS.out ?_; rotate_left 2; (focus (simp only [List.getElem?_toArray, List.getElem?_cons_succ, List.getElem?_cons_zero] <;> rfl)); (focus exact (fun _ _ _ h => h)); (focus rfl); (focus (intro w hSw; (try dsimp only at hSw); go_simp; try (with_reducible rfl))))
  (try simp only [Act.put, List.setIfInBounds_toArray, List.set_cons_zero, List.set_cons_succ])
  (refine wpAnyT_take (i := 6) (oi := ?_) (v := ?_) ?_ (by kernel_rfl) (by kernel_rfl) (by kernel_rfl) (by kernel_rfl) ?_ (Or.inl ⟨?_, ?_⟩) HS.out ?_; rotate_left 2; (focus (simp only [List.getElem?_toArray, List.getElem?_cons_succ, List.getElem?_cons_zero] <;> rfl)); (focus exact (fun _ _ _ h => h)); (focus rfl); (focus (intro w hSw; (try dsimp only at hSw); go_simp; try (with_reducible rfl))))
  (try simp only [Act.put, List.setIfInBounds_toArray, List.set_cons_zero, List.set_cons_succ])
  (refine wpAnyT_take (i := 7) (oi := ?_) (v := ?_) ?_ (by kernel_rfl) (by kernel_rfl) (by kernel_rfl) (by kernel_rfl) ?_ (Or.inl ⟨?_, ?_⟩) HS.out ?_; rotate_left 2; (focus (simp only [List.getElem?_toArray, List.getElem?_cons_succ, List.getElem?_cons_zero] <;> rfl)); (focus exact (fun _ _ _ h => h)); (focus rfl); (focus (intro w hSw; (try dsimp only at hSw); go_simp; try (with_reducible rfl))))
  (try simp only [Act.put, List.setIfInBounds_toArray, List.set_cons_zero, List.set_cons_succ])
  (refine wpAnyT_take (i := 8) (oi := ?_) (v := ?_) ?_ (by kernel_rfl) (by kernel_rfl) (by kernel_rfl) (by kernel_rfl) ?_ (Or.inl ⟨?_, ?_⟩) HS.out ?_; rotate_left 2; (focus (simp only [List.getElem?_toArray, List.getElem?_cons_succ, List.getElem?_cons_zero] <;> rfl)); (focus exact (fun _ _ _ h => h)); (focus rfl); (focus (intro w hSw; (try dsimp only at hSw); go_simp; try (with_reducible rfl))))
  (try simp only [Act.put, List.setIfInBounds_toArray, List.set_cons_zero, List.set_cons_succ])
  (refine wpAnyT_take (i := 9) (oi := ?_) (v := ?_) ?_ (by kernel_rfl) (by kernel_rfl) (by kernel_rfl) (by kernel_rfl) ?_ (Or.inl ⟨?_, ?_⟩) HS.out ?_; rotate_left 2; (focus (simp only [List.getElem?_toArray, List.getElem?_cons_succ, List.getElem?_cons_zero] <;> rfl)); (focus exact (fun _ _ _ h => h)); (focus rfl); (focus (intro w hSw; (try dsimp only at hSw); go_simp; try (with_reducible rfl))))
  (try simp only [Act.put, List.setIfInBounds_toArray, List.set_cons_zero, List.set_cons_succ])
  (refine wpAnyT_take (i := 10) (oi := ?_) (v := ?_) ?_ (by kernel_rfl) (by kernel_rfl) (by kernel_rfl) (by kernel_rfl) ?_ (Or.inl ⟨?_, ?_⟩) HS.out ?_; rotate_left 2; (focus (simp only [List.getElem?_toArray, List.getElem?_cons_succ, List.getElem?_cons_zero] <;> rfl)); (focus exact (fun _ _ _ h => h)); (focus rfl); (focus (intro w hSw; (try dsimp only at hSw); go_simp; try (with_reducible rfl))))
  (try simp only [Act.put, List.setIfInBounds_toArray, List.set_cons_zero, List.set_cons_succ])
  (refine wpAnyT_take (i := 11) (oi := ?_) (v := ?_) ?_ (by kernel_rfl) (by kernel_rfl) (by kernel_rfl) (by kernel_rfl) ?_ (Or.inl ⟨?_, ?_⟩) HS.out ?_; rotate_left 2; (focus (simp only [List.getElem?_toArray, List.getElem?_cons_succ, List.getElem?_cons_zero] <;> rfl)); (focus exact (fun _ _ _ h => h)); (focus rfl); (focus (intro w hSw; (try dsimp only at hSw); go_simp; try (with_reducible rfl))))
  (try simp only [Act.put, List.setIfInBounds_toArray, List.set_cons_zero, List.set_cons_succ])
  (refine wpAnyT_take (i := 12) (oi := ?_) (v := ?_) ?_ (by kernel_rfl) (by kernel_rfl) (by kernel_rfl) (by kernel_rfl) ?_ (Or.inl ⟨?_, ?_⟩) HS.out ?_; rotate_left 2; (focus (simp only [List.getElem?_toArray, List.getElem?_cons_succ, List.getElem?_cons_zero] <;> rfl)); (focus exact (fun _ _ _ h => h)); (focus rfl); (focus (intro w hSw; (try dsimp only at hSw); go_simp; try (with_reducible rfl))))
  (try simp only [Act.put, List.setIfInBounds_toArray, List.set_cons_zero, List.set_cons_succ])
  (refine wpAnyT_take (i := 13) (oi := ?_) (v := ?_) ?_ (by kernel_rfl) (by kernel_rfl) (by kernel_rfl) (by kernel_rfl) ?_ (Or.inl ⟨?_, ?_⟩) HS.out ?_; rotate_left 2; (focus (simp only [List.getElem?_toArray, List.getElem?_cons_succ, List.getElem?_cons_zero] <;> rfl)); (focus exact (fun _ _ _ h => h)); (focus rfl); (focus (intro w hSw; (try dsimp only at hSw); go_simp; try (with_reducible rfl))))
  (try simp only [Act.put, List.setIfInBounds_toArray, List.set_cons_zero, List.set_cons_succ])
  (refine wpAnyT_take (i := 14) (oi := ?_) (v := ?_) ?_ (by kernel_rfl) (by kernel_rfl) (by kernel_rfl) (by kernel_rfl) ?_ (Or.inl ⟨?_, ?_⟩) HS.out ?_; rotate_left 2; (focus (simp only [List.getElem?_toArray, List.getElem?_cons_succ, List.getElem?_cons_zero] <;> rfl)); (focus exact (fun _ _ _ h => h)); (focus rfl); (focus (intro w hSw; (try dsimp only at hSw); go_simp; try (with_reducible rfl))))
  (try simp only [Act.put, List.setIfInBounds_toArray, List.set_cons_zero, List.set_cons_succ])
  refine wpAnyT_tail 15 _ (by kernel_rfl) (by rfl) (by simp) (by simp) (by kernel_rfl) rfl ?_
  refine app_own _ elemI32 rfl (.const (.slice none 0 0)) (.tmp 199) rfl wt.heap.size (.slice none 0 0) 0 [] rfl (World.ownsRow_nil _ _ _ _) (.slice (DD Y) k (c - Y)) k (i32s ((s.mem.drop Y).take k)) (by simp [Act.eval]) HSRC.out (one_i32s _) (by simp only [maxLen]; omega) (by omega) (Nat.le_refl _) ?_
  intro v12 w4 ho12 hg12
  simp only [Nat.zero_add, List.nil_append] at ho12
  obtain ⟨va, vc, rfl, hvc, hvm, _⟩ := owns_shape ho12
  have hM4 := HM2.out.drew.grown hg12
  have hm4 := (Hm2.out.drewN 1).grown hg12
  have hx0 := hg12.cell (show wt.drew.cell? ⟨xg, 0, none⟩ = some (.int .i32 x) from hx0) (by simp [Value.ownBlock])
  have c1 := hM4.r1
  have hq4 := hM4.lt
  have HM4 := Lib.hid hM4
  have Hm4 := Lib.hid hm4
  have HO12 := Lib.hid ho12
  clear hM4 hm4 ho12 hg12
  go_wp2_with fail
  have HS := Lib.hid (show (fun W => W.cell? ⟨q, 1, none⟩ = some (.slice (some ⟨g, 0, none⟩) nm c) ∧ W.cell? ⟨xg, 0, none⟩ = some (.int .i32 x)) w4.drew from ⟨c1, hx0⟩)
  have hmem : w4.drew.ownsRow B 21 1 (.slice (some ⟨g, 0, none⟩) nm c) nm (i32s s.mem) := by have := HM4.out.drew.mem; rw [← HNM.out] at this; exact this
  obtain ⟨cur, hg, hcl, hnew⟩ := owns_splice hmem
  have HG := Lib.hid hg
  have HNEW := Lib.hid hnew
  have hcs : (i32s ((s.mem.drop Y).take k)).length = k := by have := HYK.out; rw [i32s_length, List.length_take, List.length_drop, ← HNM.out]; omega
  have HCS := Lib.hid hcs
  have HPOS := Lib.hid (show 0 < (i32s ((s.mem.drop Y).take k)).length → DD p = some ⟨g, p, none⟩ ∧ ∃ ad, va = some ad ∧ ∀ j v, (i32s ((s.mem.drop Y).take k))[j]? = some v → w4.drew.cell? (ad.add j) = some v from fun h0 => by
    rw [hcs] at h0
    have h1 := HPK.out
    refine ⟨by rw [← HDD.out, if_neg (by omega)], ?_⟩
    obtain ⟨vg, vc', he, _, _, _, _⟩ := owns_some HO12.out h0
    injection he with he _ _
    refine ⟨⟨vg, 0, none⟩, he, fun j v hv => ?_⟩
    have ho := HO12.out
    rw [he] at ho
    have := ho.cells (g := vg) rfl j v hv
    exact this)
  have HFL := Lib.hid (show p + (i32s ((s.mem.drop Y).take k)).length ≤ cur.length from by have := HPK.out; rw [hcs]; omega)
  clear hmem hg hcl hnew hcs
  refine wp_region_till 10 (fun W => W.cell? ⟨q, 1, none⟩ = some (.slice (some ⟨g, 0, none⟩) nm c) ∧ W.cell? ⟨xg, 0, none⟩ = some (.int .i32 x)) (by kernel_rfl) ?_
  (refine wpAnyT_take (i := 0) (oi := ?_) (v := ?_) ?_ (by kernel_rfl) (by kernel_rfl) (by kernel_rfl) (by kernel_rfl) ?_ (Or.inl ⟨?_, ?_⟩) HS.out ?_; rotate_left 2; (focus (simp only [List.getElem?_toArray, List.getElem?_cons_succ, List.getElem?_cons_zero] <;> rfl)); (focus exact (fun _ _ _ h => h)); (focus rfl); (focus (intro w hSw; (try dsimp only at hSw); go_simp; try (with_reducible rfl))))
  (try simp only [Act.put, List.setIfInBounds_toArray, List.set_cons_zero, List.set_cons_succ])
  (refine wpAnyT_take (i := 1) (oi := ?_) (v := ?_) ?_ (by kernel_rfl) (by kernel_rfl) (by kernel_rfl) (by kernel_rfl) ?_ (Or.inl ⟨?_, ?_⟩) HS.out ?_; rotate_left 2; (focus (simp only [List.getElem?_toArray, List.getElem?_cons_succ, List.getElem?_cons_zero] <;> rfl)); (focus exact (fun _ _ _ h => h)); (focus rfl); (focus (intro w hSw; (try dsimp only at hSw); go_simp; try (with_reducible rfl))))
  (try simp only [Act.put, List.setIfInBounds_toArray, List.set_cons_zero, List.set_cons_succ])
  (refine wpAnyT_take (i := 2) (oi := ?_) (v := ?_) ?_ (by kernel_rfl) (by kernel_rfl) (by kernel_rfl) (by kernel_rfl) ?_ (Or.inl ⟨?_, ?_⟩) HS.out ?_; rotate_left 2; (focus (simp only [List.getElem?_toArray, List.getElem?_cons_succ, List.getElem?_cons_zero] <;> rfl)); (focus exact (fun _ _ _ h => h)); (focus rfl); (focus (intro w hSw; (try dsimp only at hSw); go_simp; try (with_reducible rfl))))
  (try simp only [Act.put, List.setIfInBounds_toArray, List.set_cons_zero, List.set_cons_succ])
  (refine wpAnyT_take (i := 3) (oi := ?_) (v := ?_) ?_ (by kernel_rfl) (by kernel_rfl) (by kernel_rfl) (by kernel_rfl) ?_ (Or.inl ⟨?_, ?_⟩) HS.out ?_; rotate_left 2; (focus (simp only [List.getElem?_toArray, List.getElem?_cons_succ, List.getElem?_cons_zero] <;> rfl)); (focus exact (fun _ _ _ h => h)); (focus rfl); (focus (intro w hSw; (try dsimp only at hSw); go_simp; try (with_reducible rfl))))
  (try simp only [Act.put, List.setIfInBounds_toArray, List.set_cons_zero, List.set_cons_succ])
  (refine wpAnyT_take (i := 4) (oi := ?_) (v := ?_) ?_ (by kernel_rfl) (by kernel_rfl) (by kernel_rfl) (by kernel_rfl) ?_ (Or.inl ⟨?_, ?_⟩) HS.out ?_; rotate_left 2; (focus (simp only [List.getElem?_toArray, List.getElem?_cons_succ, List.getElem?_cons_zero] <;> rfl)); (focus exact (fun _ _ _ h => h)); (focus rfl); (focus (intro w hSw; (try dsimp only at hSw); go_simp; try (with_reducible rfl))))
  (try simp only [Act.put, List.setIfInBounds_toArray, List.set_cons_zero, List.set_cons_succ])
  (refine wpAnyT_take (i := 5) (oi := ?_) (v := ?_) ?_ (by kernel_rfl) (by kernel_rfl) (by kernel_rfl) (by kernel_rfl) ?_ (Or.inl ⟨?_, ?_⟩) HS.out ?_; rotate_left 2; (focus (simp only [List.getElem?_toArray, List.getElem?_cons_succ, List.getElem?_cons_zero] <;> rfl)); (focus exact (fun _ _ _ h => h)); (focus rfl); (focus (intro w hSw; (try dsimp only at hSw); go_simp; try (with_reducible rfl))))
  (try simp only [Act.put, List.setIfInBounds_toArray, List.set_cons_zero, List.set_cons_succ])
  (refine wpAnyT_take (i := 6) (oi := ?_) (v := ?_) ?_ (by kernel_rfl) (by kernel_rfl) (by kernel_rfl) (by kernel_rfl) ?_ (Or.inl ⟨?_, ?_⟩) HS.out ?_; rotate_left 2; (focus (simp only [List.getElem?_toArray, List.getElem?_cons_succ, List.getElem?_cons_zero] <;> rfl)); (focus exact (fun _ _ _ h => h)); (focus rfl); (focus (intro w hSw; (try dsimp only at hSw); go_simp; try (with_reducible rfl))))
  (try simp only [Act.put, List.setIfInBounds_toArray, List.set_cons_zero, List.set_cons_succ])
  (refine wpAnyT_take (i := 7) (oi := ?_) (v := ?_) ?_ (by kernel_rfl) (by kernel_rfl) (by kernel_rfl) (by kernel_rfl) ?_ (Or.inl ⟨?_, ?_⟩) HS.out ?_; rotate_left 2; (focus (simp only [List.getElem?_toArray, List.getElem?_cons_succ, List.getElem?_cons_zero] <;> rfl)); (focus exact (fun _ _ _ h => h)); (focus rfl); (focus (intro w hSw; (try dsimp only at hSw); go_simp; try (with_reducible rfl))))
  (try simp only [Act.put, List.setIfInBounds_toArray, List.set_cons_zero, List.set_cons_succ])
  (refine wpAnyT_take (i := 8) (oi := ?_) (v := ?_) ?_ (by kernel_rfl) (by kernel_rfl) (by kernel_rfl) (by kernel_rfl) ?_ (Or.inl ⟨?_, ?_⟩) HS.out ?_; rotate_left 2; (focus (simp only [List.getElem?_toArray, List.getElem?_cons_succ, List.getElem?_cons_zero] <;> rfl)); (focus exact (fun _ _ _ h => h)); (focus rfl); (focus (intro w hSw; (try dsimp only at hSw); go_simp; try (with_reducible rfl))))
  (try simp only [Act.put, List.setIfInBounds_toArray, List.set_cons_zero, List.set_cons_succ])
  (refine wpAnyT_take (i := 9) (oi := ?_) (v := ?_) ?_ (by kernel_rfl) (by kernel_rfl) (by kernel_rfl) (by kernel_rfl) ?_ (Or.inl ⟨?_, ?_⟩) HS.out ?_; rotate_left 2; (focus (simp only [List.getElem?_toArray, List.getElem?_cons_succ, List.getElem?_cons_zero] <;> rfl)); (focus exact (fun _ _ _ h => h)); (focus rfl); (focus (intro w hSw; (try dsimp only at hSw); go_simp; try (with_reducible rfl))))
  (try simp only [Act.put, List.setIfInBounds_toArray, List.set_cons_zero, List.set_cons_succ])
  (refine wpAnyT_late (i := 10) (oi := ?_) ?_ (by kernel_rfl) (by kernel_rfl) (fun K hK => ?_); rotate_left; (focus (simp only [List.getElem?_toArray, List.getElem?_cons_succ, List.getElem?_cons_zero] <;> rfl)))
  refine step_copy_fr rfl (.tmp 209) (.tmp 210) 33 33 rfl 21 Try.underlying33 (by kernel_rfl) (DD p) va (nm - p) (c - p) k vc (by simp [Act.eval]) (by simp [Act.eval]) g p cur 21 HG.out (i32s ((s.mem.drop Y).take k)) (by rw [HCS.out]; have := HPK.out; exact (Nat.min_eq_left (by omega)).symm) HPOS.out HFL.out (one_i32s _) ?_
  intro w5 hb5 hf5
  refine hK.out _ _ ?_
  clear hK K
  refine wpAnyT_done (by kernel_rfl) ?_ _
  have hrow := HNEW.out w5 p (i32s ((s.mem.drop Y).take k)) hb5.out (by have := HPK.out; rw [HCS.out]; omega)
  rw [splice_i32s] at hrow
  have hlen : (splice s.mem p ((s.mem.drop Y).take k)).length = s.mem.length := length_splice _ _ _ (by have := HCS.out; have h2 := HPK.out; rw [i32s_length] at this; rw [this, ← HNM.out]; omega)
  have hall : ∀ z ∈ splice s.mem p ((s.mem.drop Y).take k), I32 z := fun z hz => by
    unfold splice at hz
    rcases List.mem_append.1 hz with hz | hz
    · exact H.out.fit.mem z (List.mem_of_mem_take hz)
    rcases List.mem_append.1 hz with hz | hz
    · exact H.out.fit.mem z (List.mem_of_mem_drop (List.mem_of_mem_take hz))
    · exact H.out.fit.mem z (List.mem_of_mem_drop hz)
  have hM5 := HM4.out.drew.newM (w1 := w5) (hf5.out.mono fun j _ hj => by rw [hj]; rfl) (l := splice s.mem p ((s.mem.drop Y).take k)) (by rw [hlen, ← HNM.out]; exact hrow) (HM4.out.fit.memo hall hlen)
  have hm5 : Mv w F F w5 := (Hm4.out.drewN 1).trans ⟨hf5.out.mono fun j _ hj => by rw [hj]; exact (HM4.out.fm g rfl).1, fun _ h => .inl h⟩
  have c2 := hM5.r2
  rw [HSV.out, ← HN.out] at c2
  have c5 := hM5.r5
  have f2 := hM5.frozen 2
  have f5 := hM5.frozen 5
  have hq5 := hM5.lt
  have HM5 := Lib.hid hM5
  have Hm5 := Lib.hid hm5
  clear hrow hlen hall hM5 hm5 hb5 hf5 c1 hx0 hx1 b0 b1 hDD
  go_wp2_with (at_builtin; refine app_nothing elemI32 rfl (.tmp 432) (.tmp 433) rfl sa M rfl rfl (fun e => by have := hnone e; omega) ?_; have HR := Lib.hid (rdo_end0 (a := 2) (iv := iv) (rd_sv HM5.out HSV.out) Hm5.out rfl (by rw [← HN.out]; omega) (s.pc + 1) (by omega) (by omega)))
  go_ret
  refine ⟨rfl, ?_⟩
  have hr := HR.out
  rw [← HMe.out] at hr
  have e : s.st.drop 2 = t := by rw [HST.out]; rfl
  rw [e] at hr
  exact hr
end
end Go.Proofs.Ytgkdphnhfjjepaa

/- The reference's do: the operations whose regions are walked by hand (printed by gen_stk32.py). -/
namespace Go.Proofs.Ytgkdphnhfjjepaa
open Go.RowKit Go.Waf
set_option maxRecDepth 100000
set_option linter.unusedVariables false
set_option linter.unusedSimpArgs false

section
variable {w : World} {B q : Nat} {F : Nat → Prop} {cv mv iv sv kv ov : Value} {s : SSt}
set_option maxHeartbeats 3200000 in
theorem rdo_28a (h : SM false w B q F cv mv iv sv kv ov s) (k : Int) (hk : I32 k) (hp0 : 0 ≤ s.pc) (hp1 : s.pc ≤ 1000000) (hkk : k < 0) :
    Calls Try.prog 43 #[.pointer (some ⟨q, 0, none⟩), codeV 28 k] w fun e w' => e = .returned (.bool false) ∧ FuQ false w B q F cv mv iv s w' := by
  obtain ⟨sa, sc, hsv, hnc, hcm, hnone⟩ := rd_shape h.ops.rd
  have HK := Lib.hid hk
  unfold I32 at hk
  obtain ⟨hk0, hk1⟩ := hk
  have H := Lib.hid h
  have hql := h.lt
  have c2 := h.r2
  have c5 := h.r5
  have hsl := h.fit.sl
  have E := Lib.hid (fun W => effect_any 28 ⟨by omega, by omega⟩ W)
  rw [show takesC 28 = 0 from rfl, show leavesC 28 = 0 from rfl] at E
  have hrd : Rd w 1 (.slice sa s.st.length sc) s.st.length (i32s s.st.reverse) := by have := h.ops.rd; rw [hsv] at this; exact this
  obtain ⟨N, hN⟩ : ∃ N, N = s.st.length := ⟨_, rfl⟩
  obtain ⟨M, hM⟩ : ∃ M, N = M + 0 := ⟨N - 0, by skip; omega⟩
  rw [hsv] at c2
  have hMl : s.st.length - 0 = M := by omega
  have hNM : N = M := by omega
  subst hNM
  rw [← hN] at c2 hsl hnc hrd hMl
  obtain ⟨D, hD⟩ : ∃ D : Option Addr, (if sc = N then sa else Option.map (fun x => x.add N) sa) = D := ⟨_, rfl⟩
  have hx := rd_from hrd (lo := N) (by omega) hD
  have hMe : N = s.st.length - 0 := by omega
  have hxl : (i32s s.st.reverse).drop N = i32s (s.st.take 0).reverse := by rw [hMe]; exact take_rev _ _ (by omega)
  rw [hxl, show N - N = 0 by omega] at hx
  have HX := Lib.hid hx
  have HN := Lib.hid hN
  have HSV := Lib.hid hsv
  have HMe := Lib.hid hMe
  have g0 : decide ((N : Int) < 0) = false := by simp
  have g1 : ¬ (1000 : Int) < (N : Int) := by omega
  have g4 : decide ((1000 : Int) < (N : Int)) = false := by simp; omega
  have m0 : (0 : Int) ≤ (N : Int) := by omega
  have m1 : (N : Int) ≤ (N : Int) := by omega
  have m2 : N ≤ N := by omega
  clear h hN hsv hx hxl hrd hMe hMl hM
  have hk3 : decide (k < 0) = true := by simp; omega
  simp only [codeV]
  go_enter Try.func43, Try.ntmps43
  go_wp2_with fail
  refine (E.out _).mono ?_; rintro e w1 ⟨rfl, hw1⟩
  have hM1 : SM false w1 B q F cv mv iv sv kv ov s := by rw [← hw1]; exact H.out.alloc _
  have hm1 : Mv w F F w1 := by rw [← hw1]; exact (Mv.refl w F).alloc _
  have b0 : w1.cell? ⟨w.heap.size, 0, none⟩ = some (.int .i64 28) := by rw [← hw1]; exact World.cell?_alloc_new w _ _ _
  have b1 : w1.cell? ⟨w.heap.size, 1, none⟩ = some (.int .i32 k) := by rw [← hw1]; exact World.cell?_alloc_new w _ _ _
  have c2' : w1.cell? ⟨q, 2, none⟩ = some (.slice sa N sc) := by rw [← hw1]; exact alloc_keep c2
  have hx1 : Rd w1 1 (.slice D 0 (sc - N)) 0 (i32s (s.st.take 0).reverse) := HX.out.below (B := w.heap.size) (by rw [← hw1]; exact (Below.refl _ _).alloc (Nat.le_refl _) _) (Nat.le_refl _)
  have HX1 := Lib.hid hx1
  have HM1 := Lib.hid hM1
  have Hm1 := Lib.hid hm1
  have HB0 := Lib.hid b0
  have HB1 := Lib.hid b1
  have hl1 := World.block_lt_of_cell? w1 _ b0
  have hq1 := HM1.out.lt
  clear hw1 hM1 hm1 c2 c5 hx1
  go_wp2_with (first | (at_builtin; refine app_own _ elemI32 rfl (.const (.slice none 0 0)) (.tmp 46) rfl w1.heap.size (.slice none 0 0) 0 [] rfl (World.ownsRow_nil _ _ _ _) (.slice D 0 (sc - N)) 0 (i32s (s.st.take 0).reverse) rfl HX1.out (one_i32s _) (by simp [maxLen]) (by simp) (Nat.le_refl _) ?_; intro v8 w2 ho8 hg8; simp only [Nat.zero_add, List.nil_append] at ho8; obtain ⟨xa, xc, rfl, _⟩ := owns_shape ho8; have hM2 := HM1.out.grown hg8; have hm2 := Hm1.out.grown hg8; have b0 := hg8.cell HB0.out (by simp [Value.ownBlock]); have b1 := hg8.cell HB1.out (by simp [Value.ownBlock]); have c2 := hM2.r2; rw [HSV.out, ← HN.out] at c2; have c5 := hM2.r5; have f2 := hM2.frozen 2; have f5 := hM2.frozen 5; have hq2 := hM2.lt; have hl2 := World.block_lt_of_cell? _ _ b0; have HM2 := Lib.hid hM2; have Hm2 := Lib.hid hm2; have HO8 := Lib.hid ho8; clear hM2 hm2 ho8 hg8) | fail)
  have HS := Lib.hid (show (fun _ : World => True) w2.drew from trivial)
  refine wp_region_till 15 (fun _ => True) (by kernel_rfl) ?_
  (refine wpAnyT_take (i := 0) (oi := ?_) (v := ?_) ?_ (by kernel_rfl) (by kernel_rfl) (by kernel_rfl) (by kernel_rfl) ?_ (Or.inl ⟨?_, ?_⟩) HS.out ?_; rotate_left 2; (focus (simp only [List.getElem?_toArray, List.getElem?_cons_succ, List.getElem?_cons_zero] <;> rfl)); (focus exact (fun _ _ _ h => h)); (focus rfl); (focus (intro w hSw; (try dsimp only at hSw); go_simp; try (with_reducible rfl))))
  (try simp only [Act.put, List.setIfInBounds_toArray, List.set_cons_zero, List.set_cons_succ])
  (refine wpAnyT_take (i := 1) (oi := ?_) (v := ?_) ?_ (by kernel_rfl) (by kernel_rfl) (by kernel_rfl) (by kernel_rfl) ?_ (Or.inl ⟨?_, ?_⟩) HS.out ?_; rotate_left 2; (focus (simp only [List.getElem?_toArray, List.getElem?_cons_succ, List.getElem?_cons_zero] <;> rfl)); (focus exact (fun _ _ _ h => h)); (focus rfl); (focus (intro w hSw; (try dsimp only at hSw); go_simp; try (with_reducible rfl))))
  (try simp only [Act.put, List.setIfInBounds_toArray, List.set_cons_zero, List.set_cons_succ])
  (refine wpAnyT_take (i := 2) (oi := ?_) (v := ?_) ?_ (by kernel_rfl) (by kernel_rfl) (by kernel_rfl) (by kernel_rfl) ?_ (Or.inl ⟨?_, ?_⟩) HS.out ?_; rotate_left 2; (focus (simp only [List.getElem?_toArray, List.getElem?_cons_succ, List.getElem?_cons_zero] <;> rfl)); (focus exact (fun _ _ _ h => h)); (focus rfl); (focus (intro w hSw; (try dsimp only at hSw); go_simp; try (with_reducible rfl))))
  (try simp only [Act.put, List.setIfInBounds_toArray, List.set_cons_zero, List.set_cons_succ])
  (refine wpAnyT_take (i := 3) (oi := ?_) (v := undef) ?_ (by kernel_rfl) (by kernel_rfl) (by kernel_rfl) (by kernel_rfl) ?_ (Or.inr ⟨?_, rfl⟩) HS.out ?_; rotate_left 1; (focus (simp only [List.getElem?_toArray, List.getElem?_cons_succ, List.getElem?_cons_zero] <;> rfl)); (focus exact (fun _ _ _ h => h)); (focus rfl))
  (try simp only [Act.put, List.setIfInBounds_toArray, List.set_cons_zero, List.set_cons_succ])
  (refine wpAnyT_take (i := 4) (oi := ?_) (v := undef) ?_ (by kernel_rfl) (by kernel_rfl) (by kernel_rfl) (by kernel_rfl) ?_ (Or.inr ⟨?_, rfl⟩) HS.out ?_; rotate_left 1; (focus (simp only [List.getElem?_toArray, List.getElem?_cons_succ, List.getElem?_cons_zero] <;> rfl)); (focus exact (fun _ _ _ h => h)); (focus rfl))
  (try simp only [Act.put, List.setIfInBounds_toArray, List.set_cons_zero, List.set_cons_succ])
  (refine wpAnyT_take (i := 5) (oi := ?_) (v := undef) ?_ (by kernel_rfl) (by kernel_rfl) (by kernel_rfl) (by kernel_rfl) ?_ (Or.inr ⟨?_, rfl⟩) HS.out ?_; rotate_left 1; (focus (simp only [List.getElem?_toArray, List.getElem?_cons_succ, List.getElem?_cons_zero] <;> rfl)); (focus exact (fun _ _ _ h => h)); (focus rfl))
  (try simp only [Act.put, List.setIfInBounds_toArray, List.set_cons_zero, List.set_cons_succ])
  (refine wpAnyT_take (i := 6) (oi := ?_) (v := undef) ?_ (by kernel_rfl) (by kernel_rfl) (by kernel_rfl) (by kernel_rfl) ?_ (Or.inr ⟨?_, rfl⟩) HS.out ?_; rotate_left 1; (focus (simp only [List.getElem?_toArray, List.getElem?_cons_succ, List.getElem?_cons_zero] <;> rfl)); (focus exact (fun _ _ _ h => h)); (focus rfl))
  (try simp only [Act.put, List.setIfInBounds_toArray, List.set_cons_zero, List.set_cons_succ])
  (refine wpAnyT_take (i := 7) (oi := ?_) (v := undef) ?_ (by kernel_rfl) (by kernel_rfl) (by kernel_rfl) (by kernel_rfl) ?_ (Or.inr ⟨?_, rfl⟩) HS.out ?_; rotate_left 1; (focus (simp only [List.getElem?_toArray, List.getElem?_cons_succ, List.getElem?_cons_zero] <;> rfl)); (focus exact (fun _ _ _ h => h)); (focus rfl))
  (try simp only [Act.put, List.setIfInBounds_toArray, List.set_cons_zero, List.set_cons_succ])
  (refine wpAnyT_take (i := 8) (oi := ?_) (v := undef) ?_ (by kernel_rfl) (by kernel_rfl) (by kernel_rfl) (by kernel_rfl) ?_ (Or.inr ⟨?_, rfl⟩) HS.out ?_; rotate_left 1; (focus (simp only [List.getElem?_toArray, List.getElem?_cons_succ, List.getElem?_cons_zero] <;> rfl)); (focus exact (fun _ _ _ h => h)); (focus rfl))
  (try simp only [Act.put, List.setIfInBounds_toArray, List.set_cons_zero, List.set_cons_succ])
  (refine wpAnyT_take (i := 9) (oi := ?_) (v := undef) ?_ (by kernel_rfl) (by kernel_rfl) (by kernel_rfl) (by kernel_rfl) ?_ (Or.inr ⟨?_, rfl⟩) HS.out ?_; rotate_left 1; (focus (simp only [List.getElem?_toArray, List.getElem?_cons_succ, List.getElem?_cons_zero] <;> rfl)); (focus exact (fun _ _ _ h => h)); (focus rfl))
  (try simp only [Act.put, List.setIfInBounds_toArray, List.set_cons_zero, List.set_cons_succ])
  (refine wpAnyT_take (i := 10) (oi := ?_) (v := undef) ?_ (by kernel_rfl) (by kernel_rfl) (by kernel_rfl) (by kernel_rfl) ?_ (Or.inr ⟨?_, rfl⟩) HS.out ?_; rotate_left 1; (focus (simp only [List.getElem?_toArray, List.getElem?_cons_succ, List.getElem?_cons_zero] <;> rfl)); (focus exact (fun _ _ _ h => h)); (focus rfl))
  (try simp only [Act.put, List.setIfInBounds_toArray, List.set_cons_zero, List.set_cons_succ])
  (refine wpAnyT_take (i := 11) (oi := ?_) (v := undef) ?_ (by kernel_rfl) (by kernel_rfl) (by kernel_rfl) (by kernel_rfl) ?_ (Or.inr ⟨?_, rfl⟩) HS.out ?_; rotate_left 1; (focus (simp only [List.getElem?_toArray, List.getElem?_cons_succ, List.getElem?_cons_zero] <;> rfl)); (focus exact (fun _ _ _ h => h)); (focus rfl))
  (try simp only [Act.put, List.setIfInBounds_toArray, List.set_cons_zero, List.set_cons_succ])
  (refine wpAnyT_take (i := 12) (oi := ?_) (v := undef) ?_ (by kernel_rfl) (by kernel_rfl) (by kernel_rfl) (by kernel_rfl) ?_ (Or.inr ⟨?_, rfl⟩) HS.out ?_; rotate_left 1; (focus (simp only [List.getElem?_toArray, List.getElem?_cons_succ, List.getElem?_cons_zero] <;> rfl)); (focus exact (fun _ _ _ h => h)); (focus rfl))
  (try simp only [Act.put, List.setIfInBounds_toArray, List.set_cons_zero, List.set_cons_succ])
  (refine wpAnyT_take (i := 13) (oi := ?_) (v := undef) ?_ (by kernel_rfl) (by kernel_rfl) (by kernel_rfl) (by kernel_rfl) ?_ (Or.inr ⟨?_, rfl⟩) HS.out ?_; rotate_left 1; (focus (simp only [List.getElem?_toArray, List.getElem?_cons_succ, List.getElem?_cons_zero] <;> rfl)); (focus exact (fun _ _ _ h => h)); (focus rfl))
  (try simp only [Act.put, List.setIfInBounds_toArray, List.set_cons_zero, List.set_cons_succ])
  (refine wpAnyT_take (i := 14) (oi := ?_) (v := undef) ?_ (by kernel_rfl) (by kernel_rfl) (by kernel_rfl) (by kernel_rfl) ?_ (Or.inr ⟨?_, rfl⟩) HS.out ?_; rotate_left 1; (focus (simp only [List.getElem?_toArray, List.getElem?_cons_succ, List.getElem?_cons_zero] <;> rfl)); (focus exact (fun _ _ _ h => h)); (focus rfl))
  (try simp only [Act.put, List.setIfInBounds_toArray, List.set_cons_zero, List.set_cons_succ])
  (refine wpAnyT_late (i := 15) (oi := ?_) ?_ (by kernel_rfl) (by kernel_rfl) (fun K hK => ?_); rotate_left; (focus (simp only [List.getElem?_toArray, List.getElem?_cons_succ, List.getElem?_cons_zero] <;> rfl)))
  go_simp
  refine hK.out _ _ ?_
  clear hK K
  refine wpAnyT_done (by kernel_rfl) ?_ _
  go_wp2_with fail
  go_ret
  exact ⟨rfl, HM2.out.drew.fuq (Hm2.out.drewN 1)⟩
set_option maxHeartbeats 3200000 in
theorem rdo_28b {g nm c : Nat} (h : SM false w B q F cv (.slice (some ⟨g, 0, none⟩) nm c) iv sv kv ov s) (hnm : nm = s.mem.length) (k : Int) (hk : I32 k) (hp0 : 0 ≤ s.pc) (hp1 : s.pc ≤ 1000000) {T : Nat} (hT : s.top = (T : Int)) (hTN : T ≤ nm) (hkk : 0 ≤ k) (hkn : (nm : Int) < (T : Int) + k) :
    Calls Try.prog 43 #[.pointer (some ⟨q, 0, none⟩), codeV 28 k] w fun e w' => e = .returned (.bool false) ∧ FuQ false w B q F cv (.slice (some ⟨g, 0, none⟩) nm c) iv s w' := by
  obtain ⟨sa, sc, hsv, hnc, hcm, hnone⟩ := rd_shape h.ops.rd
  have HK := Lib.hid hk
  unfold I32 at hk
  obtain ⟨hk0, hk1⟩ := hk
  have H := Lib.hid h
  have hql := h.lt
  have c2 := h.r2
  have c5 := h.r5
  have hsl := h.fit.sl
  have E := Lib.hid (fun W => effect_any 28 ⟨by omega, by omega⟩ W)
  rw [show takesC 28 = 0 from rfl, show leavesC 28 = 0 from rfl] at E
  have hrd : Rd w 1 (.slice sa s.st.length sc) s.st.length (i32s s.st.reverse) := by have := h.ops.rd; rw [hsv] at this; exact this
  obtain ⟨N, hN⟩ : ∃ N, N = s.st.length := ⟨_, rfl⟩
  obtain ⟨M, hM⟩ : ∃ M, N = M + 0 := ⟨N - 0, by skip; omega⟩
  rw [hsv] at c2
  have hMl : s.st.length - 0 = M := by omega
  have hNM : N = M := by omega
  subst hNM
  rw [← hN] at c2 hsl hnc hrd hMl
  obtain ⟨D, hD⟩ : ∃ D : Option Addr, (if sc = N then sa else Option.map (fun x => x.add N) sa) = D := ⟨_, rfl⟩
  have hx := rd_from hrd (lo := N) (by omega) hD
  have hMe : N = s.st.length - 0 := by omega
  have hxl : (i32s s.st.reverse).drop N = i32s (s.st.take 0).reverse := by rw [hMe]; exact take_rev _ _ (by omega)
  rw [hxl, show N - N = 0 by omega] at hx
  have HX := Lib.hid hx
  have HN := Lib.hid hN
  have HSV := Lib.hid hsv
  have HMe := Lib.hid hMe
  have g0 : decide ((N : Int) < 0) = false := by simp
  have g1 : ¬ (1000 : Int) < (N : Int) := by omega
  have g4 : decide ((1000 : Int) < (N : Int)) = false := by simp; omega
  have m0 : (0 : Int) ≤ (N : Int) := by omega
  have m1 : (N : Int) ≤ (N : Int) := by omega
  have m2 : N ≤ N := by omega
  clear h hN hsv hx hxl hrd hMe hMl hM
  have HNM := Lib.hid hnm
  have HT := Lib.hid hT
  have ml := H.out.fit.ml
  rw [← hnm] at ml
  have hk3 : decide (k < 0) = false := by simp; omega
  have hk4 : IntKind.i64.wrap ((T : Int) + k) = (T : Int) + k := IntWalk.i64_in _ (by omega)
  have hk5 : (0 : Int) ≤ (T : Int) + k := by omega
  clear hT hnm
  simp only [codeV]
  go_enter Try.func43, Try.ntmps43
  go_wp2_with fail
  refine (E.out _).mono ?_; rintro e w1 ⟨rfl, hw1⟩
  have hM1 : SM false w1 B q F cv (.slice (some ⟨g, 0, none⟩) nm c) iv sv kv ov s := by rw [← hw1]; exact H.out.alloc _
  have hm1 : Mv w F F w1 := by rw [← hw1]; exact (Mv.refl w F).alloc _
  have b0 : w1.cell? ⟨w.heap.size, 0, none⟩ = some (.int .i64 28) := by rw [← hw1]; exact World.cell?_alloc_new w _ _ _
  have b1 : w1.cell? ⟨w.heap.size, 1, none⟩ = some (.int .i32 k) := by rw [← hw1]; exact World.cell?_alloc_new w _ _ _
  have c2' : w1.cell? ⟨q, 2, none⟩ = some (.slice sa N sc) := by rw [← hw1]; exact alloc_keep c2
  have hx1 : Rd w1 1 (.slice D 0 (sc - N)) 0 (i32s (s.st.take 0).reverse) := HX.out.below (B := w.heap.size) (by rw [← hw1]; exact (Below.refl _ _).alloc (Nat.le_refl _) _) (Nat.le_refl _)
  have HX1 := Lib.hid hx1
  have HM1 := Lib.hid hM1
  have Hm1 := Lib.hid hm1
  have HB0 := Lib.hid b0
  have HB1 := Lib.hid b1
  have hl1 := World.block_lt_of_cell? w1 _ b0
  have hq1 := HM1.out.lt
  clear hw1 hM1 hm1 c2 c5 hx1
  go_wp2_with (first | (at_builtin; refine app_own _ elemI32 rfl (.const (.slice none 0 0)) (.tmp 46) rfl w1.heap.size (.slice none 0 0) 0 [] rfl (World.ownsRow_nil _ _ _ _) (.slice D 0 (sc - N)) 0 (i32s (s.st.take 0).reverse) rfl HX1.out (one_i32s _) (by simp [maxLen]) (by simp) (Nat.le_refl _) ?_; intro v8 w2 ho8 hg8; simp only [Nat.zero_add, List.nil_append] at ho8; obtain ⟨xa, xc, rfl, _⟩ := owns_shape ho8; have hM2 := HM1.out.grown hg8; have hm2 := Hm1.out.grown hg8; have b0 := hg8.cell HB0.out (by simp [Value.ownBlock]); have b1 := hg8.cell HB1.out (by simp [Value.ownBlock]); have c2 := hM2.r2; rw [HSV.out, ← HN.out] at c2; have c5 := hM2.r5; have f2 := hM2.frozen 2; have f5 := hM2.frozen 5; have hq2 := hM2.lt; have hl2 := World.block_lt_of_cell? _ _ b0; have c1 := hM2.r1; have c4 := hM2.r4; rw [HT.out] at c4; have c3 := hM2.r3; have f3 := hM2.frozen 3; have f4 := hM2.frozen 4; have HM2 := Lib.hid hM2; have Hm2 := Lib.hid hm2; have HO8 := Lib.hid ho8; clear hM2 hm2 ho8 hg8) | fail)
  have HS := Lib.hid (show (fun W => W.cell? ⟨q, 1, none⟩ = some (.slice (some ⟨g, 0, none⟩) nm c) ∧ W.cell? ⟨q, 4, none⟩ = some (.int .i64 (T : Int))) w2.drew from ⟨c1, c4⟩)
  refine wp_region_till 15 (fun W => W.cell? ⟨q, 1, none⟩ = some (.slice (some ⟨g, 0, none⟩) nm c) ∧ W.cell? ⟨q, 4, none⟩ = some (.int .i64 (T : Int))) (by kernel_rfl) ?_
  (refine wpAnyT_take (i := 0) (oi := ?_) (v := ?_) ?_ (by kernel_rfl) (by kernel_rfl) (by kernel_rfl) (by kernel_rfl) ?_ (Or.inl ⟨?_, ?_⟩) HS.out ?_; rotate_left 2; (focus (simp only [List.getElem?_toArray, List.getElem?_cons_succ, List.getElem?_cons_zero] <;> rfl)); (focus exact (fun _ _ _ h => h)); (focus rfl); (focus (intro w hSw; (try dsimp only at hSw); go_simp; try (with_reducible rfl))))
  (try simp only [Act.put, List.setIfInBounds_toArray, List.set_cons_zero, List.set_cons_succ])
  (refine wpAnyT_take (i := 1) (oi := ?_) (v := ?_) ?_ (by kernel_rfl) (by kernel_rfl) (by kernel_rfl) (by kernel_rfl) ?_ (Or.inl ⟨?_, ?_⟩) HS.out ?_; rotate_left 2; (focus (simp only [List.getElem?_toArray, List.getElem?_cons_succ, List.getElem?_cons_zero] <;> rfl)); (focus exact (fun _ _ _ h => h)); (focus rfl); (focus (intro w hSw; (try dsimp only at hSw); go_simp; try (with_reducible rfl))))
  (try simp only [Act.put, List.setIfInBounds_toArray, List.set_cons_zero, List.set_cons_succ])
  (refine wpAnyT_take (i := 2) (oi := ?_) (v := ?_) ?_ (by kernel_rfl) (by kernel_rfl) (by kernel_rfl) (by kernel_rfl) ?_ (Or.inl ⟨?_, ?_⟩) HS.out ?_; rotate_left 2; (focus (simp only [List.getElem?_toArray, List.getElem?_cons_succ, List.getElem?_cons_zero] <;> rfl)); (focus exact (fun _ _ _ h => h)); (focus rfl); (focus (intro w hSw; (try dsimp only at hSw); go_simp; try (with_reducible rfl))))
  (try simp only [Act.put, List.setIfInBounds_toArray, List.set_cons_zero, List.set_cons_succ])
  (refine wpAnyT_take (i := 3) (oi := ?_) (v := ?_) ?_ (by kernel_rfl) (by kernel_rfl) (by kernel_rfl) (by kernel_rfl) ?_ (Or.inl ⟨?_, ?_⟩) HS.out ?_; rotate_left 2; (focus (simp only [List.getElem?_toArray, List.getElem?_cons_succ, List.getElem?_cons_zero] <;> rfl)); (focus exact (fun _ _ _ h => h)); (focus rfl); (focus (intro w hSw; (try dsimp only at hSw); go_simp; try (with_reducible rfl))))
  (try simp only [Act.put, List.setIfInBounds_toArray, List.set_cons_zero, List.set_cons_succ])
  (refine wpAnyT_take (i := 4) (oi := ?_) (v := ?_) ?_ (by kernel_rfl) (by kernel_rfl) (by kernel_rfl) (by kernel_rfl) ?_ (Or.inl ⟨?_, ?_⟩) HS.out ?_; rotate_left 2; (focus (simp only [List.getElem?_toArray, List.getElem?_cons_succ, List.getElem?_cons_zero] <;> rfl)); (focus exact (fun _ _ _ h => h)); (focus rfl); (focus (intro w hSw; (try dsimp only at hSw); go_simp; try (with_reducible rfl))))
  (try simp only [Act.put, List.setIfInBounds_toArray, List.set_cons_zero, List.set_cons_succ])
  (refine wpAnyT_take (i := 5) (oi := ?_) (v := ?_) ?_ (by kernel_rfl) (by kernel_rfl) (by kernel_rfl) (by kernel_rfl) ?_ (Or.inl ⟨?_, ?_⟩) HS.out ?_; rotate_left 2; (focus (simp only [List.getElem?_toArray, List.getElem?_cons_succ, List.getElem?_cons_zero] <;> rfl)); (focus exact (fun _ _ _ h => h)); (focus rfl); (focus (intro w hSw; (try dsimp only at hSw); go_simp; try (with_reducible rfl))))
  (try simp only [Act.put, List.setIfInBounds_toArray, List.set_cons_zero, List.set_cons_succ])
  (refine wpAnyT_take (i := 6) (oi := ?_) (v := ?_) ?_ (by kernel_rfl) (by kernel_rfl) (by kernel_rfl) (by kernel_rfl) ?_ (Or.inl ⟨?_, ?_⟩) HS.out ?_; rotate_left 2; (focus (simp only [List.getElem?_toArray, List.getElem?_cons_succ, List.getElem?_cons_zero] <;> rfl)); (focus exact (fun _ _ _ h => h)); (focus rfl); (focus (intro w hSw; (try dsimp only at hSw); go_simp; try (with_reducible rfl))))
  (try simp only [Act.put, List.setIfInBounds_toArray, List.set_cons_zero, List.set_cons_succ])
  (refine wpAnyT_take (i := 7) (oi := ?_) (v := ?_) ?_ (by kernel_rfl) (by kernel_rfl) (by kernel_rfl) (by kernel_rfl) ?_ (Or.inl ⟨?_, ?_⟩) HS.out ?_; rotate_left 2; (focus (simp only [List.getElem?_toArray, List.getElem?_cons_succ, List.getElem?_cons_zero] <;> rfl)); (focus exact (fun _ _ _ h => h)); (focus rfl); (focus (intro w hSw; (try dsimp only at hSw); go_simp; try (with_reducible rfl))))
  (try simp only [Act.put, List.setIfInBounds_toArray, List.set_cons_zero, List.set_cons_succ])
  (refine wpAnyT_take (i := 8) (oi := ?_) (v := ?_) ?_ (by kernel_rfl) (by kernel_rfl) (by kernel_rfl) (by kernel_rfl) ?_ (Or.inl ⟨?_, ?_⟩) HS.out ?_; rotate_left 2; (focus (simp only [List.getElem?_toArray, List.getElem?_cons_succ, List.getElem?_cons_zero] <;> rfl)); (focus exact (fun _ _ _ h => h)); (focus rfl); (focus (intro w hSw; (try dsimp only at hSw); go_simp; try (with_reducible rfl))))
  (try simp only [Act.put, List.setIfInBounds_toArray, List.set_cons_zero, List.set_cons_succ])
  (refine wpAnyT_take (i := 9) (oi := ?_) (v := ?_) ?_ (by kernel_rfl) (by kernel_rfl) (by kernel_rfl) (by kernel_rfl) ?_ (Or.inl ⟨?_, ?_⟩) HS.out ?_; rotate_left 2; (focus (simp only [List.getElem?_toArray, List.getElem?_cons_succ, List.getElem?_cons_zero] <;> rfl)); (focus exact (fun _ _ _ h => h)); (focus rfl); (focus (intro w hSw; (try dsimp only at hSw); go_simp; try (with_reducible rfl))))
  (try simp only [Act.put, List.setIfInBounds_toArray, List.set_cons_zero, List.set_cons_succ])
  (refine wpAnyT_take (i := 10) (oi := ?_) (v := ?_) ?_ (by kernel_rfl) (by kernel_rfl) (by kernel_rfl) (by kernel_rfl) ?_ (Or.inl ⟨?_, ?_⟩) HS.out ?_; rotate_left 2; (focus (simp only [List.getElem?_toArray, List.getElem?_cons_succ, List.getElem?_cons_zero] <;> rfl)); (focus exact (fun _ _ _ h => h)); (focus rfl); (focus (intro w hSw; (try dsimp only at hSw); go_simp; try (with_reducible rfl))))
  (try simp only [Act.put, List.setIfInBounds_toArray, List.set_cons_zero, List.set_cons_succ])
  (refine wpAnyT_take (i := 11) (oi := ?_) (v := ?_) ?_ (by kernel_rfl) (by kernel_rfl) (by kernel_rfl) (by kernel_rfl) ?_ (Or.inl ⟨?_, ?_⟩) HS.out ?_; rotate_left 2; (focus (simp only [List.getElem?_toArray, List.getElem?_cons_succ, List.getElem?_cons_zero] <;> rfl)); (focus exact (fun _ _ _ h => h)); (focus rfl); (focus (intro w hSw; (try dsimp only at hSw); go_simp; try (with_reducible rfl))))
  (try simp only [Act.put, List.setIfInBounds_toArray, List.set_cons_zero, List.set_cons_succ])
  (refine wpAnyT_take (i := 12) (oi := ?_) (v := ?_) ?_ (by kernel_rfl) (by kernel_rfl) (by kernel_rfl) (by kernel_rfl) ?_ (Or.inl ⟨?_, ?_⟩) HS.out ?_; rotate_left 2; (focus (simp only [List.getElem?_toArray, List.getElem?_cons_succ, List.getElem?_cons_zero] <;> rfl)); (focus exact (fun _ _ _ h => h)); (focus rfl); (focus (intro w hSw; (try dsimp only at hSw); go_simp; try (with_reducible rfl))))
  (try simp only [Act.put, List.setIfInBounds_toArray, List.set_cons_zero, List.set_cons_succ])
  (refine wpAnyT_take (i := 13) (oi := ?_) (v := ?_) ?_ (by kernel_rfl) (by kernel_rfl) (by kernel_rfl) (by kernel_rfl) ?_ (Or.inl ⟨?_, ?_⟩) HS.out ?_; rotate_left 2; (focus (simp only [List.getElem?_toArray, List.getElem?_cons_succ, List.getElem?_cons_zero] <;> rfl)); (focus exact (fun _ _ _ h => h)); (focus rfl); (focus (intro w hSw; (try dsimp only at hSw); go_simp; try (with_reducible rfl))))
  (try simp only [Act.put, List.setIfInBounds_toArray, List.set_cons_zero, List.set_cons_succ])
  (refine wpAnyT_take (i := 14) (oi := ?_) (v := ?_) ?_ (by kernel_rfl) (by kernel_rfl) (by kernel_rfl) (by kernel_rfl) ?_ (Or.inl ⟨?_, ?_⟩) HS.out ?_; rotate_left 2; (focus (simp only [List.getElem?_toArray, List.getElem?_cons_succ, List.getElem?_cons_zero] <;> rfl)); (focus exact (fun _ _ _ h => h)); (focus rfl); (focus (intro w hSw; (try dsimp only at hSw); go_simp; try (with_reducible rfl))))
  (try simp only [Act.put, List.setIfInBounds_toArray, List.set_cons_zero, List.set_cons_succ])
  (refine wpAnyT_late (i := 15) (oi := ?_) ?_ (by kernel_rfl) (by kernel_rfl) (fun K hK => ?_); rotate_left; (focus (simp only [List.getElem?_toArray, List.getElem?_cons_succ, List.getElem?_cons_zero] <;> rfl)))
  go_simp
  refine hK.out _ _ ?_
  clear hK K
  refine wpAnyT_done (by kernel_rfl) ?_ _
  go_wp2_with fail
  go_ret
  exact ⟨rfl, HM2.out.drew.fuq (Hm2.out.drewN 1)⟩
/-- So many noughts laid into a list. -/
def zer (m : List Int) (T i : Nat) : List Int := m.take T ++ List.replicate (i - T) 0 ++ m.drop i
theorem zer_start (m : List Int) (T : Nat) : zer m T T = m := by simp [zer]
theorem zer_length (m : List Int) (T i : Nat) (h : T ≤ i) (hi : i ≤ m.length) : (zer m T i).length = m.length := by simp [zer]; omega
theorem zer_step (m : List Int) (T i : Nat) (h : T ≤ i) (hi : i < m.length) : (zer m T i).set i 0 = zer m T (i + 1) := by
  unfold zer
  have hl : (m.take T ++ List.replicate (i - T) (0 : Int)).length = i := by simp; omega
  rw [List.set_append_right _ _ (by omega), hl, Nat.sub_self, show i + 1 - T = (i - T) + 1 by omega, List.replicate_succ', List.drop_eq_getElem_cons hi, List.set_cons_zero]
  simp
/-- The frame's words are noughts, so far. -/
def EnP (w : World) (B q : Nat) (F : Nat → Prop) (cv : Value) (g nm c : Nat) (iv sv kv ov : Value) (s : SSt) (T K i : Nat) (wr : World) : Prop := SM false wr B q F cv (.slice (some ⟨g, 0, none⟩) nm c) iv sv kv ov { s with fp := (T : Int), top := (T : Int) + K, mem := zer s.mem T i } ∧ Mv w F F wr
set_option maxHeartbeats 3200000 in
theorem rdo_28 {g nm c : Nat} (h : SM false w B q F cv (.slice (some ⟨g, 0, none⟩) nm c) iv sv kv ov s) (hnm : nm = s.mem.length) (k : Nat) (hk : I32 k) (hp0 : 0 ≤ s.pc) (hp1 : s.pc ≤ 1000000) {T : Nat} (hT : s.top = (T : Int)) (hTN : T ≤ nm) (hkn : (T : Int) + k ≤ (nm : Int)) :
    Calls Try.prog 43 #[.pointer (some ⟨q, 0, none⟩), codeV 28 k] w fun e w' => e = .returned (.bool true) ∧ FuQ false w B q F cv (.slice (some ⟨g, 0, none⟩) nm c) iv { s with fp := s.top, top := s.top + k, mem := s.mem.take T ++ List.replicate k 0 ++ s.mem.drop (T + k), pc := s.pc + 1 } w' := by
  obtain ⟨sa, sc, hsv, hnc, hcm, hnone⟩ := rd_shape h.ops.rd
  have HK := Lib.hid hk
  unfold I32 at hk
  obtain ⟨hk0, hk1⟩ := hk
  have H := Lib.hid h
  have hql := h.lt
  have c2 := h.r2
  have c5 := h.r5
  have hsl := h.fit.sl
  have E := Lib.hid (fun W => effect_any 28 ⟨by omega, by omega⟩ W)
  rw [show takesC 28 = 0 from rfl, show leavesC 28 = 0 from rfl] at E
  have hrd : Rd w 1 (.slice sa s.st.length sc) s.st.length (i32s s.st.reverse) := by have := h.ops.rd; rw [hsv] at this; exact this
  obtain ⟨N, hN⟩ : ∃ N, N = s.st.length := ⟨_, rfl⟩
  obtain ⟨M, hM⟩ : ∃ M, N = M + 0 := ⟨N - 0, by skip; omega⟩
  rw [hsv] at c2
  have hMl : s.st.length - 0 = M := by omega
  have hNM : N = M := by omega
  subst hNM
  rw [← hN] at c2 hsl hnc hrd hMl
  obtain ⟨D, hD⟩ : ∃ D : Option Addr, (if sc = N then sa else Option.map (fun x => x.add N) sa) = D := ⟨_, rfl⟩
  have hx := rd_from hrd (lo := N) (by omega) hD
  have hMe : N = s.st.length - 0 := by omega
  have hxl : (i32s s.st.reverse).drop N = i32s (s.st.take 0).reverse := by rw [hMe]; exact take_rev _ _ (by omega)
  rw [hxl, show N - N = 0 by omega] at hx
  have HX := Lib.hid hx
  have HN := Lib.hid hN
  have HSV := Lib.hid hsv
  have HMe := Lib.hid hMe
  have g0 : decide ((N : Int) < 0) = false := by simp
  have g1 : ¬ (1000 : Int) < (N : Int) := by omega
  have g4 : decide ((1000 : Int) < (N : Int)) = false := by simp; omega
  have m0 : (0 : Int) ≤ (N : Int) := by omega
  have m1 : (N : Int) ≤ (N : Int) := by omega
  have m2 : N ≤ N := by omega
  clear h hN hsv hx hxl hrd hMe hMl hM
  have HNM := Lib.hid hnm
  have HT := Lib.hid hT
  have ml := H.out.fit.ml
  rw [← hnm] at ml
  have hk3 : decide ((k : Int) < 0) = false := by simp
  have hk4 : IntKind.i64.wrap ((T : Int) + k) = (T : Int) + k := IntWalk.i64_in _ (by omega)
  have hk5 : (0 : Int) ≤ (T : Int) + k := by omega
  have hk6 : T + k ≤ nm := by omega
  have hk7 : (T : Int) + (k : Int) ≤ (nm : Int) := by omega
  have hk8 : decide ((nm : Int) < (T : Int) + (k : Int)) = false := by simp; omega
  have hk9 : nm ≤ 1048576 := ml
  clear hT hnm
  simp only [codeV]
  go_enter Try.func43, Try.ntmps43
  go_wp2_with fail
  refine (E.out _).mono ?_; rintro e w1 ⟨rfl, hw1⟩
  have hM1 : SM false w1 B q F cv (.slice (some ⟨g, 0, none⟩) nm c) iv sv kv ov s := by rw [← hw1]; exact H.out.alloc _
  have hm1 : Mv w F F w1 := by rw [← hw1]; exact (Mv.refl w F).alloc _
  have b0 : w1.cell? ⟨w.heap.size, 0, none⟩ = some (.int .i64 28) := by rw [← hw1]; exact World.cell?_alloc_new w _ _ _
  have b1 : w1.cell? ⟨w.heap.size, 1, none⟩ = some (.int .i32 k) := by rw [← hw1]; exact World.cell?_alloc_new w _ _ _
  have c2' : w1.cell? ⟨q, 2, none⟩ = some (.slice sa N sc) := by rw [← hw1]; exact alloc_keep c2
  have hx1 : Rd w1 1 (.slice D 0 (sc - N)) 0 (i32s (s.st.take 0).reverse) := HX.out.below (B := w.heap.size) (by rw [← hw1]; exact (Below.refl _ _).alloc (Nat.le_refl _) _) (Nat.le_refl _)
  have HX1 := Lib.hid hx1
  have HM1 := Lib.hid hM1
  have Hm1 := Lib.hid hm1
  have HB0 := Lib.hid b0
  have HB1 := Lib.hid b1
  have hl1 := World.block_lt_of_cell? w1 _ b0
  have hq1 := HM1.out.lt
  clear hw1 hM1 hm1 c2 c5 hx1
  go_wp2_with (first | (at_builtin; refine app_own _ elemI32 rfl (.const (.slice none 0 0)) (.tmp 46) rfl w1.heap.size (.slice none 0 0) 0 [] rfl (World.ownsRow_nil _ _ _ _) (.slice D 0 (sc - N)) 0 (i32s (s.st.take 0).reverse) rfl HX1.out (one_i32s _) (by simp [maxLen]) (by simp) (Nat.le_refl _) ?_; intro v8 w2 ho8 hg8; simp only [Nat.zero_add, List.nil_append] at ho8; obtain ⟨xa, xc, rfl, _⟩ := owns_shape ho8; have hM2 := HM1.out.grown hg8; have hm2 := Hm1.out.grown hg8; have b0 := hg8.cell HB0.out (by simp [Value.ownBlock]); have b1 := hg8.cell HB1.out (by simp [Value.ownBlock]); have c2 := hM2.r2; rw [HSV.out, ← HN.out] at c2; have c5 := hM2.r5; have f2 := hM2.frozen 2; have f5 := hM2.frozen 5; have hq2 := hM2.lt; have hl2 := World.block_lt_of_cell? _ _ b0; have c1 := hM2.r1; have c4 := hM2.r4; rw [HT.out] at c4; have c3 := hM2.r3; have f3 := hM2.frozen 3; have f4 := hM2.frozen 4; have HM2 := Lib.hid hM2; have Hm2 := Lib.hid hm2; have HO8 := Lib.hid ho8; clear hM2 hm2 ho8 hg8) | fail)
  have HS := Lib.hid (show (fun W => W.cell? ⟨q, 1, none⟩ = some (.slice (some ⟨g, 0, none⟩) nm c) ∧ W.cell? ⟨q, 4, none⟩ = some (.int .i64 (T : Int))) w2.drew from ⟨c1, c4⟩)
  refine wp_region_till 15 (fun W => W.cell? ⟨q, 1, none⟩ = some (.slice (some ⟨g, 0, none⟩) nm c) ∧ W.cell? ⟨q, 4, none⟩ = some (.int .i64 (T : Int))) (by kernel_rfl) ?_
  (refine wpAnyT_take (i := 0) (oi := ?_) (v := ?_) ?_ (by kernel_rfl) (by kernel_rfl) (by kernel_rfl) (by kernel_rfl) ?_ (Or.inl ⟨?_, ?_⟩) HS.out ?_; rotate_left 2; (focus (simp only [List.getElem?_toArray, List.getElem?_cons_succ, List.getElem?_cons_zero] <;> rfl)); (focus exact (fun _ _ _ h => h)); (focus rfl); (focus (intro w hSw; (try dsimp only at hSw); go_simp; try (with_reducible rfl))))
  (try simp only [Act.put, List.setIfInBounds_toArray, List.set_cons_zero, List.set_cons_succ])
  (refine wpAnyT_take (i := 1) (oi := ?_) (v := ?_) ?_ (by kernel_rfl) (by kernel_rfl) (by kernel_rfl) (by kernel_rfl) ?_ (Or.inl ⟨?_, ?_⟩) HS.out ?_; rotate_left 2; (focus (simp only [List.getElem?_toArray, List.getElem?_cons_succ, List.getElem?_cons_zero] <;> rfl)); (focus exact (fun _ _ _ h => h)); (focus rfl); (focus (intro w hSw; (try dsimp only at hSw); go_simp; try (with_reducible rfl))))
  (try simp only [Act.put, List.setIfInBounds_toArray, List.set_cons_zero, List.set_cons_succ])
  (refine wpAnyT_take (i := 2) (oi := ?_) (v := ?_) ?_ (by kernel_rfl) (by kernel_rfl) (by kernel_rfl) (by kernel_rfl) ?_ (Or.inl ⟨?_, ?_⟩) HS.out ?_; rotate_left 2; (focus (simp only [List.getElem?_toArray, List.getElem?_cons_succ, List.getElem?_cons_zero] <;> rfl)); (focus exact (fun _ _ _ h => h)); (focus rfl); (focus (intro w hSw; (try dsimp only at hSw); go_simp; try (with_reducible rfl))))
  (try simp only [Act.put, List.setIfInBounds_toArray, List.set_cons_zero, List.set_cons_succ])
  (refine wpAnyT_take (i := 3) (oi := ?_) (v := ?_) ?_ (by kernel_rfl) (by kernel_rfl) (by kernel_rfl) (by kernel_rfl) ?_ (Or.inl ⟨?_, ?_⟩) HS.out ?_; rotate_left 2; (focus (simp only [List.getElem?_toArray, List.getElem?_cons_succ, List.getElem?_cons_zero] <;> rfl)); (focus exact (fun _ _ _ h => h)); (focus rfl); (focus (intro w hSw; (try dsimp only at hSw); go_simp; try (with_reducible rfl))))
  (try simp only [Act.put, List.setIfInBounds_toArray, List.set_cons_zero, List.set_cons_succ])
  (refine wpAnyT_take (i := 4) (oi := ?_) (v := ?_) ?_ (by kernel_rfl) (by kernel_rfl) (by kernel_rfl) (by kernel_rfl) ?_ (Or.inl ⟨?_, ?_⟩) HS.out ?_; rotate_left 2; (focus (simp only [List.getElem?_toArray, List.getElem?_cons_succ, List.getElem?_cons_zero] <;> rfl)); (focus exact (fun _ _ _ h => h)); (focus rfl); (focus (intro w hSw; (try dsimp only at hSw); go_simp; try (with_reducible rfl))))
  (try simp only [Act.put, List.setIfInBounds_toArray, List.set_cons_zero, List.set_cons_succ])
  (refine wpAnyT_take (i := 5) (oi := ?_) (v := ?_) ?_ (by kernel_rfl) (by kernel_rfl) (by kernel_rfl) (by kernel_rfl) ?_ (Or.inl ⟨?_, ?_⟩) HS.out ?_; rotate_left 2; (focus (simp only [List.getElem?_toArray, List.getElem?_cons_succ, List.getElem?_cons_zero] <;> rfl)); (focus exact (fun _ _ _ h => h)); (focus rfl); (focus (intro w hSw; (try dsimp only at hSw); go_simp; try (with_reducible rfl))))
  (try simp only [Act.put, List.setIfInBounds_toArray, List.set_cons_zero, List.set_cons_succ])
  (refine wpAnyT_take (i := 6) (oi := ?_) (v := ?_) ?_ (by kernel_rfl) (by kernel_rfl) (by kernel_rfl) (by kernel_rfl) ?_ (Or.inl ⟨?_, ?_⟩) HS.out ?_; rotate_left 2; (focus (simp only [List.getElem?_toArray, List.getElem?_cons_succ, List.getElem?_cons_zero] <;> rfl)); (focus exact (fun _ _ _ h => h)); (focus rfl); (focus (intro w hSw; (try dsimp only at hSw); go_simp; try (with_reducible rfl))))
  (try simp only [Act.put, List.setIfInBounds_toArray, List.set_cons_zero, List.set_cons_succ])
  (refine wpAnyT_take (i := 7) (oi := ?_) (v := ?_) ?_ (by kernel_rfl) (by kernel_rfl) (by kernel_rfl) (by kernel_rfl) ?_ (Or.inl ⟨?_, ?_⟩) HS.out ?_; rotate_left 2; (focus (simp only [List.getElem?_toArray, List.getElem?_cons_succ, List.getElem?_cons_zero] <;> rfl)); (focus exact (fun _ _ _ h => h)); (focus rfl); (focus (intro w hSw; (try dsimp only at hSw); go_simp; try (with_reducible rfl))))
  (try simp only [Act.put, List.setIfInBounds_toArray, List.set_cons_zero, List.set_cons_succ])
  (refine wpAnyT_take (i := 8) (oi := ?_) (v := ?_) ?_ (by kernel_rfl) (by kernel_rfl) (by kernel_rfl) (by kernel_rfl) ?_ (Or.inl ⟨?_, ?_⟩) HS.out ?_; rotate_left 2; (focus (simp only [List.getElem?_toArray, List.getElem?_cons_succ, List.getElem?_cons_zero] <;> rfl)); (focus exact (fun _ _ _ h => h)); (focus rfl); (focus (intro w hSw; (try dsimp only at hSw); go_simp; try (with_reducible rfl))))
  (try simp only [Act.put, List.setIfInBounds_toArray, List.set_cons_zero, List.set_cons_succ])
  (refine wpAnyT_take (i := 9) (oi := ?_) (v := ?_) ?_ (by kernel_rfl) (by kernel_rfl) (by kernel_rfl) (by kernel_rfl) ?_ (Or.inl ⟨?_, ?_⟩) HS.out ?_; rotate_left 2; (focus (simp only [List.getElem?_toArray, List.getElem?_cons_succ, List.getElem?_cons_zero] <;> rfl)); (focus exact (fun _ _ _ h => h)); (focus rfl); (focus (intro w hSw; (try dsimp only at hSw); go_simp; try (with_reducible rfl))))
  (try simp only [Act.put, List.setIfInBounds_toArray, List.set_cons_zero, List.set_cons_succ])
  (refine wpAnyT_take (i := 10) (oi := ?_) (v := ?_) ?_ (by kernel_rfl) (by kernel_rfl) (by kernel_rfl) (by kernel_rfl) ?_ (Or.inl ⟨?_, ?_⟩) HS.out ?_; rotate_left 2; (focus (simp only [List.getElem?_toArray, List.getElem?_cons_succ, List.getElem?_cons_zero] <;> rfl)); (focus exact (fun _ _ _ h => h)); (focus rfl); (focus (intro w hSw; (try dsimp only at hSw); go_simp; try (with_reducible rfl))))
  (try simp only [Act.put, List.setIfInBounds_toArray, List.set_cons_zero, List.set_cons_succ])
  (refine wpAnyT_take (i := 11) (oi := ?_) (v := ?_) ?_ (by kernel_rfl) (by kernel_rfl) (by kernel_rfl) (by kernel_rfl) ?_ (Or.inl ⟨?_, ?_⟩) HS.out ?_; rotate_left 2; (focus (simp only [List.getElem?_toArray, List.getElem?_cons_succ, List.getElem?_cons_zero] <;> rfl)); (focus exact (fun _ _ _ h => h)); (focus rfl); (focus (intro w hSw; (try dsimp only at hSw); go_simp; try (with_reducible rfl))))
  (try simp only [Act.put, List.setIfInBounds_toArray, List.set_cons_zero, List.set_cons_succ])
  (refine wpAnyT_take (i := 12) (oi := ?_) (v := ?_) ?_ (by kernel_rfl) (by kernel_rfl) (by kernel_rfl) (by kernel_rfl) ?_ (Or.inl ⟨?_, ?_⟩) HS.out ?_; rotate_left 2; (focus (simp only [List.getElem?_toArray, List.getElem?_cons_succ, List.getElem?_cons_zero] <;> rfl)); (focus exact (fun _ _ _ h => h)); (focus rfl); (focus (intro w hSw; (try dsimp only at hSw); go_simp; try (with_reducible rfl))))
  (try simp only [Act.put, List.setIfInBounds_toArray, List.set_cons_zero, List.set_cons_succ])
  (refine wpAnyT_take (i := 13) (oi := ?_) (v := ?_) ?_ (by kernel_rfl) (by kernel_rfl) (by kernel_rfl) (by kernel_rfl) ?_ (Or.inl ⟨?_, ?_⟩) HS.out ?_; rotate_left 2; (focus (simp only [List.getElem?_toArray, List.getElem?_cons_succ, List.getElem?_cons_zero] <;> rfl)); (focus exact (fun _ _ _ h => h)); (focus rfl); (focus (intro w hSw; (try dsimp only at hSw); go_simp; try (with_reducible rfl))))
  (try simp only [Act.put, List.setIfInBounds_toArray, List.set_cons_zero, List.set_cons_succ])
  (refine wpAnyT_take (i := 14) (oi := ?_) (v := ?_) ?_ (by kernel_rfl) (by kernel_rfl) (by kernel_rfl) (by kernel_rfl) ?_ (Or.inl ⟨?_, ?_⟩) HS.out ?_; rotate_left 2; (focus (simp only [List.getElem?_toArray, List.getElem?_cons_succ, List.getElem?_cons_zero] <;> rfl)); (focus exact (fun _ _ _ h => h)); (focus rfl); (focus (intro w hSw; (try dsimp only at hSw); go_simp; try (with_reducible rfl))))
  (try simp only [Act.put, List.setIfInBounds_toArray, List.set_cons_zero, List.set_cons_succ])
  (refine wpAnyT_late (i := 15) (oi := ?_) ?_ (by kernel_rfl) (by kernel_rfl) (fun K hK => ?_); rotate_left; (focus (simp only [List.getElem?_toArray, List.getElem?_cons_succ, List.getElem?_cons_zero] <;> rfl)))
  go_simp
  refine hK.out _ _ ?_
  clear hK K
  refine wpAnyT_done (by kernel_rfl) ?_ _
  go_wp2_with fail
  obtain ⟨W3, hW3⟩ : ∃ W3 : World, W3 = ((w2.setCell ⟨q, 3, none⟩ (.int .i64 (T : Int))).setCell ⟨q, 4, none⟩ (.int .i64 ((T : Int) + (k : Int)))).drew := ⟨_, rfl⟩
  have hst0 : EnP w B q F cv g nm c iv sv kv ov s T k T W3 := by
    have hnm := HNM.out
    refine ⟨?_, ?_⟩
    · rw [zer_start, hW3]
      exact ((HM2.out.rputFp (T : Int) (by omega) (by omega)).rputTop ((T : Int) + (k : Int)) (by omega) (by show (T : Int) + (k : Int) ≤ (s.mem.length : Int); omega)).drew
    · rw [hW3]; exact ((Hm2.out.set HM2.out.fq 3 _).set HM2.out.fq 4 _).drewN 1
  try rw [← hW3]
  have HST0 := Lib.hid hst0
  clear hW3 hst0 c1 c3 c4 f3 f4 c2 c5 f2 f5 b0 b1
  go_loopw [13] (fun v wr => ∃ i : Nat, T ≤ i ∧ i ≤ T + k ∧ v = .int .i64 i ∧ EnP w B q F cv g nm c iv sv kv ov s T k i wr) (fun v _ => T + k - (intOf v).toNat)
  case atStart => exact ⟨T, Nat.le_refl _, by omega, rfl, HST0.out⟩
  case round =>
    obtain ⟨i, hi1, hi2, rfl, hen⟩ := hrel
    have HEN := Lib.hid hen
    have hM := hen.1
    have hlen : (zer s.mem T i).length = s.mem.length := zer_length _ _ _ hi1 (by have := HNM.out; omega)
    have c4 := hM.r4
    have c1 := hM.r1
    have lq := hM.lt
    by_cases hlt : i < T + k
    · have hin : i < nm := by omega
      have hc := hM.wordAt (by rw [HNM.out]; exact hlen.symm) i (by show i < (zer s.mem T i).length; have := HNM.out; omega)
      have hz := hM.memFz i
      have hi3 : (0 : Int) ≤ (i : Int) := by omega
      have hi4 : (i : Int) < (nm : Int) := by omega
      have hi5 : (i : Int) < (T : Int) + (k : Int) := by omega
      have hgq := (hM.fm g rfl).2
      have hgq2 := Ne.symm hgq
      have HL := Lib.hid hlen
      clear hen hM hlen
      go_wp2_with fail
      go_roundw
      case rel =>
        refine ⟨i + 1, by omega, by omega, by go_num, ?_⟩
        have hM := HEN.out.1
        have h1 := hM.store (by rw [HNM.out]; exact HL.out.symm) i hin 0 (by unfold I32; omega)
        refine ⟨?_, HEN.out.2.trans ⟨(Fr.refl _ _).setCell (p := ⟨g, i, none⟩) (.inr (hM.fm g rfl).1) _, fun _ h => .inl h⟩⟩
        rw [← zer_step _ _ _ hi1 (by have := HNM.out; omega)]
        exact h1
      case measure => simp [intOf]; omega
    · have hi5 : ¬ ((i : Int) < (T : Int) + (k : Int)) := by omega
      have c2 := hM.r2
      rw [HSV.out, ← HN.out] at c2
      have c5 := hM.r5
      have f2 := hM.frozen 2
      have f5 := hM.frozen 5
      have HM9 := Lib.hid hM
      have Hm9 := Lib.hid hen.2
      obtain ⟨I, hI⟩ : ∃ I, I = zer s.mem T i := ⟨_, rfl⟩
      have HI := Lib.hid hI
      have hik : i = T + k := by omega
      have HIK := Lib.hid hik
      clear hen hM hlen hI hik hi1 hi2
      go_wp2_with (at_builtin; refine app_nothing elemI32 rfl (.tmp 432) (.tmp 433) rfl sa N rfl rfl (fun e => by have := hnone e; omega) ?_; have HR := Lib.hid (rdo_end0 (a := 0) (iv := iv) (rd_sv HM9.out HSV.out) Hm9.out rfl (by rw [← HN.out]; omega) (s.pc + 1) (by omega) (by omega)))
      go_ret
      refine ⟨rfl, ?_⟩
      have hr := HR.out
      rw [← HMe.out] at hr
      rw [HIK.out] at hr
      unfold zer at hr
      rw [show T + k - T = k by omega] at hr
      rw [HT.out]
      try rw [List.append_assoc] at hr
      exact hr
end
end Go.Proofs.Ytgkdphnhfjjepaa

/- The reference's do, whatever is asked. -/
namespace Go.Proofs.Ytgkdphnhfjjepaa
open Go.RowKit Go.Waf
set_option maxRecDepth 100000
set_option linter.unusedVariables false
set_option linter.unusedSimpArgs false

theorem exec_none {s : SSt} {op k : Int} (hop : 0 ≤ op ∧ op < 34) (hl : s.st.length ≤ 1000) (hf : ¬ fits s op) : s.exec op k = none := by
  rcases op34 hop with rfl | rfl | rfl | rfl | rfl | rfl | rfl | rfl | rfl | rfl | rfl | rfl | rfl | rfl | rfl | rfl | rfl | rfl | rfl | rfl | rfl | rfl | rfl | rfl | rfl | rfl | rfl | rfl | rfl | rfl | rfl | rfl | rfl | rfl
  all_goals
    clear hop
    simp only [fits, takesC, leavesC, effT] at hf
    simp only [SSt.exec]
    rcases hst : s.st with _ | ⟨x, _ | ⟨y, t⟩⟩
  all_goals
    rw [hst] at hf hl
    simp at hf hl
  all_goals first
    | omega
    | (simp [SSt.reckon, hst]; done)
    | (simp [SSt.carry, SSt.lead, SSt.lay, hst]; done)
    | (simp [SSt.carry, SSt.lead, SSt.lay, hst]; omega)
theorem SM.memShape {p : Bool} {w : World} {B q : Nat} {F : Nat → Prop} {cv mv iv sv kv ov : Value} {s : SSt} (h : SM p w B q F cv mv iv sv kv ov s) : ∃ g c, mv = .slice (some ⟨g, 0, none⟩) s.mem.length c := by
  rcases h.mem.2 with ⟨h1, _⟩ | ⟨g, c, cur, h1, _⟩
  · exact absurd (by rw [h1]; rfl) h.mn
  · exact ⟨g, c, h1⟩
theorem lead27_eq (s : SSt) (k : Int) : s.lead 27 k = if s.kept.length < 1000 then some { s with kept := (s.pc, s.fp) :: s.kept, pc := k } else none := rfl
theorem lead28_eq (s : SSt) (k : Int) : s.lead 28 k = if 0 ≤ k ∧ k ≤ (s.mem.length : Int) - s.top then some { s with fp := s.top, top := s.top + k, mem := s.mem.take s.top.toNat ++ List.replicate k.toNat 0 ++ s.mem.drop (s.top + k).toNat } else none := rfl
section
variable {w : World} {B q : Nat} {F : Nat → Prop} {cv mv iv sv kv ov : Value} {s : SSt}
theorem do_some {P : Program} {f : FuncId} {args : Array Value} {o : Option SSt} {s' : SSt} (ho : o = some s') (h : Calls P f args w fun e w' => e = .returned (.bool true) ∧ FuQ false w B q F cv mv iv s' w') : Calls P f args w (DoP w B q F cv mv iv s o) :=
  h.mono fun e w' ⟨h1, h2⟩ => .inl ⟨s', ho, h1, h2⟩
theorem do_none {P : Program} {f : FuncId} {args : Array Value} {o : Option SSt} (ho : o = none) (h : Calls P f args w fun e w' => e = .returned (.bool false) ∧ FuQ false w B q F cv mv iv s w') : Calls P f args w (DoP w B q F cv mv iv s o) :=
  h.mono fun e w' ⟨h1, h2⟩ => .inr ⟨ho, h1, h2⟩
def dop (w : World) (B q : Nat) (F : Nat → Prop) (cv mv iv : Value) (s : SSt) (op k : Int) : Prop :=
  Calls Try.prog 43 #[.pointer (some ⟨q, 0, none⟩), codeV op k] w (DoP w B q F cv mv iv s (s.next.exec op k))
theorem rdo_reckon (h : SM false w B q F cv mv iv sv kv ov s) (op k : Int) (hk : I32 k) (hp0 : 0 ≤ s.pc) (hp1 : s.pc ≤ 1000000) (h9 : 9 ≤ op) (h24 : op ≤ 24) (hf : fits s op) : dop w B q F cv mv iv s op k := by
  have hex : s.next.exec op k = s.next.reckon op := by simp [SSt.exec, h9, h24]
  unfold dop
  rw [hex]
  by_cases h14 : op = 14
  · subst h14
    cases hst : s.st with
    | nil => exact absurd hf.1 (by rw [hst]; decide)
    | cons x t => exact do_some (by show SSt.reckon _ _ = _; unfold SSt.reckon; rw [show s.next.st = x :: t from hst]; rfl) (rdo_14 h k hk hp0 hp1 hst)
  by_cases h18 : op = 18
  · subst h18
    cases hst : s.st with
    | nil => exact absurd hf.1 (by rw [hst]; decide)
    | cons x t => exact do_some (by unfold SSt.reckon; rw [show s.next.st = x :: t from hst]; rfl) (rdo_18 h k hk hp0 hp1 hst)
  have ho : isTwo op := by unfold isTwo isSum; omega
  have ht : takesC op = 2 := by unfold isTwo isSum at ho; rcases ho with (rfl | rfl | rfl | rfl | rfl | rfl | rfl | rfl | rfl | rfl | rfl) | rfl | rfl | rfl <;> rfl
  have hl := hf.1
  rw [ht] at hl
  rcases hst : s.st with _ | ⟨b, _ | ⟨a, t⟩⟩
  · rw [hst] at hl; simp at hl
  · rw [hst] at hl; simp at hl
  have hai : I32 a := h.fit.st a (by rw [hst]; simp)
  have hbi : I32 b := h.fit.st b (by rw [hst]; simp)
  have hre : s.next.reckon op = (two op a b).map fun x => { s with st := x :: t, pc := s.pc + 1 } := by unfold SSt.reckon; rw [show s.next.st = b :: a :: t from hst]; simp [h14, h18]; rfl
  rw [hre]
  by_cases hc : ∃ r, isCmp op a b r ∧ two op a b = some (tell r)
  · obtain ⟨r, hc, hr⟩ := hc
    exact do_some (by rw [hr]; rfl) (rdo_two h k hk hp0 hp1 ho hst (tell_in r) (fun W => rtwo_cmp op a b r W hc))
  · have h22 : op ≠ 22 := fun e => hc ⟨_, .inl ⟨e, rfl⟩, by simp [two, e]⟩
    have h23 : op ≠ 23 := fun e => hc ⟨_, .inr (.inl ⟨e, rfl⟩), by simp [two, e]⟩
    have h24' : op ≠ 24 := fun e => hc ⟨_, .inr (.inr ⟨e, rfl⟩), by simp [two, e]⟩
    have h2 : two op a b = sumV op a b := by simp [two, h22, h23, h24']
    have ho2 : isSum op := by unfold isSum; omega
    rw [h2]
    cases hx : sumV op a b with
    | some x => exact do_some rfl (rdo_two h k hk hp0 hp1 ho hst (sumV_in hai hbi hx) (fun W => rtwo_some op a b x W ho2 hai hbi hx))
    | none => exact do_none rfl (rdo_twono h k hk hp0 hp1 ho hst (fun W => rtwo_none op a b W ho2 hx))
theorem rdo_lead (h : SM false w B q F cv mv iv sv kv ov s) (op k : Int) (hk : I32 k) (hp0 : 0 ≤ s.pc) (hp1 : s.pc ≤ 1000000) (ho : (25 ≤ op ∧ op ≤ 30) ∨ op = 0) (hf : fits s op) : dop w B q F cv mv iv s op k := by
  have hex : s.next.exec op k = s.next.lead op k := by
    unfold SSt.exec; rw [if_neg (by omega), if_pos ho]
  unfold dop
  rw [hex]
  by_cases h0 : op = 0
  · subst h0
    exact do_some (by simp [SSt.lead, SSt.next]) (rdo_0 h k hk hp0 hp1)
  by_cases h30 : op = 30
  · subst h30
    by_cases hc : 1 ≤ k ∧ k ≤ 15
    · exact do_some (by simp [SSt.lead, SSt.next, hc]) (rdo_30 h k hk hp0 hp1 hc.1 hc.2)
    · by_cases h1 : k < 1
      · exact do_none (by simp [SSt.lead]; omega) (rdo_30a h k hk hp0 hp1 h1)
      · exact do_none (by simp [SSt.lead]; omega) (rdo_30b h k hk hp0 hp1 (by omega))
  by_cases h25 : op = 25
  · subst h25; exact do_some rfl (rdo_25 h k hk hp0 hp1)
  by_cases h26 : op = 26
  · subst h26
    cases hst : s.st with
    | nil => exact absurd hf.1 (by rw [hst]; decide)
    | cons x t =>
      by_cases hx : x = 0
      · subst hx; exact do_some (by simp [SSt.lead, SSt.next, hst]) (rdo_26z h k hk hp0 hp1 hst)
      · exact do_some (by simp [SSt.lead, SSt.next, hst, hx]) (rdo_26n h k hk hp0 hp1 hst (by simpa using hx))
  by_cases h27 : op = 27
  · subst h27
    by_cases hc : s.kept.length < 1000
    · exact do_some (by simp [SSt.lead, SSt.next, hc]) (rdo_27 h k hk hp0 hp1 hc)
    · exact do_none ((lead27_eq s.next k).trans (if_neg (show ¬ s.next.kept.length < 1000 from hc))) (rdo_27no h k hk hp0 hp1 hc)
  by_cases h28 : op = 28
  · subst h28
    obtain ⟨g, c, rfl⟩ := h.memShape
    have ht := h.fit.t0
    have ht1 := h.fit.t1
    obtain ⟨T, hT⟩ := Int.eq_ofNat_of_zero_le ht
    by_cases h1 : k < 0
    · exact do_none ((lead28_eq s.next k).trans (if_neg (show ¬ (0 ≤ k ∧ k ≤ (s.mem.length : Int) - s.top) from by omega))) (rdo_28a h k hk hp0 hp1 h1)
    · by_cases hc : (T : Int) + k ≤ (s.mem.length : Int)
      · obtain ⟨n, rfl⟩ := Int.eq_ofNat_of_zero_le (show 0 ≤ k by omega)
        refine do_some ?_ (rdo_28 h rfl n hk hp0 hp1 hT (by omega) hc)
        refine (lead28_eq s.next n).trans ((if_pos (show 0 ≤ (n : Int) ∧ (n : Int) ≤ (s.mem.length : Int) - s.top from by omega)).trans ?_)
        have e1 : (s.top + (n : Int)).toNat = T + n := by omega
        have e2 : s.top.toNat = T := by omega
        show some { s with fp := s.top, top := s.top + n, mem := s.mem.take s.top.toNat ++ List.replicate (n : Int).toNat 0 ++ s.mem.drop (s.top + n).toNat, pc := s.pc + 1 } = _
        rw [e1, e2]; rfl
      · exact do_none ((lead28_eq s.next k).trans (if_neg (show ¬ (0 ≤ k ∧ k ≤ (s.mem.length : Int) - s.top) from by omega))) (rdo_28b h rfl k hk hp0 hp1 hT (by omega) (by omega) (by omega))
  obtain rfl : op = 29 := by omega
  cases hkt : s.kept with
  | nil => exact do_none (by simp [SSt.lead, SSt.next, hkt]) (rdo_29no h k hk hp0 hp1 hkt)
  | cons x t =>
    obtain ⟨x1, x2⟩ := x
    exact do_some (by simp [SSt.lead, SSt.next, hkt]) (rdo_29 h k hk hp0 hp1 hkt)
theorem rdo_carry (h : SM false w B q F cv mv iv sv kv ov s) (op k : Int) (hk : I32 k) (hp0 : 0 ≤ s.pc) (hp1 : s.pc ≤ 1000000) (hol : s.out.length ≤ 1000000) (ho : isCarry op) (hf : fits s op) : dop w B q F cv mv iv s op k := by
  have hex : s.next.exec op k = s.next.carry op k := by
    unfold isCarry at ho
    unfold SSt.exec; rw [if_neg (by omega), if_neg (by omega)]
  unfold dop
  rw [hex]
  obtain ⟨f1, f2⟩ := hf
  rcases ho with rfl | rfl | rfl | rfl | rfl | rfl | rfl | rfl | rfl | rfl | rfl
  · have hl : s.st.length < 1000 := by
      simp only [show takesC 1 = 0 from rfl, show leavesC 1 = 1 from rfl] at f1 f2; omega
    exact do_some (show s.next.lay k = _ from lay_some hl) (rdo_1 h k hk hl hp0 hp1)
  · have hl : s.st.length < 1000 := by
      simp only [show takesC 2 = 1 from rfl, show leavesC 2 = 2 from rfl] at f1 f2; omega
    cases hst : s.st with
    | nil => exact absurd f1 (by rw [hst]; decide)
    | cons x t => exact do_some (by show (match s.next.st with | [] => none | x :: _ => s.next.lay x) = _; rw [show s.next.st = x :: t from hst]; exact (lay_some (s := s.next) hl).trans (by rw [show s.next.st = x :: t from hst]; rfl)) (rdo_2 h k hk hp0 hp1 hst hl)
  · cases hst : s.st with
    | nil => exact absurd f1 (by rw [hst]; decide)
    | cons x t => exact do_some (by show (match s.next.st with | [] => none | _ :: t => some { s.next with st := t }) = _; rw [show s.next.st = x :: t from hst]; rfl) (rdo_3 h k hk hp0 hp1 hst)
  · rcases hst : s.st with _ | ⟨y, _ | ⟨x, t⟩⟩
    · exact absurd f1 (by rw [hst]; decide)
    · exact absurd f1 (by rw [hst]; show ¬ ((2 : Int) ≤ ((1 : Nat) : Int)); decide)
    · exact do_some (by show (match s.next.st with | b :: a :: t => some { s.next with st := a :: b :: t } | _ => none) = _; rw [show s.next.st = y :: x :: t from hst]; rfl) (rdo_4 h k hk hp0 hp1 hst)
  · have hl : s.st.length < 1000 := by
      simp only [show takesC 5 = 0 from rfl, show leavesC 5 = 1 from rfl] at f1 f2; omega
    exact do_some (show s.next.lay (wrap32 (s.fp + k)) = _ from lay_some hl) (rdo_5 h k hk hp0 hp1 hl)
  · cases hst : s.st with
    | nil => exact absurd f1 (by rw [hst]; decide)
    | cons x t =>
      have hsh : s.next.carry 6 k = if okAt s x 1 then some { s with st := s.mem.getD x.toNat 0 :: t, pc := s.pc + 1 } else none := by
        show (match s.next.st with | [] => none | p :: t => if okAt s.next p 1 then some { s.next with st := s.next.mem.getD p.toNat 0 :: t } else none) = _
        rw [show s.next.st = x :: t from hst]; rfl
      rw [hsh]
      by_cases hc : okAt s x 1
      · obtain ⟨a, n, rfl, hn, hle⟩ := okAt_nat hc
        obtain ⟨g, c, rfl⟩ := h.memShape
        exact do_some (by rw [if_pos hc]; rfl) (rdo_6 h rfl k hk hp0 hp1 hst (p := a) rfl (by omega))
      · exact do_none (by rw [if_neg hc]) (rdo_6no h k hk hp0 hp1 hst hc)
  · rcases hst : s.st with _ | ⟨y, _ | ⟨x, t⟩⟩
    · exact absurd f1 (by rw [hst]; decide)
    · exact absurd f1 (by rw [hst]; show ¬ ((2 : Int) ≤ ((1 : Nat) : Int)); decide)
    · have hsh : s.next.carry 7 k = if okAt s x 1 then some { s with st := t, mem := s.mem.set x.toNat y, pc := s.pc + 1 } else none := by
        show (match s.next.st with | x :: p :: t => (if okAt s.next p 1 then some { s.next with st := t, mem := s.next.mem.set p.toNat x } else none) | _ => none) = _
        rw [show s.next.st = y :: x :: t from hst]; rfl
      rw [hsh]
      by_cases hc : okAt s x 1
      · obtain ⟨a, n, rfl, hn, hle⟩ := okAt_nat hc
        obtain ⟨g, c, rfl⟩ := h.memShape
        exact do_some (by rw [if_pos hc]; rfl) (rdo_7 h rfl k hk hp0 hp1 hst (p := a) rfl (by omega))
      · exact do_none (by rw [if_neg hc]) (rdo_7no h k hk hp0 hp1 hst hc)
  · rcases hst : s.st with _ | ⟨y, _ | ⟨x, t⟩⟩
    · exact absurd f1 (by rw [hst]; decide)
    · exact absurd f1 (by rw [hst]; show ¬ ((2 : Int) ≤ ((1 : Nat) : Int)); decide)
    · have hsh : s.next.carry 8 k = if okAt s y k ∧ okAt s x k then some { s with st := t, mem := s.mem.take x.toNat ++ (s.mem.drop y.toNat).take k.toNat ++ s.mem.drop (x.toNat + k.toNat), pc := s.pc + 1 } else none := by
        show (match s.next.st with | q :: p :: t => (if okAt s.next q k ∧ okAt s.next p k then some { s.next with st := t, mem := s.next.mem.take p.toNat ++ (s.next.mem.drop q.toNat).take k.toNat ++ s.next.mem.drop (p.toNat + k.toNat) } else none) | _ => none) = _
        rw [show s.next.st = y :: x :: t from hst]; rfl
      rw [hsh]
      by_cases hc : okAt s x k
      · by_cases hc2 : okAt s y k
        · rw [if_pos ⟨hc2, hc⟩]
          obtain ⟨a, n, rfl, rfl, hle⟩ := okAt_nat hc
          obtain ⟨b, n', rfl, hn, hle2⟩ := okAt_nat hc2
          obtain rfl : n = n' := by omega
          obtain ⟨g, c, rfl⟩ := h.memShape
          refine do_some ?_ (rdo_8 h rfl n hk hp0 hp1 hst (p := a) (Y := b) rfl rfl (by omega) (by omega))
          rw [splice_flat, List.length_take, List.length_drop, Nat.min_eq_left (by omega)]
          rfl
        · exact do_none (by rw [if_neg (fun h => hc2 h.1)]) (rdo_8no2 h k hk hp0 hp1 hst hc hc2)
      · exact do_none (by rw [if_neg (fun h => hc h.2)]) (rdo_8no1 h k hk hp0 hp1 hst hc)
  · have hl : s.st.length < 1000 := by
      simp only [show takesC 31 = 0 from rfl, show leavesC 31 = 1 from rfl] at f1 f2; omega
    have hsh : s.next.carry 31 k = some { s with inp := s.inp.tail, st := s.inp.headD 0 :: s.st, pc := s.pc + 1 } := by
      show ({ s.next with inp := s.next.inp.tail }).lay (s.next.inp.headD 0) = _
      exact (lay_some (s := { s.next with inp := s.next.inp.tail }) hl)
    rw [hsh]
    cases hi : s.inp with
    | nil => exact do_some (by show some { s with inp := [], st := 0 :: s.st, pc := s.pc + 1 } = some { s with st := 0 :: s.st, pc := s.pc + 1 }; rw [← hi]) (rdo_31e h k hk hp0 hp1 hl hi)
    | cons x t =>
      obtain ⟨b, off, c, rfl, _⟩ := h.inAt hi
      exact do_some rfl (rdo_31 h hi rfl k hk hp0 hp1 hl)
  · have hl : s.st.length < 1000 := by
      simp only [show takesC 32 = 0 from rfl, show leavesC 32 = 1 from rfl] at f1 f2; omega
    exact do_some (show s.next.lay (tell s.inp.isEmpty) = _ from lay_some hl) (rdo_32 h k hk hp0 hp1 hl)
  · cases hst : s.st with
    | nil => exact absurd f1 (by rw [hst]; decide)
    | cons x t => exact do_some (by show (match s.next.st with | [] => none | x :: t => some { s.next with st := t, out := s.next.out ++ [x % 256] }) = _; rw [show s.next.st = x :: t from hst]; rfl) (rdo_33 h k hk hp0 hp1 hst hol)
theorem rdo_any (h : SM false w B q F cv mv iv sv kv ov s) (op k : Int) (hop : 0 ≤ op ∧ op < 34) (hk : I32 k) (hp0 : 0 ≤ s.pc) (hp1 : s.pc ≤ 1000000) (hol : s.out.length ≤ 1000000) : dop w B q F cv mv iv s op k := by
  by_cases hf : fits s op
  · by_cases h1 : 9 ≤ op ∧ op ≤ 24
    · exact rdo_reckon h op k hk hp0 hp1 h1.1 h1.2 hf
    by_cases h2 : (25 ≤ op ∧ op ≤ 30) ∨ op = 0
    · exact rdo_lead h op k hk hp0 hp1 h2 hf
    exact rdo_carry h op k hk hp0 hp1 hol (by unfold isCarry; omega) hf
  · exact do_none (exec_none (s := s.next) hop h.fit.sl hf) (rdo_no h op k hop hf)
end
end Go.Proofs.Ytgkdphnhfjjepaa
