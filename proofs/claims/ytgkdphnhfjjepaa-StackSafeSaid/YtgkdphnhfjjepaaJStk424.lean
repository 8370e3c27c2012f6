/- The walks and the plain lemmas of the statement, joined: part 4. No condition. -/
import Derived.OrdersHeld
import Derived.StillTail
import Derived.Deep.RegionHeld3
import Derived.Test.YtgkdphnhfjjepaaJStk422

/- The reference's do, operation by operation (printed by gen_stk31.py). -/
namespace Go.Proofs.Ytgkdphnhfjjepaa
open Go.RowKit Go.Waf
set_option maxRecDepth 100000
set_option linter.unusedVariables false
set_option linter.unusedSimpArgs false

section
variable {w : World} {B q : Nat} {F : Nat → Prop} {cv mv iv sv kv ov : Value} {s : SSt}
set_option maxHeartbeats 3200000 in
theorem rdo_7 {g nm c : Nat} (h : SM false w B q F cv (.slice (some ⟨g, 0, none⟩) nm c) iv sv kv ov s) (hnm : nm = s.mem.length) (k : Int) (hk : I32 k) (hp0 : 0 ≤ s.pc) (hp1 : s.pc ≤ 1000000) {x y : Int} {t : List Int} (hst : s.st = y :: x :: t) {p : Nat} (hxp : x = (p : Int)) (hp : p < s.mem.length) :
    Calls Try.prog 43 #[.pointer (some ⟨q, 0, none⟩), codeV 7 k] w fun e w' => e = .returned (.bool true) ∧ FuQ false w B q F cv (.slice (some ⟨g, 0, none⟩) nm c) iv { s with st := t, mem := s.mem.set p y, pc := s.pc + 1 } w' := by
  obtain ⟨sa, sc, hsv, hnc, hcm, hnone⟩ := rd_shape h.ops.rd
  have HK := Lib.hid hk
  unfold I32 at hk
  obtain ⟨hk0, hk1⟩ := hk
  have HST := Lib.hid hst
  have hxi : I32 x := h.fit.st x (by rw [hst]; simp)
  have HXI := Lib.hid hxi
  unfold I32 at hxi
  obtain ⟨hxi0, hxi1⟩ := hxi
  have hyi : I32 y := h.fit.st y (by rw [hst]; simp)
  have HYI := Lib.hid hyi
  unfold I32 at hyi
  obtain ⟨hyi0, hyi1⟩ := hyi
  have H := Lib.hid h
  have hql := h.lt
  have c2 := h.r2
  have c5 := h.r5
  have hsl := h.fit.sl
  have E := Lib.hid (fun W => effect_any 7 ⟨by omega, by omega⟩ W)
  rw [show takesC 7 = 2 from rfl, show leavesC 7 = 0 from rfl] at E
  have hrd : Rd w 1 (.slice sa s.st.length sc) s.st.length (i32s s.st.reverse) := by have := h.ops.rd; rw [hsv] at this; exact this
  obtain ⟨N, hN⟩ : ∃ N, N = s.st.length := ⟨_, rfl⟩
  obtain ⟨M, hM⟩ : ∃ M, N = M + 2 := ⟨N - 2, by rw [hst] at hN; simp at hN; omega⟩
  rw [hsv] at c2
  have hMl : s.st.length - 2 = M := by omega
  rw [← hN] at c2 hsl hnc hrd hMl
  obtain ⟨D, hD⟩ : ∃ D : Option Addr, Option.map (fun x => x.add M) sa = D := ⟨_, rfl⟩
  have hx := rd_from hrd (lo := M) (by omega) (show (if sc = M then sa else Option.map (fun x => x.add M) sa) = D from by rw [if_neg (by omega)]; exact hD)
  have hMe : M = s.st.length - 2 := by omega
  have hxl : (i32s s.st.reverse).drop M = i32s (s.st.take 2).reverse := by rw [hMe]; exact take_rev _ _ (by omega)
  rw [hxl, show N - M = 2 by omega] at hx
  have HX := Lib.hid hx
  have HN := Lib.hid hN
  have HSV := Lib.hid hsv
  have HMe := Lib.hid hMe
  have eN : IntKind.i64.wrap ((N : Int) - 2) = M := by rw [show (N : Int) - 2 = M by omega]; exact IntWalk.i64_in _ (by omega)
  have eNM : N - M = 2 := by omega
  have g0 : decide ((N : Int) < 2) = false := by simp; omega
  have g0' : ¬ (N : Int) < 2 := by omega
  have g1 : ¬ (1000 : Int) < (M : Int) := by omega
  have g4 : decide ((1000 : Int) < (M : Int)) = false := by simp; omega
  have m0 : (0 : Int) ≤ (M : Int) := by omega
  have m1 : (M : Int) ≤ (N : Int) := by omega
  have m2 : M ≤ N := by omega
  clear hst h hN hsv hx hxl hrd hMe hMl hM
  have HNM := Lib.hid hnm
  have HP := Lib.hid hp
  have hml := H.out.fit.ml
  have q1 : (0 : Int) ≤ x := by omega
  have q2 : x < (nm : Int) := by omega
  have q3 : x.toNat = p := by omega
  have q4 : p < nm := by omega
  have HOK := Lib.hid (show decide (okAt s x 1) = true from decide_eq_true ⟨by omega, by omega, by omega⟩)
  have HXp := Lib.hid hxp
  have HV := Lib.hid (getD_in H.out.fit p hp)
  have hgq := Lib.hid (H.out.fm g rfl).2
  clear hml hnm hp hxp
  simp only [codeV]
  go_enter Try.func43, Try.ntmps43
  go_wp2_with fail
  refine (E.out _).mono ?_; rintro e w1 ⟨rfl, hw1⟩
  have hM1 : SM false w1 B q F cv (.slice (some ⟨g, 0, none⟩) nm c) iv sv kv ov s := by rw [← hw1]; exact H.out.alloc _
  have hm1 : Mv w F F w1 := by rw [← hw1]; exact (Mv.refl w F).alloc _
  have b0 : w1.cell? ⟨w.heap.size, 0, none⟩ = some (.int .i64 7) := by rw [← hw1]; exact World.cell?_alloc_new w _ _ _
  have b1 : w1.cell? ⟨w.heap.size, 1, none⟩ = some (.int .i32 k) := by rw [← hw1]; exact World.cell?_alloc_new w _ _ _
  have c2' : w1.cell? ⟨q, 2, none⟩ = some (.slice sa N sc) := by rw [← hw1]; exact alloc_keep c2
  have hx1 : Rd w1 1 (.slice D 2 (sc - M)) 2 (i32s (s.st.take 2).reverse) := HX.out.below (B := w.heap.size) (by rw [← hw1]; exact (Below.refl _ _).alloc (Nat.le_refl _) _) (Nat.le_refl _)
  have HX1 := Lib.hid hx1
  have HM1 := Lib.hid hM1
  have Hm1 := Lib.hid hm1
  have HB0 := Lib.hid b0
  have HB1 := Lib.hid b1
  have hl1 := World.block_lt_of_cell? w1 _ b0
  have hq1 := HM1.out.lt
  clear hw1 hM1 hm1 c2 c5 hx1
  go_wp2_with (first | (at_builtin; refine app_own _ elemI32 rfl (.const (.slice none 0 0)) (.tmp 46) rfl w1.heap.size (.slice none 0 0) 0 [] rfl (World.ownsRow_nil _ _ _ _) (.slice D 2 (sc - M)) 2 (i32s (s.st.take 2).reverse) rfl HX1.out (one_i32s _) (by simp [maxLen]) (by simp) (Nat.le_refl _) ?_; intro v8 w2 ho8 hg8; simp only [Nat.zero_add, List.nil_append] at ho8; obtain ⟨xg, xc, rfl, hxc, hxg, hcells⟩ := st_owned ho8 (by omega) (by rw [HST.out]; rfl); have hx0 : w2.cell? ⟨xg, 0, none⟩ = some (.int .i32 x) := (by have := hcells 0 (by omega); rw [HST.out] at this; simpa using this); have hx1 : w2.cell? ⟨xg, 1, none⟩ = some (.int .i32 y) := (by have := hcells 1 (by omega); rw [HST.out] at this; simpa using this); have hlx := World.block_lt_of_cell? _ _ hx0; clear hcells; have hM2 := HM1.out.grown hg8; have hm2 := Hm1.out.grown hg8; have b0 := hg8.cell HB0.out (by simp [Value.ownBlock]); have b1 := hg8.cell HB1.out (by simp [Value.ownBlock]); have c2 := hM2.r2; rw [HSV.out, ← HN.out] at c2; have c5 := hM2.r5; have f2 := hM2.frozen 2; have f5 := hM2.frozen 5; have hq2 := hM2.lt; have hl2 := World.block_lt_of_cell? _ _ b0; have c1 := hM2.r1; have hc1 := hM2.wordAt HNM.out p HP.out; have hm1f := hM2.memFz p; have HM2 := Lib.hid hM2; have Hm2 := Lib.hid hm2; have HO8 := Lib.hid ho8; clear hM2 hm2 ho8 hg8) | fail)
  refine (rplace_any HM2.out x 1 HXI.out (by unfold I32; omega)).mono ?_; rintro e wt ⟨rfl, rfl⟩
  rw [HOK.out]
  go_wp2_with fail
  refine wp_region_still_tail 11 (by kernel_rfl) (by kernel_rfl) ?_
  simp only [List.take_succ_cons, List.take_zero, List.drop_succ_cons, List.drop_zero]
  repeat still_step
  refine wpStill_nil ?_
  have HM7 := Lib.hid (HM2.out.drew.store HNM.out p (by rw [HNM.out]; exact HP.out) y HYI.out)
  have Hm7 := Lib.hid ((Hm2.out.drewN 1).trans ⟨(Fr.refl _ _).setCell (p := ⟨g, p, none⟩) (.inr (HM2.out.fm g rfl).1) (.int .i32 y), fun _ h => .inl h⟩)
  have hgq1 := hgq.out
  have hgq2 := Ne.symm hgq.out
  go_wp2_with (at_builtin; refine app_nothing elemI32 rfl (.tmp 432) (.tmp 433) rfl sa M rfl rfl (fun e => by have := hnone e; omega) ?_; have HR := Lib.hid (rdo_end0 (a := 2) (iv := iv) (rd_sv HM7.out HSV.out) Hm7.out rfl (by rw [← HN.out]; omega) (s.pc + 1) (by omega) (by omega)))
  go_ret
  refine ⟨rfl, ?_⟩
  have hr := HR.out
  rw [← HMe.out] at hr
  have e : s.st.drop 2 = t := by rw [HST.out]; rfl
  rw [e] at hr
  exact hr
set_option maxHeartbeats 3200000 in
theorem rdo_27no (h : SM false w B q F cv mv iv sv kv ov s) (k : Int) (hk : I32 k) (hp0 : 0 ≤ s.pc) (hp1 : s.pc ≤ 1000000) (hkk : ¬ s.kept.length < 1000) :
    Calls Try.prog 43 #[.pointer (some ⟨q, 0, none⟩), codeV 27 k] w fun e w' => e = .returned (.bool false) ∧ FuQ false w B q F cv mv iv s w' := by
  obtain ⟨sa, sc, hsv, hnc, hcm, hnone⟩ := rd_shape h.ops.rd
  have HK := Lib.hid hk
  unfold I32 at hk
  obtain ⟨hk0, hk1⟩ := hk
  have H := Lib.hid h
  have hql := h.lt
  have c2 := h.r2
  have c5 := h.r5
  have hsl := h.fit.sl
  have E := Lib.hid (fun W => effect_any 27 ⟨by omega, by omega⟩ W)
  rw [show takesC 27 = 0 from rfl, show leavesC 27 = 0 from rfl] at E
  have hrd : Rd w 1 (.slice sa s.st.length sc) s.st.length (i32s s.st.reverse) := by have := h.ops.rd; rw [hsv] at this; exact this
  obtain ⟨N, hN⟩ : ∃ N, N = s.st.length := ⟨_, rfl⟩
  obtain ⟨M, hM⟩ : ∃ M, N = M + 0 := ⟨N - 0, by skip; omega⟩
  rw [hsv] at c2
  have hMl : s.st.length - 0 = M := by omega
  have hNM : N = M := by omega
  subst hNM
  rw [← hN] at c2 hsl hnc hrd hMl
  obtain ⟨D, hD⟩ : ∃ D : Option Addr, (if sc = N then sa else Option.map (fun x => x.add N) sa) = D := ⟨_, rfl⟩
  have hx := rd_from hrd (lo := N) (by omega) hD
  have hMe : N = s.st.length - 0 := by omega
  have hxl : (i32s s.st.reverse).drop N = i32s (s.st.take 0).reverse := by rw [hMe]; exact take_rev _ _ (by omega)
  rw [hxl, show N - N = 0 by omega] at hx
  have HX := Lib.hid hx
  have HN := Lib.hid hN
  have HSV := Lib.hid hsv
  have HMe := Lib.hid hMe
  have g0 : decide ((N : Int) < 0) = false := by simp
  have g1 : ¬ (1000 : Int) < (N : Int) := by omega
  have g4 : decide ((1000 : Int) < (N : Int)) = false := by simp; omega
  have m0 : (0 : Int) ≤ (N : Int) := by omega
  have m1 : (N : Int) ≤ (N : Int) := by omega
  have m2 : N ≤ N := by omega
  clear h hN hsv hx hxl hrd hMe hMl hM
  obtain ⟨ka, kc, hkv, _, _, hk0n⟩ := rd_shape H.out.kept.rd
  have HKV := Lib.hid hkv
  obtain ⟨NK, hNK⟩ : ∃ n, n = s.kept.length := ⟨_, rfl⟩
  have HNK := Lib.hid hNK
  have hkl := H.out.fit.kl
  rw [← hNK] at hkl
  clear hkv hk0n
  rw [← hNK] at hkk
  have hkk1 : ¬ (NK : Int) < 1000 := by omega
  have hkk2 : decide ((1000 : Int) ≤ (NK : Int)) = true := by simp; omega
  clear hNK hkk
  simp only [codeV]
  go_enter Try.func43, Try.ntmps43
  go_wp2_with fail
  refine (E.out _).mono ?_; rintro e w1 ⟨rfl, hw1⟩
  have hM1 : SM false w1 B q F cv mv iv sv kv ov s := by rw [← hw1]; exact H.out.alloc _
  have hm1 : Mv w F F w1 := by rw [← hw1]; exact (Mv.refl w F).alloc _
  have b0 : w1.cell? ⟨w.heap.size, 0, none⟩ = some (.int .i64 27) := by rw [← hw1]; exact World.cell?_alloc_new w _ _ _
  have b1 : w1.cell? ⟨w.heap.size, 1, none⟩ = some (.int .i32 k) := by rw [← hw1]; exact World.cell?_alloc_new w _ _ _
  have c2' : w1.cell? ⟨q, 2, none⟩ = some (.slice sa N sc) := by rw [← hw1]; exact alloc_keep c2
  have hx1 : Rd w1 1 (.slice D 0 (sc - N)) 0 (i32s (s.st.take 0).reverse) := HX.out.below (B := w.heap.size) (by rw [← hw1]; exact (Below.refl _ _).alloc (Nat.le_refl _) _) (Nat.le_refl _)
  have HX1 := Lib.hid hx1
  have HM1 := Lib.hid hM1
  have Hm1 := Lib.hid hm1
  have HB0 := Lib.hid b0
  have HB1 := Lib.hid b1
  have hl1 := World.block_lt_of_cell? w1 _ b0
  have hq1 := HM1.out.lt
  clear hw1 hM1 hm1 c2 c5 hx1
  go_wp2_with (first | (at_builtin; refine app_own _ elemI32 rfl (.const (.slice none 0 0)) (.tmp 46) rfl w1.heap.size (.slice none 0 0) 0 [] rfl (World.ownsRow_nil _ _ _ _) (.slice D 0 (sc - N)) 0 (i32s (s.st.take 0).reverse) rfl HX1.out (one_i32s _) (by simp [maxLen]) (by simp) (Nat.le_refl _) ?_; intro v8 w2 ho8 hg8; simp only [Nat.zero_add, List.nil_append] at ho8; obtain ⟨xa, xc, rfl, _⟩ := owns_shape ho8; have hM2 := HM1.out.grown hg8; have hm2 := Hm1.out.grown hg8; have b0 := hg8.cell HB0.out (by simp [Value.ownBlock]); have b1 := hg8.cell HB1.out (by simp [Value.ownBlock]); have c2 := hM2.r2; rw [HSV.out, ← HN.out] at c2; have c5 := hM2.r5; have f2 := hM2.frozen 2; have f5 := hM2.frozen 5; have hq2 := hM2.lt; have hl2 := World.block_lt_of_cell? _ _ b0; have c6 := hM2.r6; rw [HKV.out, ← HNK.out] at c6; have f6 := hM2.frozen 6; have HM2 := Lib.hid hM2; have Hm2 := Lib.hid hm2; have HO8 := Lib.hid ho8; clear hM2 hm2 ho8 hg8) | fail)
  go_ret
  exact ⟨rfl, HM2.out.fuq Hm2.out⟩
set_option maxHeartbeats 3200000 in
theorem rdo_29no (h : SM false w B q F cv mv iv sv kv ov s) (k : Int) (hk : I32 k) (hp0 : 0 ≤ s.pc) (hp1 : s.pc ≤ 1000000) (hkk : s.kept = []) :
    Calls Try.prog 43 #[.pointer (some ⟨q, 0, none⟩), codeV 29 k] w fun e w' => e = .returned (.bool false) ∧ FuQ false w B q F cv mv iv s w' := by
  obtain ⟨sa, sc, hsv, hnc, hcm, hnone⟩ := rd_shape h.ops.rd
  have HK := Lib.hid hk
  unfold I32 at hk
  obtain ⟨hk0, hk1⟩ := hk
  have H := Lib.hid h
  have hql := h.lt
  have c2 := h.r2
  have c5 := h.r5
  have hsl := h.fit.sl
  have E := Lib.hid (fun W => effect_any 29 ⟨by omega, by omega⟩ W)
  rw [show takesC 29 = 0 from rfl, show leavesC 29 = 0 from rfl] at E
  have hrd : Rd w 1 (.slice sa s.st.length sc) s.st.length (i32s s.st.reverse) := by have := h.ops.rd; rw [hsv] at this; exact this
  obtain ⟨N, hN⟩ : ∃ N, N = s.st.length := ⟨_, rfl⟩
  obtain ⟨M, hM⟩ : ∃ M, N = M + 0 := ⟨N - 0, by skip; omega⟩
  rw [hsv] at c2
  have hMl : s.st.length - 0 = M := by omega
  have hNM : N = M := by omega
  subst hNM
  rw [← hN] at c2 hsl hnc hrd hMl
  obtain ⟨D, hD⟩ : ∃ D : Option Addr, (if sc = N then sa else Option.map (fun x => x.add N) sa) = D := ⟨_, rfl⟩
  have hx := rd_from hrd (lo := N) (by omega) hD
  have hMe : N = s.st.length - 0 := by omega
  have hxl : (i32s s.st.reverse).drop N = i32s (s.st.take 0).reverse := by rw [hMe]; exact take_rev _ _ (by omega)
  rw [hxl, show N - N = 0 by omega] at hx
  have HX := Lib.hid hx
  have HN := Lib.hid hN
  have HSV := Lib.hid hsv
  have HMe := Lib.hid hMe
  have g0 : decide ((N : Int) < 0) = false := by simp
  have g1 : ¬ (1000 : Int) < (N : Int) := by omega
  have g4 : decide ((1000 : Int) < (N : Int)) = false := by simp; omega
  have m0 : (0 : Int) ≤ (N : Int) := by omega
  have m1 : (N : Int) ≤ (N : Int) := by omega
  have m2 : N ≤ N := by omega
  clear h hN hsv hx hxl hrd hMe hMl hM
  obtain ⟨ka, kc, hkv, _, _, hk0n⟩ := rd_shape H.out.kept.rd
  have HKV := Lib.hid hkv
  obtain ⟨NK, hNK⟩ : ∃ n, n = s.kept.length := ⟨_, rfl⟩
  have HNK := Lib.hid hNK
  have hkl := H.out.fit.kl
  rw [← hNK] at hkl
  clear hkv hk0n
  have HKZ := Lib.hid (show NK = 0 from by rw [hNK, hkk]; rfl)
  clear hNK hkk hkl
  simp only [codeV]
  go_enter Try.func43, Try.ntmps43
  go_wp2_with fail
  refine (E.out _).mono ?_; rintro e w1 ⟨rfl, hw1⟩
  have hM1 : SM false w1 B q F cv mv iv sv kv ov s := by rw [← hw1]; exact H.out.alloc _
  have hm1 : Mv w F F w1 := by rw [← hw1]; exact (Mv.refl w F).alloc _
  have b0 : w1.cell? ⟨w.heap.size, 0, none⟩ = some (.int .i64 29) := by rw [← hw1]; exact World.cell?_alloc_new w _ _ _
  have b1 : w1.cell? ⟨w.heap.size, 1, none⟩ = some (.int .i32 k) := by rw [← hw1]; exact World.cell?_alloc_new w _ _ _
  have c2' : w1.cell? ⟨q, 2, none⟩ = some (.slice sa N sc) := by rw [← hw1]; exact alloc_keep c2
  have hx1 : Rd w1 1 (.slice D 0 (sc - N)) 0 (i32s (s.st.take 0).reverse) := HX.out.below (B := w.heap.size) (by rw [← hw1]; exact (Below.refl _ _).alloc (Nat.le_refl _) _) (Nat.le_refl _)
  have HX1 := Lib.hid hx1
  have HM1 := Lib.hid hM1
  have Hm1 := Lib.hid hm1
  have HB0 := Lib.hid b0
  have HB1 := Lib.hid b1
  have hl1 := World.block_lt_of_cell? w1 _ b0
  have hq1 := HM1.out.lt
  clear hw1 hM1 hm1 c2 c5 hx1
  go_wp2_with (first | (at_builtin; refine app_own _ elemI32 rfl (.const (.slice none 0 0)) (.tmp 46) rfl w1.heap.size (.slice none 0 0) 0 [] rfl (World.ownsRow_nil _ _ _ _) (.slice D 0 (sc - N)) 0 (i32s (s.st.take 0).reverse) rfl HX1.out (one_i32s _) (by simp [maxLen]) (by simp) (Nat.le_refl _) ?_; intro v8 w2 ho8 hg8; simp only [Nat.zero_add, List.nil_append] at ho8; obtain ⟨xa, xc, rfl, _⟩ := owns_shape ho8; have hM2 := HM1.out.grown hg8; have hm2 := Hm1.out.grown hg8; have b0 := hg8.cell HB0.out (by simp [Value.ownBlock]); have b1 := hg8.cell HB1.out (by simp [Value.ownBlock]); have c2 := hM2.r2; rw [HSV.out, ← HN.out] at c2; have c5 := hM2.r5; have f2 := hM2.frozen 2; have f5 := hM2.frozen 5; have hq2 := hM2.lt; have hl2 := World.block_lt_of_cell? _ _ b0; have c6 := hM2.r6; rw [HKV.out, ← HNK.out] at c6; have f6 := hM2.frozen 6; rw [HKZ.out] at c6; have HM2 := Lib.hid hM2; have Hm2 := Lib.hid hm2; have HO8 := Lib.hid ho8; clear hM2 hm2 ho8 hg8) | fail)
  go_ret
  exact ⟨rfl, HM2.out.fuq Hm2.out⟩
set_option maxHeartbeats 3200000 in
theorem rdo_31e (h : SM false w B q F cv mv iv sv kv ov s) (k : Int) (hk : I32 k) (hp0 : 0 ≤ s.pc) (hp1 : s.pc ≤ 1000000) (hl : s.st.length < 1000) (hin : s.inp = []) :
    Calls Try.prog 43 #[.pointer (some ⟨q, 0, none⟩), codeV 31 k] w fun e w' => e = .returned (.bool true) ∧ FuQ false w B q F cv mv iv { s with st := 0 :: s.st, pc := s.pc + 1 } w' := by
  obtain ⟨sa, sc, hsv, hnc, hcm, hnone⟩ := rd_shape h.ops.rd
  have HK := Lib.hid hk
  unfold I32 at hk
  obtain ⟨hk0, hk1⟩ := hk
  have H := Lib.hid h
  have hql := h.lt
  have c2 := h.r2
  have c5 := h.r5
  have hsl := h.fit.sl
  have E := Lib.hid (fun W => effect_any 31 ⟨by omega, by omega⟩ W)
  rw [show takesC 31 = 0 from rfl, show leavesC 31 = 1 from rfl] at E
  have hrd : Rd w 1 (.slice sa s.st.length sc) s.st.length (i32s s.st.reverse) := by have := h.ops.rd; rw [hsv] at this; exact this
  obtain ⟨N, hN⟩ : ∃ N, N = s.st.length := ⟨_, rfl⟩
  obtain ⟨M, hM⟩ : ∃ M, N = M + 0 := ⟨N - 0, by skip; omega⟩
  rw [hsv] at c2
  have hMl : s.st.length - 0 = M := by omega
  have hNM : N = M := by omega
  subst hNM
  rw [← hN] at c2 hsl hnc hrd hMl
  obtain ⟨D, hD⟩ : ∃ D : Option Addr, (if sc = N then sa else Option.map (fun x => x.add N) sa) = D := ⟨_, rfl⟩
  have hx := rd_from hrd (lo := N) (by omega) hD
  have hMe : N = s.st.length - 0 := by omega
  have hxl : (i32s s.st.reverse).drop N = i32s (s.st.take 0).reverse := by rw [hMe]; exact take_rev _ _ (by omega)
  rw [hxl, show N - N = 0 by omega] at hx
  have HX := Lib.hid hx
  have HN := Lib.hid hN
  have HSV := Lib.hid hsv
  have HMe := Lib.hid hMe
  have g0 : decide ((N : Int) < 0) = false := by simp
  have g1 : ¬ (1000 : Int) < (N : Int) + 1 := by omega
  have g4 : decide ((1000 : Int) < (N : Int) + 1) = false := by simp; omega
  have m0 : (0 : Int) ≤ (N : Int) := by omega
  have m1 : (N : Int) ≤ (N : Int) := by omega
  have m2 : N ≤ N := by omega
  clear h hN hsv hx hxl hrd hMe hMl hM
  obtain ⟨ia, ic, hiv, _, _, _⟩ := rd_shape H.out.inp
  have HIV := Lib.hid hiv
  have HIZ := Lib.hid (show s.inp.length = 0 from by rw [hin]; rfl)
  clear hiv hin
  simp only [codeV]
  go_enter Try.func43, Try.ntmps43
  go_wp2_with fail
  refine (E.out _).mono ?_; rintro e w1 ⟨rfl, hw1⟩
  have hM1 : SM false w1 B q F cv mv iv sv kv ov s := by rw [← hw1]; exact H.out.alloc _
  have hm1 : Mv w F F w1 := by rw [← hw1]; exact (Mv.refl w F).alloc _
  have b0 : w1.cell? ⟨w.heap.size, 0, none⟩ = some (.int .i64 31) := by rw [← hw1]; exact World.cell?_alloc_new w _ _ _
  have b1 : w1.cell? ⟨w.heap.size, 1, none⟩ = some (.int .i32 k) := by rw [← hw1]; exact World.cell?_alloc_new w _ _ _
  have c2' : w1.cell? ⟨q, 2, none⟩ = some (.slice sa N sc) := by rw [← hw1]; exact alloc_keep c2
  have hx1 : Rd w1 1 (.slice D 0 (sc - N)) 0 (i32s (s.st.take 0).reverse) := HX.out.below (B := w.heap.size) (by rw [← hw1]; exact (Below.refl _ _).alloc (Nat.le_refl _) _) (Nat.le_refl _)
  have HX1 := Lib.hid hx1
  have HM1 := Lib.hid hM1
  have Hm1 := Lib.hid hm1
  have HB0 := Lib.hid b0
  have HB1 := Lib.hid b1
  have hl1 := World.block_lt_of_cell? w1 _ b0
  have hq1 := HM1.out.lt
  clear hw1 hM1 hm1 c2 c5 hx1
  go_wp2_with (first | (at_builtin; refine app_own _ elemI32 rfl (.const (.slice none 0 0)) (.tmp 46) rfl w1.heap.size (.slice none 0 0) 0 [] rfl (World.ownsRow_nil _ _ _ _) (.slice D 0 (sc - N)) 0 (i32s (s.st.take 0).reverse) rfl HX1.out (one_i32s _) (by simp [maxLen]) (by simp) (Nat.le_refl _) ?_; intro v8 w2 ho8 hg8; simp only [Nat.zero_add, List.nil_append] at ho8; obtain ⟨xa, xc, rfl, _⟩ := owns_shape ho8; have hM2 := HM1.out.grown hg8; have hm2 := Hm1.out.grown hg8; have b0 := hg8.cell HB0.out (by simp [Value.ownBlock]); have b1 := hg8.cell HB1.out (by simp [Value.ownBlock]); have c2 := hM2.r2; rw [HSV.out, ← HN.out] at c2; have c5 := hM2.r5; have f2 := hM2.frozen 2; have f5 := hM2.frozen 5; have hq2 := hM2.lt; have hl2 := World.block_lt_of_cell? _ _ b0; have c7 := hM2.r7; rw [HIV.out, HIZ.out] at c7; have HM2 := Lib.hid hM2; have Hm2 := Lib.hid hm2; have HO8 := Lib.hid ho8; clear hM2 hm2 ho8 hg8) | (at_builtin; refine app_full _ elemI32 rfl (.tmp 432) (.tmp 433) rfl sa N (i32s (s.st.drop 0).reverse) rfl (rd_left (HM2.out) HSV.out HN.out HMe.out _) (.slice (some ⟨w2.heap.size, 0, none⟩) 1 1) 1 (i32s [0]) rfl (rd_new _ (i32s [0]) _ 1 1 (by simp [i32s]) (by simp [maxLen])) (one_i32s _) (by omega) (by simp only [maxLen]; omega) (by omega) ?_; intro v3 w3 ho3 hg3; obtain ⟨va, vc, rfl, _⟩ := owns_shape ho3; have hM3 := ((HM2.out).alloc (.cells (i32s [0]).toArray 21)).grown hg3; have c2 := hM3.r2; have f2 := hM3.frozen 2; have c5 := hM3.r5; have f5 := hM3.frozen 5; have hq3 := hM3.lt; have HR := Lib.hid (rdo_end (o := [0]) (a := 0) (iv := iv) ((HM2.out).alloc (.cells (i32s [0]).toArray 21)) ((Hm2.out).alloc (.cells (i32s [0]).toArray 21)) rfl (by rw [← HMe.out]; exact ho3) hg3 (by rw [← HN.out]; omega) (by intro z hz; rw [List.mem_singleton.1 hz]; unfold I32; omega) (by rw [← HMe.out]; simp; omega) (s.pc + 1) (by omega) (by omega)); clear hM3 ho3 hg3))
  go_ret
  exact ⟨rfl, HR.out⟩
set_option maxHeartbeats 3200000 in
theorem rdo_8no1 (h : SM false w B q F cv mv iv sv kv ov s) (k : Int) (hk : I32 k) (hp0 : 0 ≤ s.pc) (hp1 : s.pc ≤ 1000000) {x y : Int} {t : List Int} (hst : s.st = y :: x :: t) (hno : ¬ okAt s x k) :
    Calls Try.prog 43 #[.pointer (some ⟨q, 0, none⟩), codeV 8 k] w fun e w' => e = .returned (.bool false) ∧ FuQ false w B q F cv mv iv s w' := by
  obtain ⟨sa, sc, hsv, hnc, hcm, hnone⟩ := rd_shape h.ops.rd
  have HK := Lib.hid hk
  unfold I32 at hk
  obtain ⟨hk0, hk1⟩ := hk
  have HST := Lib.hid hst
  have hxi : I32 x := h.fit.st x (by rw [hst]; simp)
  have HXI := Lib.hid hxi
  unfold I32 at hxi
  obtain ⟨hxi0, hxi1⟩ := hxi
  have hyi : I32 y := h.fit.st y (by rw [hst]; simp)
  have HYI := Lib.hid hyi
  unfold I32 at hyi
  obtain ⟨hyi0, hyi1⟩ := hyi
  have H := Lib.hid h
  have hql := h.lt
  have c2 := h.r2
  have c5 := h.r5
  have hsl := h.fit.sl
  have E := Lib.hid (fun W => effect_any 8 ⟨by omega, by omega⟩ W)
  rw [show takesC 8 = 2 from rfl, show leavesC 8 = 0 from rfl] at E
  have hrd : Rd w 1 (.slice sa s.st.length sc) s.st.length (i32s s.st.reverse) := by have := h.ops.rd; rw [hsv] at this; exact this
  obtain ⟨N, hN⟩ : ∃ N, N = s.st.length := ⟨_, rfl⟩
  obtain ⟨M, hM⟩ : ∃ M, N = M + 2 := ⟨N - 2, by rw [hst] at hN; simp at hN; omega⟩
  rw [hsv] at c2
  have hMl : s.st.length - 2 = M := by omega
  rw [← hN] at c2 hsl hnc hrd hMl
  obtain ⟨D, hD⟩ : ∃ D : Option Addr, Option.map (fun x => x.add M) sa = D := ⟨_, rfl⟩
  have hx := rd_from hrd (lo := M) (by omega) (show (if sc = M then sa else Option.map (fun x => x.add M) sa) = D from by rw [if_neg (by omega)]; exact hD)
  have hMe : M = s.st.length - 2 := by omega
  have hxl : (i32s s.st.reverse).drop M = i32s (s.st.take 2).reverse := by rw [hMe]; exact take_rev _ _ (by omega)
  rw [hxl, show N - M = 2 by omega] at hx
  have HX := Lib.hid hx
  have HN := Lib.hid hN
  have HSV := Lib.hid hsv
  have HMe := Lib.hid hMe
  have eN : IntKind.i64.wrap ((N : Int) - 2) = M := by rw [show (N : Int) - 2 = M by omega]; exact IntWalk.i64_in _ (by omega)
  have eNM : N - M = 2 := by omega
  have g0 : decide ((N : Int) < 2) = false := by simp; omega
  have g0' : ¬ (N : Int) < 2 := by omega
  have g1 : ¬ (1000 : Int) < (M : Int) := by omega
  have g4 : decide ((1000 : Int) < (M : Int)) = false := by simp; omega
  have m0 : (0 : Int) ≤ (M : Int) := by omega
  have m1 : (M : Int) ≤ (N : Int) := by omega
  have m2 : M ≤ N := by omega
  clear hst h hN hsv hx hxl hrd hMe hMl hM
  have HOK := Lib.hid (show decide (okAt s x k) = false from decide_eq_false hno)
  clear hno
  simp only [codeV]
  go_enter Try.func43, Try.ntmps43
  go_wp2_with fail
  refine (E.out _).mono ?_; rintro e w1 ⟨rfl, hw1⟩
  have hM1 : SM false w1 B q F cv mv iv sv kv ov s := by rw [← hw1]; exact H.out.alloc _
  have hm1 : Mv w F F w1 := by rw [← hw1]; exact (Mv.refl w F).alloc _
  have b0 : w1.cell? ⟨w.heap.size, 0, none⟩ = some (.int .i64 8) := by rw [← hw1]; exact World.cell?_alloc_new w _ _ _
  have b1 : w1.cell? ⟨w.heap.size, 1, none⟩ = some (.int .i32 k) := by rw [← hw1]; exact World.cell?_alloc_new w _ _ _
  have c2' : w1.cell? ⟨q, 2, none⟩ = some (.slice sa N sc) := by rw [← hw1]; exact alloc_keep c2
  have hx1 : Rd w1 1 (.slice D 2 (sc - M)) 2 (i32s (s.st.take 2).reverse) := HX.out.below (B := w.heap.size) (by rw [← hw1]; exact (Below.refl _ _).alloc (Nat.le_refl _) _) (Nat.le_refl _)
  have HX1 := Lib.hid hx1
  have HM1 := Lib.hid hM1
  have Hm1 := Lib.hid hm1
  have HB0 := Lib.hid b0
  have HB1 := Lib.hid b1
  have hl1 := World.block_lt_of_cell? w1 _ b0
  have hq1 := HM1.out.lt
  clear hw1 hM1 hm1 c2 c5 hx1
  go_wp2_with (first | (at_builtin; refine app_own _ elemI32 rfl (.const (.slice none 0 0)) (.tmp 46) rfl w1.heap.size (.slice none 0 0) 0 [] rfl (World.ownsRow_nil _ _ _ _) (.slice D 2 (sc - M)) 2 (i32s (s.st.take 2).reverse) rfl HX1.out (one_i32s _) (by simp [maxLen]) (by simp) (Nat.le_refl _) ?_; intro v8 w2 ho8 hg8; simp only [Nat.zero_add, List.nil_append] at ho8; obtain ⟨xg, xc, rfl, hxc, hxg, hcells⟩ := st_owned ho8 (by omega) (by rw [HST.out]; rfl); have hx0 : w2.cell? ⟨xg, 0, none⟩ = some (.int .i32 x) := (by have := hcells 0 (by omega); rw [HST.out] at this; simpa using this); have hx1 : w2.cell? ⟨xg, 1, none⟩ = some (.int .i32 y) := (by have := hcells 1 (by omega); rw [HST.out] at this; simpa using this); have hlx := World.block_lt_of_cell? _ _ hx0; clear hcells; have hM2 := HM1.out.grown hg8; have hm2 := Hm1.out.grown hg8; have b0 := hg8.cell HB0.out (by simp [Value.ownBlock]); have b1 := hg8.cell HB1.out (by simp [Value.ownBlock]); have c2 := hM2.r2; rw [HSV.out, ← HN.out] at c2; have c5 := hM2.r5; have f2 := hM2.frozen 2; have f5 := hM2.frozen 5; have hq2 := hM2.lt; have hl2 := World.block_lt_of_cell? _ _ b0; have HM2 := Lib.hid hM2; have Hm2 := Lib.hid hm2; have HO8 := Lib.hid ho8; clear hM2 hm2 ho8 hg8) | fail)
  refine (rplace_any HM2.out x k HXI.out HK.out).mono ?_; rintro e wt ⟨rfl, rfl⟩
  rw [HOK.out]
  go_wp2_with fail
  go_ret
  exact ⟨rfl, HM2.out.fuq Hm2.out⟩
set_option maxHeartbeats 3200000 in
theorem rdo_8no2 (h : SM false w B q F cv mv iv sv kv ov s) (k : Int) (hk : I32 k) (hp0 : 0 ≤ s.pc) (hp1 : s.pc ≤ 1000000) {x y : Int} {t : List Int} (hst : s.st = y :: x :: t) (hyes : okAt s x k) (hno : ¬ okAt s y k) :
    Calls Try.prog 43 #[.pointer (some ⟨q, 0, none⟩), codeV 8 k] w fun e w' => e = .returned (.bool false) ∧ FuQ false w B q F cv mv iv s w' := by
  obtain ⟨sa, sc, hsv, hnc, hcm, hnone⟩ := rd_shape h.ops.rd
  have HK := Lib.hid hk
  unfold I32 at hk
  obtain ⟨hk0, hk1⟩ := hk
  have HST := Lib.hid hst
  have hxi : I32 x := h.fit.st x (by rw [hst]; simp)
  have HXI := Lib.hid hxi
  unfold I32 at hxi
  obtain ⟨hxi0, hxi1⟩ := hxi
  have hyi : I32 y := h.fit.st y (by rw [hst]; simp)
  have HYI := Lib.hid hyi
  unfold I32 at hyi
  obtain ⟨hyi0, hyi1⟩ := hyi
  have H := Lib.hid h
  have hql := h.lt
  have c2 := h.r2
  have c5 := h.r5
  have hsl := h.fit.sl
  have E := Lib.hid (fun W => effect_any 8 ⟨by omega, by omega⟩ W)
  rw [show takesC 8 = 2 from rfl, show leavesC 8 = 0 from rfl] at E
  have hrd : Rd w 1 (.slice sa s.st.length sc) s.st.length (i32s s.st.reverse) := by have := h.ops.rd; rw [hsv] at this; exact this
  obtain ⟨N, hN⟩ : ∃ N, N = s.st.length := ⟨_, rfl⟩
  obtain ⟨M, hM⟩ : ∃ M, N = M + 2 := ⟨N - 2, by rw [hst] at hN; simp at hN; omega⟩
  rw [hsv] at c2
  have hMl : s.st.length - 2 = M := by omega
  rw [← hN] at c2 hsl hnc hrd hMl
  obtain ⟨D, hD⟩ : ∃ D : Option Addr, Option.map (fun x => x.add M) sa = D := ⟨_, rfl⟩
  have hx := rd_from hrd (lo := M) (by omega) (show (if sc = M then sa else Option.map (fun x => x.add M) sa) = D from by rw [if_neg (by omega)]; exact hD)
  have hMe : M = s.st.length - 2 := by omega
  have hxl : (i32s s.st.reverse).drop M = i32s (s.st.take 2).reverse := by rw [hMe]; exact take_rev _ _ (by omega)
  rw [hxl, show N - M = 2 by omega] at hx
  have HX := Lib.hid hx
  have HN := Lib.hid hN
  have HSV := Lib.hid hsv
  have HMe := Lib.hid hMe
  have eN : IntKind.i64.wrap ((N : Int) - 2) = M := by rw [show (N : Int) - 2 = M by omega]; exact IntWalk.i64_in _ (by omega)
  have eNM : N - M = 2 := by omega
  have g0 : decide ((N : Int) < 2) = false := by simp; omega
  have g0' : ¬ (N : Int) < 2 := by omega
  have g1 : ¬ (1000 : Int) < (M : Int) := by omega
  have g4 : decide ((1000 : Int) < (M : Int)) = false := by simp; omega
  have m0 : (0 : Int) ≤ (M : Int) := by omega
  have m1 : (M : Int) ≤ (N : Int) := by omega
  have m2 : M ≤ N := by omega
  clear hst h hN hsv hx hxl hrd hMe hMl hM
  have HOK := Lib.hid (show decide (okAt s x k) = true from decide_eq_true hyes)
  have HOK2 := Lib.hid (show decide (okAt s y k) = false from decide_eq_false hno)
  clear hno hyes
  simp only [codeV]
  go_enter Try.func43, Try.ntmps43
  go_wp2_with fail
  refine (E.out _).mono ?_; rintro e w1 ⟨rfl, hw1⟩
  have hM1 : SM false w1 B q F cv mv iv sv kv ov s := by rw [← hw1]; exact H.out.alloc _
  have hm1 : Mv w F F w1 := by rw [← hw1]; exact (Mv.refl w F).alloc _
  have b0 : w1.cell? ⟨w.heap.size, 0, none⟩ = some (.int .i64 8) := by rw [← hw1]; exact World.cell?_alloc_new w _ _ _
  have b1 : w1.cell? ⟨w.heap.size, 1, none⟩ = some (.int .i32 k) := by rw [← hw1]; exact World.cell?_alloc_new w _ _ _
  have c2' : w1.cell? ⟨q, 2, none⟩ = some (.slice sa N sc) := by rw [← hw1]; exact alloc_keep c2
  have hx1 : Rd w1 1 (.slice D 2 (sc - M)) 2 (i32s (s.st.take 2).reverse) := HX.out.below (B := w.heap.size) (by rw [← hw1]; exact (Below.refl _ _).alloc (Nat.le_refl _) _) (Nat.le_refl _)
  have HX1 := Lib.hid hx1
  have HM1 := Lib.hid hM1
  have Hm1 := Lib.hid hm1
  have HB0 := Lib.hid b0
  have HB1 := Lib.hid b1
  have hl1 := World.block_lt_of_cell? w1 _ b0
  have hq1 := HM1.out.lt
  clear hw1 hM1 hm1 c2 c5 hx1
  go_wp2_with (first | (at_builtin; refine app_own _ elemI32 rfl (.const (.slice none 0 0)) (.tmp 46) rfl w1.heap.size (.slice none 0 0) 0 [] rfl (World.ownsRow_nil _ _ _ _) (.slice D 2 (sc - M)) 2 (i32s (s.st.take 2).reverse) rfl HX1.out (one_i32s _) (by simp [maxLen]) (by simp) (Nat.le_refl _) ?_; intro v8 w2 ho8 hg8; simp only [Nat.zero_add, List.nil_append] at ho8; obtain ⟨xg, xc, rfl, hxc, hxg, hcells⟩ := st_owned ho8 (by omega) (by rw [HST.out]; rfl); have hx0 : w2.cell? ⟨xg, 0, none⟩ = some (.int .i32 x) := (by have := hcells 0 (by omega); rw [HST.out] at this; simpa using this); have hx1 : w2.cell? ⟨xg, 1, none⟩ = some (.int .i32 y) := (by have := hcells 1 (by omega); rw [HST.out] at this; simpa using this); have hlx := World.block_lt_of_cell? _ _ hx0; clear hcells; have hM2 := HM1.out.grown hg8; have hm2 := Hm1.out.grown hg8; have b0 := hg8.cell HB0.out (by simp [Value.ownBlock]); have b1 := hg8.cell HB1.out (by simp [Value.ownBlock]); have c2 := hM2.r2; rw [HSV.out, ← HN.out] at c2; have c5 := hM2.r5; have f2 := hM2.frozen 2; have f5 := hM2.frozen 5; have hq2 := hM2.lt; have hl2 := World.block_lt_of_cell? _ _ b0; have HM2 := Lib.hid hM2; have Hm2 := Lib.hid hm2; have HO8 := Lib.hid ho8; clear hM2 hm2 ho8 hg8) | fail)
  refine (rplace_any HM2.out x k HXI.out HK.out).mono ?_; rintro e wt ⟨rfl, rfl⟩
  rw [HOK.out]
  go_wp2_with fail
  refine (rplace_any HM2.out y k HYI.out HK.out).mono ?_; rintro e wt ⟨rfl, rfl⟩
  rw [HOK2.out]
  go_wp2_with fail
  go_ret
  exact ⟨rfl, HM2.out.fuq Hm2.out⟩
end
end Go.Proofs.Ytgkdphnhfjjepaa

/- A region that draws its order: a condition on the world that is held only till one operation has come up. -/
namespace Go.Waf

section
variable {P : Program} {ops : Array Oper} {Q : Exit → Act → World → Prop} {md : Region.Mode} {S : World → Prop} {st : Nat}

/-- S is asked for as long as operation st has not come up. -/
def Till (st : Nat) (S : World → Prop) (L : Array Bool) (w : World) : Prop := L.getD st false = false → S w
/-- What has come up is closed: all that it waits for has come up. -/
def Closed (md : Region.Mode) (ops : Array Oper) (L : Array Bool) : Prop := ∀ j oj, ops[j]? = some oj → L.getD j false = true → ∀ e ∈ oj.after, Region.binds md e = true → L.getD e.on false = true
theorem Closed.set {L : Array Bool} {i : Nat} (h : Closed md ops L) (hi : i ∈ Region.ready md ops L) : Closed md ops (L.setIfInBounds i true) := by
  obtain ⟨_, oi, hoi, hall⟩ := mem_ready.1 hi
  intro j oj hj hl e he hb
  by_cases hij : i = j
  · subst hij
    have : oj = oi := Option.some.inj (hj.symm.trans hoi)
    subst this
    exact getD_set_true (hall e he hb)
  · rw [getD_set_ne false hij] at hl
    exact getD_set_true (h j oj hj hl e he hb)
/-- What waits for i, by others, among the first n. -/
def reachL (md : Region.Mode) (ops : Array Oper) (i : Nat) : Nat → List Nat
  | 0 => [i]
  | n + 1 =>
    match ops[n]? with
    | some o => if o.after.any (fun e => Region.binds md e && (reachL md ops i n).contains e.on) then n :: reachL md ops i n else reachL md ops i n
    | none => reachL md ops i n
def reachB (md : Region.Mode) (ops : Array Oper) (i st : Nat) : Bool := (reachL md ops i (st + 1)).contains st
theorem reachL_spec {L : Array Bool} (hc : Closed md ops L) {i : Nat} : ∀ (n j : Nat), j ∈ reachL md ops i n → L.getD j false = true → L.getD i false = true
  | 0, j, h, hl => by
    have : j = i := by simpa [reachL] using h
    rw [← this]; exact hl
  | n + 1, j, h, hl => by
    unfold reachL at h
    split at h
    · rename_i o ho
      split at h
      · rename_i hany
        rcases List.mem_cons.1 h with h | h
        · subst h
          obtain ⟨e, he, hb⟩ := Array.any_eq_true'.1 hany
          simp only [Bool.and_eq_true, List.contains_eq_mem, decide_eq_true_eq] at hb
          exact reachL_spec hc _ e.on hb.2 (hc _ o ho hl e he hb.1)
        · exact reachL_spec hc n j h hl
      · exact reachL_spec hc n j h hl
    · exact reachL_spec hc n j h hl
theorem reach_spec {L : Array Bool} (hc : Closed md ops L) {i st : Nat} (h : reachB md ops i st = true) (hl : L.getD st false = true) : L.getD i false = true :=
  reachL_spec hc (st + 1) st (by simpa [reachB] using h) hl

/-- Whatever order is picked from here on, and S holds behind every operation, till st has come up. -/
def wpAnyT0 (P : Program) (md : Region.Mode) (ops : Array Oper) (Q : Exit → Act → World → Prop) (st : Nat) (S : World → Prop) : Nat → Array Bool → Act → World → Prop
  | 0, listed, a, w => Region.ready md ops listed = [] ∧ Q .normal a w
  | fuel + 1, listed, a, w =>
    (Region.ready md ops listed = [] → Q .normal a w) ∧
    ∀ i ∈ Region.ready md ops listed, wpOp P ops Q i (fun a' w' => Till st S (listed.setIfInBounds i true) w' ∧ wpAnyT0 P md ops Q st S fuel (listed.setIfInBounds i true) a' w') a w

theorem wpAny_of_till : ∀ (fuel : Nat) (listed : Array Bool) (a : Act) (w : World), wpAnyT0 P md ops Q st S fuel listed a w → wpAny P md ops Q fuel listed a w
  | 0, _, _, _, h => h
  | fuel + 1, _, _, _, h => ⟨h.1, fun i hi => wpOp_mono (fun a' w' h' => wpAny_of_till fuel _ a' w' h'.2) (h.2 i hi)⟩

theorem wpAnyT0_first {i : Nat} {oi : Oper} {v : Value} (hi : ops[i]? = some oi) (hsel : ∀ (j : Nat) (o : Oper) cs b, ops[j]? = some o → o.op ≠ .select cs b)
    (hQ : ∀ c a w, Q (.panic c) (a.put oi.dst v) w → Q (.panic c) a w) (hst : reachB md ops i st = true) (hne : i ≠ st) :
    ∀ (fuel : Nat) (listed : Array Bool) (a : Act) (w : World), Closed md ops listed →
      (∀ j oj, ops[j]? = some oj → j ≠ i → listed.getD j true = false → (∀ e ∈ oj.after, Region.binds md e = true → e.on ≠ i) → oi.apart ops oj = true) →
      i ∈ Region.ready md ops listed → YieldsIf P ops S oi v a → Till st S listed w →
      wpAnyT0 P md ops Q st S fuel (listed.setIfInBounds i true) (a.put oi.dst v) w → wpAnyT0 P md ops Q st S (fuel + 1) listed a w := by
  intro fuel
  have hno : ∀ (L : Array Bool), Closed md ops L → i ∈ Region.ready md ops L → L.getD st false = false := fun L hc hr => by
    cases hl : L.getD st false with
    | false => rfl
    | true =>
      have h1 := reach_spec hc hst hl
      rw [getD_both (mem_ready.1 hr).1] at h1
      cases h1
  have hsame : ∀ (L : Array Bool) (w : World), Till st S L w → Till st S (L.setIfInBounds i true) w := fun L w h h1 => h (by rw [getD_set_ne false hne] at h1; exact h1)
  have hback : ∀ (L : Array Bool) (w : World), Till st S (L.setIfInBounds i true) w → Till st S L w := fun L w h h1 => h (by rw [getD_set_ne false hne]; exact h1)
  induction fuel with
  | zero =>
    intro listed a w hc _ hr hy hS H
    refine ⟨fun h => (by rw [h] at hr; cases hr), fun j hj => ?_⟩
    by_cases hji : j = i
    · subst hji; exact hy.wpOp hi (hS (hno _ hc hr)) ⟨hsame _ _ hS, H⟩
    · have := ready_mono hj hji
      rw [H.1] at this
      cases this
  | succ fuel ih =>
    intro listed a w hc hfree hr hy hS H
    refine ⟨fun h => (by rw [h] at hr; cases hr), fun j hj => ?_⟩
    by_cases hji : j = i
    · subst hji; exact hy.wpOp hi (hS (hno _ hc hr)) ⟨hsame _ _ hS, H⟩
    · have h1 := H.2 j (ready_mono hj hji)
      obtain ⟨hjun, oj, hoj, hall⟩ := mem_ready.1 hj
      have hnot : ∀ e ∈ oj.after, Region.binds md e = true → e.on ≠ i := fun e he hb heq => by
        have h1 := hall e he hb
        rw [heq, getD_both (mem_ready.1 hr).1] at h1
        cases h1
      have h2 := wpOp_putIf hoj (hfree j oj hoj hji hjun hnot) (fun cs b => hsel i oi cs b hi) (fun cs b => hsel j oj cs b hoj) hQ hy h1
      have hfree' : ∀ k ok, ops[k]? = some ok → k ≠ i → (listed.setIfInBounds j true).getD k true = false →
          (∀ e ∈ ok.after, Region.binds md e = true → e.on ≠ i) → oi.apart ops ok = true := fun k ok hk hki hun hno => by
        refine hfree k ok hk hki ?_ hno
        by_cases hjk : j = k
        · subst hjk; exact hjun
        · rw [getD_set_ne true hjk] at hun; exact hun
      refine wpOp_mono (fun a' w' h3 => ?_) h2
      obtain ⟨hy', hT, H'⟩ := h3
      rw [Array.setIfInBounds_comm _ _ (Ne.symm hji)] at hT H'
      have hT' := hback _ _ hT
      exact ⟨hT', ih (listed.setIfInBounds j true) a' w' (hc.set hj) hfree' (ready_mono hr (Ne.symm hji)) hy' hT' H'⟩

/-- The same, of what has come up so far as the region lets it. -/
def wpAnyT (P : Program) (md : Region.Mode) (ops : Array Oper) (Q : Exit → Act → World → Prop) (st : Nat) (S : World → Prop) (fuel : Nat) (listed : Array Bool) (a : Act) (w : World) : Prop := Closed md ops listed → wpAnyT0 P md ops Q st S fuel listed a w
theorem wpAnyT_take {i : Nat} {oi : Oper} {v : Value} {fuel : Nat} {listed : Array Bool} {a : Act} {w : World} (hi : ops[i]? = some oi)
    (hs : Region.noSelect ops = true) (hf : Region.free md ops listed i = true) (hr : (Region.ready md ops listed).contains i = true)
    (hB : (reachB md ops i st && decide (i ≠ st)) = true)
    (hQ : ∀ c a w, Q (.panic c) (a.put oi.dst v) w → Q (.panic c) a w) (hy : YieldsIf P ops S oi v a) (hS : S w)
    (h : wpAnyT P md ops Q st S fuel (listed.setIfInBounds i true) (a.put oi.dst v) w) : wpAnyT P md ops Q st S (fuel + 1) listed a w := by
  intro hc
  simp only [Bool.and_eq_true, decide_eq_true_eq] at hB
  have hr' : i ∈ Region.ready md ops listed := by simpa using hr
  exact wpAnyT0_first hi (Region.noSelect_spec hs) hQ hB.1 hB.2 fuel listed a w hc (Region.free_spec hi hf) hr' hy (fun _ => hS) (h (hc.set hr'))

/-- One operation alone may come up, ahead of st: S is to be shown behind it. -/
theorem wpAnyT_one {i : Nat} {oi : Oper} {fuel : Nat} {listed : Array Bool} {a : Act} {w : World} (hi : ops[i]? = some oi) (hr : Region.ready md ops listed = [i])
    (h : ∀ K : Act → World → Prop, Shut (∀ a' w', S w' → wpAnyT P md ops Q st S fuel (listed.setIfInBounds i true) a' w' → K a' w') → if Region.wanted oi (yielded ops a.tmps) = true then Oper.wp P oi a w K Q else K (a.put oi.dst undef) w) : wpAnyT P md ops Q st S (fuel + 1) listed a w := by
  intro hc
  refine ⟨fun h0 => (by rw [hr] at h0; cases h0), fun j hj => ?_⟩
  have hc' := hc.set hj
  rw [hr] at hj
  obtain rfl : j = i := by simpa using hj
  exact wpOp_step hi fun K' hK => h K' fun a' w' hS hw => hK a' w' ⟨fun _ => hS, hw hc'⟩
/-- The same, st itself, or behind it: nothing is asked any more. -/
theorem wpAnyT_late {i : Nat} {oi : Oper} {fuel : Nat} {listed : Array Bool} {a : Act} {w : World} (hi : ops[i]? = some oi) (hr : Region.ready md ops listed = [i]) (hl : (listed.setIfInBounds i true).getD st false = true)
    (h : ∀ K : Act → World → Prop, Shut (∀ a' w', wpAnyT P md ops Q st S fuel (listed.setIfInBounds i true) a' w' → K a' w') → if Region.wanted oi (yielded ops a.tmps) = true then Oper.wp P oi a w K Q else K (a.put oi.dst undef) w) : wpAnyT P md ops Q st S (fuel + 1) listed a w := by
  intro hc
  refine ⟨fun h0 => (by rw [hr] at h0; cases h0), fun j hj => ?_⟩
  have hc' := hc.set hj
  rw [hr] at hj
  obtain rfl : j = i := by simpa using hj
  exact wpOp_step hi fun K' hK => h K' fun a' w' hw => hK a' w' ⟨fun h0 => (by rw [hl] at h0; cases h0), hw hc'⟩
theorem wpAnyT_done {listed : Array Bool} {a : Act} {w : World} (hr : Region.ready md ops listed = []) (h : Q .normal a w) :
    ∀ fuel, wpAnyT P md ops Q st S fuel listed a w
  | 0 => fun _ => ⟨hr, h⟩
  | _ + 1 => fun _ => ⟨fun _ => h, by rw [hr]; simp⟩
/-- st comes up now, and what is left has one order: as a plain list. -/
theorem wpAnyT_of_seq : ∀ (l : List Oper) (k : Nat) (listed : Array Bool) (a : Act) (w : World), (∀ j, l[j]? = ops[k + j]?) → k + l.length ≤ listed.size →
    Region.seqB md ops l.length k listed = true → (listed.getD st false = true ∨ st = k) → wpList P ops Q l a w → wpAnyT0 P md ops Q st S l.length listed a w
  | [], k, listed, a, w, hl, hz, hB, hs, h => ⟨by simpa [Region.seqB] using hB, h⟩
  | o :: l, k, listed, a, w, hl, hz, hB, hs, h => by
    have h0 : ops[k]? = some o := by simpa using (hl 0).symm
    simp only [List.length_cons, Region.seqB, Bool.and_eq_true, decide_eq_true_eq] at hB
    have hs' : (listed.setIfInBounds k true).getD st false = true := by
      rcases hs with hs | rfl
      · exact getD_set_true hs
      · have : st < listed.size := by simp at hz; omega
        simp [this]
    refine ⟨fun h1 => (by rw [hB.1] at h1; cases h1), fun i hi => ?_⟩
    rw [hB.1] at hi
    obtain rfl : i = k := by simpa using hi
    have hw : wpOp P ops Q i (wpList P ops Q l) a w := by unfold wpOp; simp only [h0]; exact h
    refine wpOp_mono (fun a' w' h' => ⟨fun h2 => (by rw [hs'] at h2; cases h2), wpAnyT_of_seq l (i + 1) _ a' w' (fun j => by have := hl (j + 1); simpa [Nat.add_assoc, Nat.add_comm 1 j] using this) (by simp at hz ⊢; omega) hB.2 (.inl hs') h'⟩) hw
theorem wpAnyT_tail {fuel : Nat} {listed : Array Bool} {a : Act} {w : World} (k : Nat) (l : List Oper) (hl : l = ops.toList.drop k) (hf : fuel = l.length) (hz : listed.size = ops.size) (hk : k ≤ ops.size) (hB : Region.seqB md ops l.length k listed = true) (hs : st = k) (h : wpList P ops Q l a w) : wpAnyT P md ops Q st S fuel listed a w := by
  intro _
  subst hf hl
  exact wpAnyT_of_seq _ k listed a w (fun j => by simp [List.getElem?_drop]) (by simp; omega) hB (.inr hs) h
theorem closed_none (n : Nat) : Closed md ops (Array.replicate n false) := fun j oj _ hl => by rw [getD_replicate_false] at hl; cases hl
theorem wp_region_till {id : Nat} {a : Act} {w : World} (st : Nat) (S : World → Prop) (hm : P.follows .mixedOrders = true)
    (h : wpAnyT P .any ops Q st S ops.size (Array.replicate ops.size false) a w.drew) : (Code.region id ops true).wp P Q a w :=
  wp_region_any hm (wpAny_of_till _ _ _ _ (h (closed_none _)))
end
end Go.Waf

/- The reference's do: the operations whose regions are walked by hand (printed by gen_stk32.py). -/
namespace Go.Proofs.Ytgkdphnhfjjepaa
open Go.RowKit Go.Waf
set_option maxRecDepth 100000
set_option linter.unusedVariables false
set_option linter.unusedSimpArgs false

section
variable {w : World} {B q : Nat} {F : Nat → Prop} {cv mv iv sv kv ov : Value} {s : SSt}
set_option maxHeartbeats 3200000 in
theorem rdo_27 (h : SM false w B q F cv mv iv sv kv ov s) (k : Int) (hk : I32 k) (hp0 : 0 ≤ s.pc) (hp1 : s.pc ≤ 1000000) (hkk : s.kept.length < 1000) :
    Calls Try.prog 43 #[.pointer (some ⟨q, 0, none⟩), codeV 27 k] w fun e w' => e = .returned (.bool true) ∧ FuQ false w B q F cv mv iv { s with kept := (s.pc + 1, s.fp) :: s.kept, pc := k } w' := by
  obtain ⟨sa, sc, hsv, hnc, hcm, hnone⟩ := rd_shape h.ops.rd
  have HK := Lib.hid hk
  unfold I32 at hk
  obtain ⟨hk0, hk1⟩ := hk
  have H := Lib.hid h
  have hql := h.lt
  have c2 := h.r2
  have c5 := h.r5
  have hsl := h.fit.sl
  have E := Lib.hid (fun W => effect_any 27 ⟨by omega, by omega⟩ W)
  rw [show takesC 27 = 0 from rfl, show leavesC 27 = 0 from rfl] at E
  have hrd : Rd w 1 (.slice sa s.st.length sc) s.st.length (i32s s.st.reverse) := by have := h.ops.rd; rw [hsv] at this; exact this
  obtain ⟨N, hN⟩ : ∃ N, N = s.st.length := ⟨_, rfl⟩
  obtain ⟨M, hM⟩ : ∃ M, N = M + 0 := ⟨N - 0, by skip; omega⟩
  rw [hsv] at c2
  have hMl : s.st.length - 0 = M := by omega
  have hNM : N = M := by omega
  subst hNM
  rw [← hN] at c2 hsl hnc hrd hMl
  obtain ⟨D, hD⟩ : ∃ D : Option Addr, (if sc = N then sa else Option.map (fun x => x.add N) sa) = D := ⟨_, rfl⟩
  have hx := rd_from hrd (lo := N) (by omega) hD
  have hMe : N = s.st.length - 0 := by omega
  have hxl : (i32s s.st.reverse).drop N = i32s (s.st.take 0).reverse := by rw [hMe]; exact take_rev _ _ (by omega)
  rw [hxl, show N - N = 0 by omega] at hx
  have HX := Lib.hid hx
  have HN := Lib.hid hN
  have HSV := Lib.hid hsv
  have HMe := Lib.hid hMe
  have g0 : decide ((N : Int) < 0) = false := by simp
  have g1 : ¬ (1000 : Int) < (N : Int) := by omega
  have g4 : decide ((1000 : Int) < (N : Int)) = false := by simp; omega
  have m0 : (0 : Int) ≤ (N : Int) := by omega
  have m1 : (N : Int) ≤ (N : Int) := by omega
  have m2 : N ≤ N := by omega
  clear h hN hsv hx hxl hrd hMe hMl hM
  obtain ⟨ka, kc, hkv, _, _, hk0n⟩ := rd_shape H.out.kept.rd
  have HKV := Lib.hid hkv
  obtain ⟨NK, hNK⟩ : ∃ n, n = s.kept.length := ⟨_, rfl⟩
  have HNK := Lib.hid hNK
  have hkl := H.out.fit.kl
  rw [← hNK] at hkl
  clear hkv hk0n
  rw [← hNK] at hkk
  have hkk1 : (NK : Int) < 1000 := by omega
  have hkk2 : decide ((1000 : Int) ≤ (NK : Int)) = false := by simp; omega
  have hkk3 : (0 : Int) ≤ (NK : Int) := by omega
  have hkc : NK ≤ kc := by rw [hNK]; assumption
  have hkc2 : (NK : Int) ≤ (kc : Int) := by omega
  clear hNK
  simp only [codeV]
  go_enter Try.func43, Try.ntmps43
  go_wp2_with fail
  refine (E.out _).mono ?_; rintro e w1 ⟨rfl, hw1⟩
  have hM1 : SM false w1 B q F cv mv iv sv kv ov s := by rw [← hw1]; exact H.out.alloc _
  have hm1 : Mv w F F w1 := by rw [← hw1]; exact (Mv.refl w F).alloc _
  have b0 : w1.cell? ⟨w.heap.size, 0, none⟩ = some (.int .i64 27) := by rw [← hw1]; exact World.cell?_alloc_new w _ _ _
  have b1 : w1.cell? ⟨w.heap.size, 1, none⟩ = some (.int .i32 k) := by rw [← hw1]; exact World.cell?_alloc_new w _ _ _
  have c2' : w1.cell? ⟨q, 2, none⟩ = some (.slice sa N sc) := by rw [← hw1]; exact alloc_keep c2
  have hx1 : Rd w1 1 (.slice D 0 (sc - N)) 0 (i32s (s.st.take 0).reverse) := HX.out.below (B := w.heap.size) (by rw [← hw1]; exact (Below.refl _ _).alloc (Nat.le_refl _) _) (Nat.le_refl _)
  have HX1 := Lib.hid hx1
  have HM1 := Lib.hid hM1
  have Hm1 := Lib.hid hm1
  have HB0 := Lib.hid b0
  have HB1 := Lib.hid b1
  have hl1 := World.block_lt_of_cell? w1 _ b0
  have hq1 := HM1.out.lt
  clear hw1 hM1 hm1 c2 c5 hx1
  go_wp2_with (first | (at_builtin; refine app_own _ elemI32 rfl (.const (.slice none 0 0)) (.tmp 46) rfl w1.heap.size (.slice none 0 0) 0 [] rfl (World.ownsRow_nil _ _ _ _) (.slice D 0 (sc - N)) 0 (i32s (s.st.take 0).reverse) rfl HX1.out (one_i32s _) (by simp [maxLen]) (by simp) (Nat.le_refl _) ?_; intro v8 w2 ho8 hg8; simp only [Nat.zero_add, List.nil_append] at ho8; obtain ⟨xa, xc, rfl, _⟩ := owns_shape ho8; have hM2 := HM1.out.grown hg8; have hm2 := Hm1.out.grown hg8; have b0 := hg8.cell HB0.out (by simp [Value.ownBlock]); have b1 := hg8.cell HB1.out (by simp [Value.ownBlock]); have c2 := hM2.r2; rw [HSV.out, ← HN.out] at c2; have c5 := hM2.r5; have f2 := hM2.frozen 2; have f5 := hM2.frozen 5; have hq2 := hM2.lt; have hl2 := World.block_lt_of_cell? _ _ b0; have c6 := hM2.r6; rw [HKV.out, ← HNK.out] at c6; have f6 := hM2.frozen 6; have c3 := hM2.r3; have HM2 := Lib.hid hM2; have Hm2 := Lib.hid hm2; have HO8 := Lib.hid ho8; clear hM2 hm2 ho8 hg8) | fail)
  have HA := Lib.hid (HM2.out.drew.alloc (.cells (keptCells [(s.pc + 1, s.fp)]).toArray 93))
  have HmA := Lib.hid ((Hm2.out.drewN 1).alloc (.cells (keptCells [(s.pc + 1, s.fp)]).toArray 93))
  have HRK := Lib.hid (show Rd (w2.drew.alloc (.cells (keptCells [(s.pc + 1, s.fp)]).toArray 93)) 2 (.slice ka NK NK) NK (keptCells s.kept.reverse) from by have hr : Rd (w2.drew.alloc (.cells (keptCells [(s.pc + 1, s.fp)]).toArray 93)) 2 kv s.kept.length (keptCells s.kept.reverse) := HA.out.kept.rd; rw [HKV.out, ← HNK.out] at hr; have := Rd.take NK NK (Nat.le_refl _) (Nat.le_refl _) (by omega) hr; rw [List.take_of_length_le (by rw [keptCells_length, List.length_reverse, ← HNK.out]; omega)] at this; exact this)
  have hA6 : (w2.drew.alloc (.cells (keptCells [(s.pc + 1, s.fp)]).toArray 93)).cell? ⟨q, 6, none⟩ = some (.slice ka NK kc) := by have := HA.out.r6; rw [HKV.out, ← HNK.out] at this; exact this
  have HSA := Lib.hid (show (fun W => W.cell? ⟨q, 3, none⟩ = some (.int .i64 s.fp) ∧ W.cell? ⟨q, 6, none⟩ = some (.slice ka NK kc)) (w2.drew.alloc (.cells (keptCells [(s.pc + 1, s.fp)]).toArray 93)) from ⟨HA.out.r3, hA6⟩)
  have HS := Lib.hid (show (fun W => W.cell? ⟨q, 3, none⟩ = some (.int .i64 s.fp) ∧ W.cell? ⟨q, 6, none⟩ = some (.slice ka NK kc)) w2.drew from ⟨c3, c6⟩)
  have hqk := HA.out.no
  clear hA6
  refine wp_region_till 26 (fun W => W.cell? ⟨q, 3, none⟩ = some (.int .i64 s.fp) ∧ W.cell? ⟨q, 6, none⟩ = some (.slice ka NK kc)) (by kernel_rfl) ?_
  (refine wpAnyT_take (i := 0) (oi := ?_) (v := ?_) ?_ (by kernel_rfl) (by kernel_rfl) (by kernel_rfl) (by kernel_rfl) ?_ (Or.inl ⟨?_, ?_⟩) HS.out ?_; rotate_left 2; (focus (simp only [List.getElem?_toArray, List.getElem?_cons_succ, List.getElem?_cons_zero] <;> rfl)); (focus exact (fun _ _ _ h => h)); (focus rfl); (focus (intro w hSw; (try dsimp only at hSw); go_simp; try (with_reducible rfl))))
  (try simp only [Act.put, List.setIfInBounds_toArray, List.set_cons_zero, List.set_cons_succ])
  (refine wpAnyT_take (i := 1) (oi := ?_) (v := ?_) ?_ (by kernel_rfl) (by kernel_rfl) (by kernel_rfl) (by kernel_rfl) ?_ (Or.inl ⟨?_, ?_⟩) HS.out ?_; rotate_left 2; (focus (simp only [List.getElem?_toArray, List.getElem?_cons_succ, List.getElem?_cons_zero] <;> rfl)); (focus exact (fun _ _ _ h => h)); (focus rfl); (focus (intro w hSw; (try dsimp only at hSw); go_simp; try (with_reducible rfl))))
  (try simp only [Act.put, List.setIfInBounds_toArray, List.set_cons_zero, List.set_cons_succ])
  (refine wpAnyT_take (i := 2) (oi := ?_) (v := ?_) ?_ (by kernel_rfl) (by kernel_rfl) (by kernel_rfl) (by kernel_rfl) ?_ (Or.inl ⟨?_, ?_⟩) HS.out ?_; rotate_left 2; (focus (simp only [List.getElem?_toArray, List.getElem?_cons_succ, List.getElem?_cons_zero] <;> rfl)); (focus exact (fun _ _ _ h => h)); (focus rfl); (focus (intro w hSw; (try dsimp only at hSw); go_simp; try (with_reducible rfl))))
  (try simp only [Act.put, List.setIfInBounds_toArray, List.set_cons_zero, List.set_cons_succ])
  (refine wpAnyT_take (i := 3) (oi := ?_) (v := ?_) ?_ (by kernel_rfl) (by kernel_rfl) (by kernel_rfl) (by kernel_rfl) ?_ (Or.inl ⟨?_, ?_⟩) HS.out ?_; rotate_left 2; (focus (simp only [List.getElem?_toArray, List.getElem?_cons_succ, List.getElem?_cons_zero] <;> rfl)); (focus exact (fun _ _ _ h => h)); (focus rfl); (focus (intro w hSw; (try dsimp only at hSw); go_simp; try (with_reducible rfl))))
  (try simp only [Act.put, List.setIfInBounds_toArray, List.set_cons_zero, List.set_cons_succ])
  (refine wpAnyT_take (i := 4) (oi := ?_) (v := ?_) ?_ (by kernel_rfl) (by kernel_rfl) (by kernel_rfl) (by kernel_rfl) ?_ (Or.inl ⟨?_, ?_⟩) HS.out ?_; rotate_left 2; (focus (simp only [List.getElem?_toArray, List.getElem?_cons_succ, List.getElem?_cons_zero] <;> rfl)); (focus exact (fun _ _ _ h => h)); (focus rfl); (focus (intro w hSw; (try dsimp only at hSw); go_simp; try (with_reducible rfl))))
  (try simp only [Act.put, List.setIfInBounds_toArray, List.set_cons_zero, List.set_cons_succ])
  (refine wpAnyT_take (i := 5) (oi := ?_) (v := ?_) ?_ (by kernel_rfl) (by kernel_rfl) (by kernel_rfl) (by kernel_rfl) ?_ (Or.inl ⟨?_, ?_⟩) HS.out ?_; rotate_left 2; (focus (simp only [List.getElem?_toArray, List.getElem?_cons_succ, List.getElem?_cons_zero] <;> rfl)); (focus exact (fun _ _ _ h => h)); (focus rfl); (focus (intro w hSw; (try dsimp only at hSw); go_simp; try (with_reducible rfl))))
  (try simp only [Act.put, List.setIfInBounds_toArray, List.set_cons_zero, List.set_cons_succ])
  (refine wpAnyT_take (i := 6) (oi := ?_) (v := ?_) ?_ (by kernel_rfl) (by kernel_rfl) (by kernel_rfl) (by kernel_rfl) ?_ (Or.inl ⟨?_, ?_⟩) HS.out ?_; rotate_left 2; (focus (simp only [List.getElem?_toArray, List.getElem?_cons_succ, List.getElem?_cons_zero] <;> rfl)); (focus exact (fun _ _ _ h => h)); (focus rfl); (focus (intro w hSw; (try dsimp only at hSw); go_simp; try (with_reducible rfl))))
  (try simp only [Act.put, List.setIfInBounds_toArray, List.set_cons_zero, List.set_cons_succ])
  (refine wpAnyT_take (i := 7) (oi := ?_) (v := ?_) ?_ (by kernel_rfl) (by kernel_rfl) (by kernel_rfl) (by kernel_rfl) ?_ (Or.inl ⟨?_, ?_⟩) HS.out ?_; rotate_left 2; (focus (simp only [List.getElem?_toArray, List.getElem?_cons_succ, List.getElem?_cons_zero] <;> rfl)); (focus exact (fun _ _ _ h => h)); (focus rfl); (focus (intro w hSw; (try dsimp only at hSw); go_simp; try (with_reducible rfl))))
  (try simp only [Act.put, List.setIfInBounds_toArray, List.set_cons_zero, List.set_cons_succ])
  (refine wpAnyT_take (i := 8) (oi := ?_) (v := ?_) ?_ (by kernel_rfl) (by kernel_rfl) (by kernel_rfl) (by kernel_rfl) ?_ (Or.inl ⟨?_, ?_⟩) HS.out ?_; rotate_left 2; (focus (simp only [List.getElem?_toArray, List.getElem?_cons_succ, List.getElem?_cons_zero] <;> rfl)); (focus exact (fun _ _ _ h => h)); (focus rfl); (focus (intro w hSw; (try dsimp only at hSw); go_simp; try (with_reducible rfl))))
  (try simp only [Act.put, List.setIfInBounds_toArray, List.set_cons_zero, List.set_cons_succ])
  (refine wpAnyT_take (i := 9) (oi := ?_) (v := ?_) ?_ (by kernel_rfl) (by kernel_rfl) (by kernel_rfl) (by kernel_rfl) ?_ (Or.inl ⟨?_, ?_⟩) HS.out ?_; rotate_left 2; (focus (simp only [List.getElem?_toArray, List.getElem?_cons_succ, List.getElem?_cons_zero] <;> rfl)); (focus exact (fun _ _ _ h => h)); (focus rfl); (focus (intro w hSw; (try dsimp only at hSw); go_simp; try (with_reducible rfl))))
  (try simp only [Act.put, List.setIfInBounds_toArray, List.set_cons_zero, List.set_cons_succ])
  (refine wpAnyT_take (i := 10) (oi := ?_) (v := ?_) ?_ (by kernel_rfl) (by kernel_rfl) (by kernel_rfl) (by kernel_rfl) ?_ (Or.inl ⟨?_, ?_⟩) HS.out ?_; rotate_left 2; (focus (simp only [List.getElem?_toArray, List.getElem?_cons_succ, List.getElem?_cons_zero] <;> rfl)); (focus exact (fun _ _ _ h => h)); (focus rfl); (focus (intro w hSw; (try dsimp only at hSw); go_simp; try (with_reducible rfl))))
  (try simp only [Act.put, List.setIfInBounds_toArray, List.set_cons_zero, List.set_cons_succ])
  (refine wpAnyT_take (i := 11) (oi := ?_) (v := ?_) ?_ (by kernel_rfl) (by kernel_rfl) (by kernel_rfl) (by kernel_rfl) ?_ (Or.inl ⟨?_, ?_⟩) HS.out ?_; rotate_left 2; (focus (simp only [List.getElem?_toArray, List.getElem?_cons_succ, List.getElem?_cons_zero] <;> rfl)); (focus exact (fun _ _ _ h => h)); (focus rfl); (focus (intro w hSw; (try dsimp only at hSw); go_simp; try (with_reducible rfl))))
  (try simp only [Act.put, List.setIfInBounds_toArray, List.set_cons_zero, List.set_cons_succ])
  (refine wpAnyT_take (i := 12) (oi := ?_) (v := ?_) ?_ (by kernel_rfl) (by kernel_rfl) (by kernel_rfl) (by kernel_rfl) ?_ (Or.inl ⟨?_, ?_⟩) HS.out ?_; rotate_left 2; (focus (simp only [List.getElem?_toArray, List.getElem?_cons_succ, List.getElem?_cons_zero] <;> rfl)); (focus exact (fun _ _ _ h => h)); (focus rfl); (focus (intro w hSw; (try dsimp only at hSw); go_simp; try (with_reducible rfl))))
  (try simp only [Act.put, List.setIfInBounds_toArray, List.set_cons_zero, List.set_cons_succ])
  (refine wpAnyT_take (i := 13) (oi := ?_) (v := ?_) ?_ (by kernel_rfl) (by kernel_rfl) (by kernel_rfl) (by kernel_rfl) ?_ (Or.inl ⟨?_, ?_⟩) HS.out ?_; rotate_left 2; (focus (simp only [List.getElem?_toArray, List.getElem?_cons_succ, List.getElem?_cons_zero] <;> rfl)); (focus exact (fun _ _ _ h => h)); (focus rfl); (focus (intro w hSw; (try dsimp only at hSw); go_simp; try (with_reducible rfl))))
  (try simp only [Act.put, List.setIfInBounds_toArray, List.set_cons_zero, List.set_cons_succ])
  (refine wpAnyT_take (i := 14) (oi := ?_) (v := ?_) ?_ (by kernel_rfl) (by kernel_rfl) (by kernel_rfl) (by kernel_rfl) ?_ (Or.inl ⟨?_, ?_⟩) HS.out ?_; rotate_left 2; (focus (simp only [List.getElem?_toArray, List.getElem?_cons_succ, List.getElem?_cons_zero] <;> rfl)); (focus exact (fun _ _ _ h => h)); (focus rfl); (focus (intro w hSw; (try dsimp only at hSw); go_simp; try (with_reducible rfl))))
  (try simp only [Act.put, List.setIfInBounds_toArray, List.set_cons_zero, List.set_cons_succ])
  (refine wpAnyT_take (i := 15) (oi := ?_) (v := ?_) ?_ (by kernel_rfl) (by kernel_rfl) (by kernel_rfl) (by kernel_rfl) ?_ (Or.inl ⟨?_, ?_⟩) HS.out ?_; rotate_left 2; (focus (simp only [List.getElem?_toArray, List.getElem?_cons_succ, List.getElem?_cons_zero] <;> rfl)); (focus exact (fun _ _ _ h => h)); (focus rfl); (focus (intro w hSw; (try dsimp only at hSw); go_simp; try (with_reducible rfl))))
  (try simp only [Act.put, List.setIfInBounds_toArray, List.set_cons_zero, List.set_cons_succ])
  (refine wpAnyT_take (i := 16) (oi := ?_) (v := ?_) ?_ (by kernel_rfl) (by kernel_rfl) (by kernel_rfl) (by kernel_rfl) ?_ (Or.inl ⟨?_, ?_⟩) HS.out ?_; rotate_left 2; (focus (simp only [List.getElem?_toArray, List.getElem?_cons_succ, List.getElem?_cons_zero] <;> rfl)); (focus exact (fun _ _ _ h => h)); (focus rfl); (focus (intro w hSw; (try dsimp only at hSw); go_simp; try (with_reducible rfl))))
  (try simp only [Act.put, List.setIfInBounds_toArray, List.set_cons_zero, List.set_cons_succ])
  (refine wpAnyT_take (i := 17) (oi := ?_) (v := ?_) ?_ (by kernel_rfl) (by kernel_rfl) (by kernel_rfl) (by kernel_rfl) ?_ (Or.inl ⟨?_, ?_⟩) HS.out ?_; rotate_left 2; (focus (simp only [List.getElem?_toArray, List.getElem?_cons_succ, List.getElem?_cons_zero] <;> rfl)); (focus exact (fun _ _ _ h => h)); (focus rfl); (focus (intro w hSw; (try dsimp only at hSw); go_simp; try (with_reducible rfl))))
  (try simp only [Act.put, List.setIfInBounds_toArray, List.set_cons_zero, List.set_cons_succ])
  (refine wpAnyT_take (i := 18) (oi := ?_) (v := ?_) ?_ (by kernel_rfl) (by kernel_rfl) (by kernel_rfl) (by kernel_rfl) ?_ (Or.inl ⟨?_, ?_⟩) HS.out ?_; rotate_left 2; (focus (simp only [List.getElem?_toArray, List.getElem?_cons_succ, List.getElem?_cons_zero] <;> rfl)); (focus exact (fun _ _ _ h => h)); (focus rfl); (focus (intro w hSw; (try dsimp only at hSw); go_simp; try (with_reducible rfl))))
  (try simp only [Act.put, List.setIfInBounds_toArray, List.set_cons_zero, List.set_cons_succ])
  (refine wpAnyT_take (i := 19) (oi := ?_) (v := ?_) ?_ (by kernel_rfl) (by kernel_rfl) (by kernel_rfl) (by kernel_rfl) ?_ (Or.inl ⟨?_, ?_⟩) HS.out ?_; rotate_left 2; (focus (simp only [List.getElem?_toArray, List.getElem?_cons_succ, List.getElem?_cons_zero] <;> rfl)); (focus exact (fun _ _ _ h => h)); (focus rfl); (focus (intro w hSw; (try dsimp only at hSw); go_simp; try (with_reducible rfl))))
  (try simp only [Act.put, List.setIfInBounds_toArray, List.set_cons_zero, List.set_cons_succ])
  (refine wpAnyT_take (i := 20) (oi := ?_) (v := ?_) ?_ (by kernel_rfl) (by kernel_rfl) (by kernel_rfl) (by kernel_rfl) ?_ (Or.inl ⟨?_, ?_⟩) HS.out ?_; rotate_left 2; (focus (simp only [List.getElem?_toArray, List.getElem?_cons_succ, List.getElem?_cons_zero] <;> rfl)); (focus exact (fun _ _ _ h => h)); (focus rfl); (focus (intro w hSw; (try dsimp only at hSw); go_simp; try (with_reducible rfl))))
  (try simp only [Act.put, List.setIfInBounds_toArray, List.set_cons_zero, List.set_cons_succ])
  (refine wpAnyT_take (i := 21) (oi := ?_) (v := ?_) ?_ (by kernel_rfl) (by kernel_rfl) (by kernel_rfl) (by kernel_rfl) ?_ (Or.inl ⟨?_, ?_⟩) HS.out ?_; rotate_left 2; (focus (simp only [List.getElem?_toArray, List.getElem?_cons_succ, List.getElem?_cons_zero] <;> rfl)); (focus exact (fun _ _ _ h => h)); (focus rfl); (focus (intro w hSw; (try dsimp only at hSw); go_simp; try (with_reducible rfl))))
  (try simp only [Act.put, List.setIfInBounds_toArray, List.set_cons_zero, List.set_cons_succ])
  (refine wpAnyT_one (i := 22) (oi := ?_) ?_ (by kernel_rfl) (fun K hK => ?_); rotate_left; (focus (simp only [List.getElem?_toArray, List.getElem?_cons_succ, List.getElem?_cons_zero] <;> rfl)))
  go_simp
  refine hK.out _ _ HSA.out ?_
  clear hK K
  (try simp only [Act.put, List.setIfInBounds_toArray, List.set_cons_zero, List.set_cons_succ])
  (refine wpAnyT_one (i := 23) (oi := ?_) ?_ (by kernel_rfl) (fun K hK => ?_); rotate_left; (focus (simp only [List.getElem?_toArray, List.getElem?_cons_succ, List.getElem?_cons_zero] <;> rfl)))
  refine step_app_full elemRK rfl (.tmp 259) (.tmp 266) rfl ka NK (keptCells s.kept.reverse) (by simp [Act.eval]) HRK.out (.slice (some ⟨w2.heap.size, 0, none⟩) 1 1) 1 (keptCells [(s.pc + 1, s.fp)]) (by simp [Act.eval]) (rd_new w2.drew (keptCells [(s.pc + 1, s.fp)]) 93 1 2 (by rfl) (by simp [maxLen])) (one_kept _) (by omega) (by simp only [maxLen]; omega) (by omega) ?_
  intro v3 w3 ho3 hg3
  obtain ⟨g3, kc3, rfl, _, _, _, _⟩ := owns_some ho3 (by omega)
  have hM3 := HA.out.grown hg3
  have e6 := hM3.r6
  rw [HKV.out, ← HNK.out] at e6
  have z6 := hM3.frozen 6
  have lq3 := hM3.lt
  have HS := Lib.hid (show (fun W => W.cell? ⟨q, 3, none⟩ = some (.int .i64 s.fp) ∧ W.cell? ⟨q, 6, none⟩ = some (.slice ka NK kc)) w3 from ⟨hM3.r3, e6⟩)
  refine hK.out _ _ HS.out ?_
  clear hK K hM3
  (try simp only [Act.put, List.setIfInBounds_toArray, List.set_cons_zero, List.set_cons_succ])
  (refine wpAnyT_take (i := 24) (oi := ?_) (v := ?_) ?_ (by kernel_rfl) (by kernel_rfl) (by kernel_rfl) (by kernel_rfl) ?_ (Or.inl ⟨?_, ?_⟩) HS.out ?_; rotate_left 2; (focus (simp only [List.getElem?_toArray, List.getElem?_cons_succ, List.getElem?_cons_zero] <;> rfl)); (focus exact (fun _ _ _ h => h)); (focus rfl); (focus (intro w hSw; (try dsimp only at hSw); go_simp; try (with_reducible rfl))))
  (try simp only [Act.put, List.setIfInBounds_toArray, List.set_cons_zero, List.set_cons_succ])
  (refine wpAnyT_take (i := 25) (oi := ?_) (v := ?_) ?_ (by kernel_rfl) (by kernel_rfl) (by kernel_rfl) (by kernel_rfl) ?_ (Or.inl ⟨?_, ?_⟩) HS.out ?_; rotate_left 2; (focus (simp only [List.getElem?_toArray, List.getElem?_cons_succ, List.getElem?_cons_zero] <;> rfl)); (focus exact (fun _ _ _ h => h)); (focus rfl); (focus (intro w hSw; (try dsimp only at hSw); go_simp; try (with_reducible rfl))))
  (try simp only [Act.put, List.setIfInBounds_toArray, List.set_cons_zero, List.set_cons_succ])
  (refine wpAnyT_late (i := 26) (oi := ?_) ?_ (by kernel_rfl) (by kernel_rfl) (fun K hK => ?_); rotate_left; (focus (simp only [List.getElem?_toArray, List.getElem?_cons_succ, List.getElem?_cons_zero] <;> rfl)))
  go_simp
  refine hK.out _ _ ?_
  clear hK K
  refine wpAnyT_done (by kernel_rfl) ?_ _
  have hnew : newer (w2.drew.alloc (.cells (keptCells [(s.pc + 1, s.fp)]).toArray 93)) w3 kv (.slice (some ⟨g3, 0, none⟩) (NK + 1) kc3) := fun k hk => .inr (ho3.lt k hk)
  have hfr : Fr (fun k => kv.ownBlock = some k) (w2.drew.alloc (.cells (keptCells [(s.pc + 1, s.fp)]).toArray 93)) w3 := Fr.of_grown hg3 (fun k e => by cases e)
  have hfit : SFit { s with kept := (s.pc + 1, s.fp) :: s.kept } := HA.out.fit.keeps (by rw [List.length_cons, ← HNK.out]; omega) (fun x hx => by
    rcases List.mem_cons.1 hx with rfl | hx
    · exact ⟨HA.out.fit.f0, HA.out.fit.f1, by show -2147483648 ≤ s.pc + 1; omega, by show s.pc + 1 ≤ 2147483648; omega⟩
    · exact HA.out.fit.kf x hx)
  have hrow : Row false w3 B 100 2 (.slice (some ⟨g3, 0, none⟩) (NK + 1) kc3) ((s.pc + 1, s.fp) :: s.kept).length (keptCells ((s.pc + 1, s.fp) :: s.kept).reverse) := by
    rw [List.reverse_cons, keptCells_append, List.length_cons, ← HNK.out]; exact rd_of_owns ho3
  have hnk := HA.out.newK (l := (s.pc + 1, s.fp) :: s.kept) hfr hrow hnew hfit
  have hmo := HmA.out.trans (fr_also (B := B) (j := 6) hfr (fun k hk => (HA.out.fk k hk).1) HA.out.fq hnew)
  generalize (w3.setCell ⟨q, 6, none⟩ (.slice (some ⟨g3, 0, none⟩) (NK + 1) kc3)) = w4 at hnk hmo ⊢
  have HM4 := Lib.hid hnk
  have Hm4 := Lib.hid hmo
  have c2 := hnk.r2
  rw [HSV.out, ← HN.out] at c2
  have c5 := hnk.r5
  have f2 := hnk.frozen 2
  have f5 := hnk.frozen 5
  have hq4 := hnk.lt
  clear hnew hfr hfit hrow hnk hmo ho3 hg3 e6 z6
  go_wp2_with (at_builtin; refine app_nothing elemI32 rfl (.tmp 432) (.tmp 433) rfl sa N rfl rfl (fun e => by have := hnone e; omega) ?_; have HR := Lib.hid (rdo_end0 (a := 0) (iv := iv) (rd_sv HM4.out HSV.out) Hm4.out rfl (by rw [← HN.out]; omega) (k) (by omega) (by omega)))
  go_ret
  refine ⟨rfl, ?_⟩
  have hr := HR.out
  rw [← HMe.out] at hr
  exact hr
theorem SM.keptAt {p : Bool} {x1 x2 : Int} {t : List (Int × Int)} (h : SM p w B q F cv mv iv sv kv ov s) (hk : s.kept = (x1, x2) :: t) : ∃ b off c, kv = .slice (some ⟨b, off, none⟩) (t.length + 1) c ∧ t.length + 1 ≤ c ∧ c ≤ 9223372036854775807 ∧ w.cell? ⟨b, off + t.length * 2, none⟩ = some (.int .i64 x1) ∧ w.cell? ⟨b, off + t.length * 2 + 1, none⟩ = some (.int .i64 x2) ∧ Rd w 2 (.slice (some ⟨b, off, none⟩) t.length c) t.length (keptCells t.reverse) := by
  obtain ⟨hl, a, c, rfl, h1, h2, h3, h4⟩ := h.kept.rd
  have hlen : s.kept.length = t.length + 1 := by rw [hk]; rfl
  obtain ⟨b, off, rfl, hc⟩ := h4 (by omega)
  have hget := keptCells_get s.kept.reverse t.length (by simp; omega)
  have hgx : s.kept.reverse.getD t.length (0, 0) = (x1, x2) := by rw [hk]; simp
  rw [hgx] at hget
  have hrow : keptCells s.kept.reverse = keptCells t.reverse ++ keptCells [(x1, x2)] := by rw [hk, List.reverse_cons, keptCells_append]
  refine ⟨b, off, c, by rw [hlen], by omega, by simpa [maxLen] using h2, ?_, ?_, ?_⟩
  · have := hc _ _ hget.1
    rw [show off + t.length * 2 = off + 2 * t.length by omega]; exact this
  · have := hc _ _ hget.2
    rw [show off + t.length * 2 + 1 = off + (2 * t.length + 1) by omega]; exact this
  · refine ⟨by rw [keptCells_length, List.length_reverse], _, c, rfl, by omega, h2, by simp, fun h0 => ⟨b, off, rfl, fun j u hu => hc j u ?_⟩⟩
    rw [hrow, List.getElem?_append_left (List.getElem?_eq_some_iff.1 hu).1]; exact hu
set_option maxHeartbeats 3200000 in
theorem rdo_29 (h : SM false w B q F cv mv iv sv kv ov s) (k : Int) (hk : I32 k) (hp0 : 0 ≤ s.pc) (hp1 : s.pc ≤ 1000000) {x1 x2 : Int} {t : List (Int × Int)} (hkk : s.kept = (x1, x2) :: t) :
    Calls Try.prog 43 #[.pointer (some ⟨q, 0, none⟩), codeV 29 k] w fun e w' => e = .returned (.bool true) ∧ FuQ false w B q F cv mv iv { s with kept := t, top := s.fp, pc := x1, fp := x2 } w' := by
  obtain ⟨sa, sc, hsv, hnc, hcm, hnone⟩ := rd_shape h.ops.rd
  have HK := Lib.hid hk
  unfold I32 at hk
  obtain ⟨hk0, hk1⟩ := hk
  have H := Lib.hid h
  have hql := h.lt
  have c2 := h.r2
  have c5 := h.r5
  have hsl := h.fit.sl
  have E := Lib.hid (fun W => effect_any 29 ⟨by omega, by omega⟩ W)
  rw [show takesC 29 = 0 from rfl, show leavesC 29 = 0 from rfl] at E
  have hrd : Rd w 1 (.slice sa s.st.length sc) s.st.length (i32s s.st.reverse) := by have := h.ops.rd; rw [hsv] at this; exact this
  obtain ⟨N, hN⟩ : ∃ N, N = s.st.length := ⟨_, rfl⟩
  obtain ⟨M, hM⟩ : ∃ M, N = M + 0 := ⟨N - 0, by skip; omega⟩
  rw [hsv] at c2
  have hMl : s.st.length - 0 = M := by omega
  have hNM : N = M := by omega
  subst hNM
  rw [← hN] at c2 hsl hnc hrd hMl
  obtain ⟨D, hD⟩ : ∃ D : Option Addr, (if sc = N then sa else Option.map (fun x => x.add N) sa) = D := ⟨_, rfl⟩
  have hx := rd_from hrd (lo := N) (by omega) hD
  have hMe : N = s.st.length - 0 := by omega
  have hxl : (i32s s.st.reverse).drop N = i32s (s.st.take 0).reverse := by rw [hMe]; exact take_rev _ _ (by omega)
  rw [hxl, show N - N = 0 by omega] at hx
  have HX := Lib.hid hx
  have HN := Lib.hid hN
  have HSV := Lib.hid hsv
  have HMe := Lib.hid hMe
  have g0 : decide ((N : Int) < 0) = false := by simp
  have g1 : ¬ (1000 : Int) < (N : Int) := by omega
  have g4 : decide ((1000 : Int) < (N : Int)) = false := by simp; omega
  have m0 : (0 : Int) ≤ (N : Int) := by omega
  have m1 : (N : Int) ≤ (N : Int) := by omega
  have m2 : N ≤ N := by omega
  clear h hN hsv hx hxl hrd hMe hMl hM
  have hkb := H.out.fit.kf (x1, x2) (by rw [hkk]; exact List.mem_cons_self ..)
  obtain ⟨hx2a, hx2b, hx1a, hx1b⟩ := hkb
  simp only at hx2a hx2b hx1a hx1b
  have HX2 := Lib.hid (And.intro hx2a hx2b)
  clear hx2a hx2b
  have HKK := Lib.hid hkk
  obtain ⟨kb, koff, kc, hkv, hkc1, hkc2, _, _, _⟩ := H.out.keptAt hkk
  have HKV := Lib.hid hkv
  have hkl := H.out.fit.kl
  have hkl1 : s.kept.length = t.length + 1 := by rw [hkk]; rfl
  obtain ⟨J, hJ⟩ : ∃ J, J = t.length := ⟨_, rfl⟩
  rw [← hJ] at hkl1 hkc1
  have HJ := Lib.hid hJ
  obtain ⟨NK, hNK⟩ : ∃ n, n = J + 1 := ⟨_, rfl⟩
  have HNK := Lib.hid hNK
  have k1 : (0 : Int) ≤ (J : Int) := by omega
  have k2 : (J : Int) < (NK : Int) := by omega
  have k3 : IntKind.i64.wrap ((NK : Int) - 1) = J := by rw [show (NK : Int) - 1 = J by omega]; exact IntWalk.i64_in _ (by omega)
  have k4 : ¬ ((J : Int) < 0) := by omega
  have k5 : (J : Int) ≤ (kc : Int) := by omega
  have k6 : J ≤ kc := by omega
  have k7 : J < NK := by omega
  have hF0 := HX2.out
  clear hkv hJ hNK hkk hkl hkl1 hkc1 hF0
  simp only [codeV]
  go_enter Try.func43, Try.ntmps43
  go_wp2_with fail
  refine (E.out _).mono ?_; rintro e w1 ⟨rfl, hw1⟩
  have hM1 : SM false w1 B q F cv mv iv sv kv ov s := by rw [← hw1]; exact H.out.alloc _
  have hm1 : Mv w F F w1 := by rw [← hw1]; exact (Mv.refl w F).alloc _
  have b0 : w1.cell? ⟨w.heap.size, 0, none⟩ = some (.int .i64 29) := by rw [← hw1]; exact World.cell?_alloc_new w _ _ _
  have b1 : w1.cell? ⟨w.heap.size, 1, none⟩ = some (.int .i32 k) := by rw [← hw1]; exact World.cell?_alloc_new w _ _ _
  have c2' : w1.cell? ⟨q, 2, none⟩ = some (.slice sa N sc) := by rw [← hw1]; exact alloc_keep c2
  have hx1 : Rd w1 1 (.slice D 0 (sc - N)) 0 (i32s (s.st.take 0).reverse) := HX.out.below (B := w.heap.size) (by rw [← hw1]; exact (Below.refl _ _).alloc (Nat.le_refl _) _) (Nat.le_refl _)
  have HX1 := Lib.hid hx1
  have HM1 := Lib.hid hM1
  have Hm1 := Lib.hid hm1
  have HB0 := Lib.hid b0
  have HB1 := Lib.hid b1
  have hl1 := World.block_lt_of_cell? w1 _ b0
  have hq1 := HM1.out.lt
  clear hw1 hM1 hm1 c2 c5 hx1
  go_wp2_with (first | (at_builtin; refine app_own _ elemI32 rfl (.const (.slice none 0 0)) (.tmp 46) rfl w1.heap.size (.slice none 0 0) 0 [] rfl (World.ownsRow_nil _ _ _ _) (.slice D 0 (sc - N)) 0 (i32s (s.st.take 0).reverse) rfl HX1.out (one_i32s _) (by simp [maxLen]) (by simp) (Nat.le_refl _) ?_; intro v8 w2 ho8 hg8; simp only [Nat.zero_add, List.nil_append] at ho8; obtain ⟨xa, xc, rfl, _⟩ := owns_shape ho8; have hM2 := HM1.out.grown hg8; have hm2 := Hm1.out.grown hg8; have b0 := hg8.cell HB0.out (by simp [Value.ownBlock]); have b1 := hg8.cell HB1.out (by simp [Value.ownBlock]); have c2 := hM2.r2; rw [HSV.out, ← HN.out] at c2; have c5 := hM2.r5; have f2 := hM2.frozen 2; have f5 := hM2.frozen 5; have hq2 := hM2.lt; have hl2 := World.block_lt_of_cell? _ _ b0; have c6 := hM2.r6; rw [HKV.out, ← HJ.out, ← HNK.out] at c6; have c3 := hM2.r3; have c4 := hM2.r4; have f4 := hM2.frozen 4; have HM2 := Lib.hid hM2; have Hm2 := Lib.hid hm2; have HO8 := Lib.hid ho8; clear hM2 hm2 ho8 hg8) | fail)
  obtain ⟨W1, hW1⟩ : ∃ W1 : World, W1 = w2.setCell ⟨q, 4, none⟩ (.int .i64 s.fp) := ⟨_, rfl⟩
  rw [← hW1]
  have hM3 : SM false W1 B q F cv mv iv sv kv ov { s with top := s.fp } := by rw [hW1]; exact HM2.out.rputTop s.fp HM2.out.fit.f0 HM2.out.fit.f1
  have hm3 : Mv w F F W1 := by rw [hW1]; exact Hm2.out.set HM2.out.fq 4 _
  obtain ⟨kb', koff', kc', hkv', _, _, d1, d2, d3⟩ := hM3.keptAt (x1 := x1) (x2 := x2) (t := t) HKK.out
  have he := HKV.out.symm.trans hkv'
  injection he with ha _ hc
  injection ha with ha
  injection ha with hb1 ho1
  subst hb1 ho1 hc
  rw [← HJ.out] at d1 d2 d3
  have d6 := hM3.r6
  rw [HKV.out, ← HJ.out, ← HNK.out] at d6
  have d4 := hM3.r3
  have z3 := hM3.frozen 3
  have lq3 := hM3.lt
  have HS := Lib.hid (show (fun W => W.cell? ⟨q, 6, none⟩ = some (.slice (some ⟨kb, koff, none⟩) NK kc) ∧ W.cell? ⟨kb, koff + J * 2, none⟩ = some (.int .i64 x1) ∧ W.cell? ⟨kb, koff + J * 2 + 1, none⟩ = some (.int .i64 x2)) W1.drew from ⟨d6, d1, d2⟩)
  have HM3 := Lib.hid hM3
  have Hm3 := Lib.hid hm3
  clear hW1 hM3 hm3 hkv'
  refine wp_region_till 20 (fun W => W.cell? ⟨q, 6, none⟩ = some (.slice (some ⟨kb, koff, none⟩) NK kc) ∧ W.cell? ⟨kb, koff + J * 2, none⟩ = some (.int .i64 x1) ∧ W.cell? ⟨kb, koff + J * 2 + 1, none⟩ = some (.int .i64 x2)) (by kernel_rfl) ?_
  (refine wpAnyT_take (i := 0) (oi := ?_) (v := ?_) ?_ (by kernel_rfl) (by kernel_rfl) (by kernel_rfl) (by kernel_rfl) ?_ (Or.inl ⟨?_, ?_⟩) HS.out ?_; rotate_left 2; (focus (simp only [List.getElem?_toArray, List.getElem?_cons_succ, List.getElem?_cons_zero] <;> rfl)); (focus exact (fun _ _ _ h => h)); (focus rfl); (focus (intro w hSw; (try dsimp only at hSw); go_simp; try (with_reducible rfl))))
  (try simp only [Act.put, List.setIfInBounds_toArray, List.set_cons_zero, List.set_cons_succ])
  (refine wpAnyT_take (i := 1) (oi := ?_) (v := ?_) ?_ (by kernel_rfl) (by kernel_rfl) (by kernel_rfl) (by kernel_rfl) ?_ (Or.inl ⟨?_, ?_⟩) HS.out ?_; rotate_left 2; (focus (simp only [List.getElem?_toArray, List.getElem?_cons_succ, List.getElem?_cons_zero] <;> rfl)); (focus exact (fun _ _ _ h => h)); (focus rfl); (focus (intro w hSw; (try dsimp only at hSw); go_simp; try (with_reducible rfl))))
  (try simp only [Act.put, List.setIfInBounds_toArray, List.set_cons_zero, List.set_cons_succ])
  (refine wpAnyT_take (i := 2) (oi := ?_) (v := ?_) ?_ (by kernel_rfl) (by kernel_rfl) (by kernel_rfl) (by kernel_rfl) ?_ (Or.inl ⟨?_, ?_⟩) HS.out ?_; rotate_left 2; (focus (simp only [List.getElem?_toArray, List.getElem?_cons_succ, List.getElem?_cons_zero] <;> rfl)); (focus exact (fun _ _ _ h => h)); (focus rfl); (focus (intro w hSw; (try dsimp only at hSw); go_simp; try (with_reducible rfl))))
  (try simp only [Act.put, List.setIfInBounds_toArray, List.set_cons_zero, List.set_cons_succ])
  (refine wpAnyT_take (i := 3) (oi := ?_) (v := ?_) ?_ (by kernel_rfl) (by kernel_rfl) (by kernel_rfl) (by kernel_rfl) ?_ (Or.inl ⟨?_, ?_⟩) HS.out ?_; rotate_left 2; (focus (simp only [List.getElem?_toArray, List.getElem?_cons_succ, List.getElem?_cons_zero] <;> rfl)); (focus exact (fun _ _ _ h => h)); (focus rfl); (focus (intro w hSw; (try dsimp only at hSw); go_simp; try (with_reducible rfl))))
  (try simp only [Act.put, List.setIfInBounds_toArray, List.set_cons_zero, List.set_cons_succ])
  (refine wpAnyT_take (i := 4) (oi := ?_) (v := ?_) ?_ (by kernel_rfl) (by kernel_rfl) (by kernel_rfl) (by kernel_rfl) ?_ (Or.inl ⟨?_, ?_⟩) HS.out ?_; rotate_left 2; (focus (simp only [List.getElem?_toArray, List.getElem?_cons_succ, List.getElem?_cons_zero] <;> rfl)); (focus exact (fun _ _ _ h => h)); (focus rfl); (focus (intro w hSw; (try dsimp only at hSw); go_simp; try (with_reducible rfl))))
  (try simp only [Act.put, List.setIfInBounds_toArray, List.set_cons_zero, List.set_cons_succ])
  (refine wpAnyT_take (i := 5) (oi := ?_) (v := ?_) ?_ (by kernel_rfl) (by kernel_rfl) (by kernel_rfl) (by kernel_rfl) ?_ (Or.inl ⟨?_, ?_⟩) HS.out ?_; rotate_left 2; (focus (simp only [List.getElem?_toArray, List.getElem?_cons_succ, List.getElem?_cons_zero] <;> rfl)); (focus exact (fun _ _ _ h => h)); (focus rfl); (focus (intro w hSw; (try dsimp only at hSw); go_simp; try (with_reducible rfl))))
  (try simp only [Act.put, List.setIfInBounds_toArray, List.set_cons_zero, List.set_cons_succ])
  (refine wpAnyT_take (i := 6) (oi := ?_) (v := ?_) ?_ (by kernel_rfl) (by kernel_rfl) (by kernel_rfl) (by kernel_rfl) ?_ (Or.inl ⟨?_, ?_⟩) HS.out ?_; rotate_left 2; (focus (simp only [List.getElem?_toArray, List.getElem?_cons_succ, List.getElem?_cons_zero] <;> rfl)); (focus exact (fun _ _ _ h => h)); (focus rfl); (focus (intro w hSw; (try dsimp only at hSw); go_simp; try (with_reducible rfl))))
  (try simp only [Act.put, List.setIfInBounds_toArray, List.set_cons_zero, List.set_cons_succ])
  (refine wpAnyT_take (i := 7) (oi := ?_) (v := ?_) ?_ (by kernel_rfl) (by kernel_rfl) (by kernel_rfl) (by kernel_rfl) ?_ (Or.inl ⟨?_, ?_⟩) HS.out ?_; rotate_left 2; (focus (simp only [List.getElem?_toArray, List.getElem?_cons_succ, List.getElem?_cons_zero] <;> rfl)); (focus exact (fun _ _ _ h => h)); (focus rfl); (focus (intro w hSw; (try dsimp only at hSw); go_simp; try (with_reducible rfl))))
  (try simp only [Act.put, List.setIfInBounds_toArray, List.set_cons_zero, List.set_cons_succ])
  (refine wpAnyT_take (i := 8) (oi := ?_) (v := ?_) ?_ (by kernel_rfl) (by kernel_rfl) (by kernel_rfl) (by kernel_rfl) ?_ (Or.inl ⟨?_, ?_⟩) HS.out ?_; rotate_left 2; (focus (simp only [List.getElem?_toArray, List.getElem?_cons_succ, List.getElem?_cons_zero] <;> rfl)); (focus exact (fun _ _ _ h => h)); (focus rfl); (focus (intro w hSw; (try dsimp only at hSw); go_simp; try (with_reducible rfl))))
  (try simp only [Act.put, List.setIfInBounds_toArray, List.set_cons_zero, List.set_cons_succ])
  (refine wpAnyT_take (i := 9) (oi := ?_) (v := ?_) ?_ (by kernel_rfl) (by kernel_rfl) (by kernel_rfl) (by kernel_rfl) ?_ (Or.inl ⟨?_, ?_⟩) HS.out ?_; rotate_left 2; (focus (simp only [List.getElem?_toArray, List.getElem?_cons_succ, List.getElem?_cons_zero] <;> rfl)); (focus exact (fun _ _ _ h => h)); (focus rfl); (focus (intro w hSw; (try dsimp only at hSw); go_simp; try (with_reducible rfl))))
  (try simp only [Act.put, List.setIfInBounds_toArray, List.set_cons_zero, List.set_cons_succ])
  (refine wpAnyT_take (i := 10) (oi := ?_) (v := ?_) ?_ (by kernel_rfl) (by kernel_rfl) (by kernel_rfl) (by kernel_rfl) ?_ (Or.inl ⟨?_, ?_⟩) HS.out ?_; rotate_left 2; (focus (simp only [List.getElem?_toArray, List.getElem?_cons_succ, List.getElem?_cons_zero] <;> rfl)); (focus exact (fun _ _ _ h => h)); (focus rfl); (focus (intro w hSw; (try dsimp only at hSw); go_simp; try (with_reducible rfl))))
  (try simp only [Act.put, List.setIfInBounds_toArray, List.set_cons_zero, List.set_cons_succ])
  (refine wpAnyT_take (i := 11) (oi := ?_) (v := ?_) ?_ (by kernel_rfl) (by kernel_rfl) (by kernel_rfl) (by kernel_rfl) ?_ (Or.inl ⟨?_, ?_⟩) HS.out ?_; rotate_left 2; (focus (simp only [List.getElem?_toArray, List.getElem?_cons_succ, List.getElem?_cons_zero] <;> rfl)); (focus exact (fun _ _ _ h => h)); (focus rfl); (focus (intro w hSw; (try dsimp only at hSw); go_simp; try (with_reducible rfl))))
  (try simp only [Act.put, List.setIfInBounds_toArray, List.set_cons_zero, List.set_cons_succ])
  (refine wpAnyT_take (i := 12) (oi := ?_) (v := ?_) ?_ (by kernel_rfl) (by kernel_rfl) (by kernel_rfl) (by kernel_rfl) ?_ (Or.inl ⟨?_, ?_⟩) HS.out ?_; rotate_left 2; (focus (simp only [List.getElem?_toArray, List.getElem?_cons_succ, List.getElem?_cons_zero] <;> rfl)); (focus exact (fun _ _ _ h => h)); (focus rfl); (focus (intro w hSw; (try dsimp only at hSw); go_simp; try (with_reducible rfl))))
  (try simp only [Act.put, List.setIfInBounds_toArray, List.set_cons_zero, List.set_cons_succ])
  (refine wpAnyT_take (i := 13) (oi := ?_) (v := ?_) ?_ (by kernel_rfl) (by kernel_rfl) (by kernel_rfl) (by kernel_rfl) ?_ (Or.inl ⟨?_, ?_⟩) HS.out ?_; rotate_left 2; (focus (simp only [List.getElem?_toArray, List.getElem?_cons_succ, List.getElem?_cons_zero] <;> rfl)); (focus exact (fun _ _ _ h => h)); (focus rfl); (focus (intro w hSw; (try dsimp only at hSw); go_simp; try (with_reducible rfl))))
  (try simp only [Act.put, List.setIfInBounds_toArray, List.set_cons_zero, List.set_cons_succ])
  (refine wpAnyT_take (i := 14) (oi := ?_) (v := ?_) ?_ (by kernel_rfl) (by kernel_rfl) (by kernel_rfl) (by kernel_rfl) ?_ (Or.inl ⟨?_, ?_⟩) HS.out ?_; rotate_left 2; (focus (simp only [List.getElem?_toArray, List.getElem?_cons_succ, List.getElem?_cons_zero] <;> rfl)); (focus exact (fun _ _ _ h => h)); (focus rfl); (focus (intro w hSw; (try dsimp only at hSw); go_simp; try (with_reducible rfl))))
  (try simp only [Act.put, List.setIfInBounds_toArray, List.set_cons_zero, List.set_cons_succ])
  (refine wpAnyT_take (i := 15) (oi := ?_) (v := ?_) ?_ (by kernel_rfl) (by kernel_rfl) (by kernel_rfl) (by kernel_rfl) ?_ (Or.inl ⟨?_, ?_⟩) HS.out ?_; rotate_left 2; (focus (simp only [List.getElem?_toArray, List.getElem?_cons_succ, List.getElem?_cons_zero] <;> rfl)); (focus exact (fun _ _ _ h => h)); (focus rfl); (focus (intro w hSw; (try dsimp only at hSw); go_simp; try (with_reducible rfl))))
  (try simp only [Act.put, List.setIfInBounds_toArray, List.set_cons_zero, List.set_cons_succ])
  (refine wpAnyT_take (i := 16) (oi := ?_) (v := ?_) ?_ (by kernel_rfl) (by kernel_rfl) (by kernel_rfl) (by kernel_rfl) ?_ (Or.inl ⟨?_, ?_⟩) HS.out ?_; rotate_left 2; (focus (simp only [List.getElem?_toArray, List.getElem?_cons_succ, List.getElem?_cons_zero] <;> rfl)); (focus exact (fun _ _ _ h => h)); (focus rfl); (focus (intro w hSw; (try dsimp only at hSw); go_simp; try (with_reducible rfl))))
  (try simp only [Act.put, List.setIfInBounds_toArray, List.set_cons_zero, List.set_cons_succ])
  (refine wpAnyT_take (i := 17) (oi := ?_) (v := ?_) ?_ (by kernel_rfl) (by kernel_rfl) (by kernel_rfl) (by kernel_rfl) ?_ (Or.inl ⟨?_, ?_⟩) HS.out ?_; rotate_left 2; (focus (simp only [List.getElem?_toArray, List.getElem?_cons_succ, List.getElem?_cons_zero] <;> rfl)); (focus exact (fun _ _ _ h => h)); (focus rfl); (focus (intro w hSw; (try dsimp only at hSw); go_simp; try (with_reducible rfl))))
  (try simp only [Act.put, List.setIfInBounds_toArray, List.set_cons_zero, List.set_cons_succ])
  (refine wpAnyT_take (i := 18) (oi := ?_) (v := ?_) ?_ (by kernel_rfl) (by kernel_rfl) (by kernel_rfl) (by kernel_rfl) ?_ (Or.inl ⟨?_, ?_⟩) HS.out ?_; rotate_left 2; (focus (simp only [List.getElem?_toArray, List.getElem?_cons_succ, List.getElem?_cons_zero] <;> rfl)); (focus exact (fun _ _ _ h => h)); (focus rfl); (focus (intro w hSw; (try dsimp only at hSw); go_simp; try (with_reducible rfl))))
  (try simp only [Act.put, List.setIfInBounds_toArray, List.set_cons_zero, List.set_cons_succ])
  (refine wpAnyT_take (i := 19) (oi := ?_) (v := ?_) ?_ (by kernel_rfl) (by kernel_rfl) (by kernel_rfl) (by kernel_rfl) ?_ (Or.inl ⟨?_, ?_⟩) HS.out ?_; rotate_left 2; (focus (simp only [List.getElem?_toArray, List.getElem?_cons_succ, List.getElem?_cons_zero] <;> rfl)); (focus exact (fun _ _ _ h => h)); (focus rfl); (focus (intro w hSw; (try dsimp only at hSw); go_simp; try (with_reducible rfl))))
  (try simp only [Act.put, List.setIfInBounds_toArray, List.set_cons_zero, List.set_cons_succ])
  (refine wpAnyT_late (i := 20) (oi := ?_) ?_ (by kernel_rfl) (by kernel_rfl) (fun K hK => ?_); rotate_left; (focus (simp only [List.getElem?_toArray, List.getElem?_cons_succ, List.getElem?_cons_zero] <;> rfl)))
  go_simp
  refine hK.out _ _ ?_
  clear hK K
  refine wpAnyT_done (by kernel_rfl) ?_ _
  obtain ⟨W4, hW4⟩ : ∃ W4 : World, W4 = (W1.setCell ⟨q, 3, none⟩ (.int .i64 x2)).drew := ⟨_, rfl⟩
  have hM4 : SM false W4 B q F cv mv iv sv kv ov { s with top := s.fp, fp := x2 } := by rw [hW4]; exact (HM3.out.rputFp x2 HX2.out.1 HX2.out.2).drew
  have hm4 : Mv w F F W4 := by rw [hW4]; exact (Hm3.out.set HM3.out.fq 3 _).drewN 1
  have e6 := hM4.r6
  rw [HKV.out, ← HJ.out, ← HNK.out] at e6
  have y6 := hM4.frozen 6
  have HM4 := Lib.hid hM4
  have Hm4 := Lib.hid hm4
  obtain ⟨kb', koff', kc', hkv', _, _, d1', d2', hrd⟩ := hM4.keptAt (x1 := x1) (x2 := x2) (t := t) HKK.out
  have he := HKV.out.symm.trans hkv'
  injection he with ha _ hc
  injection ha with ha
  injection ha with hb1 ho1
  subst hb1 ho1 hc
  have hnew : newer W4 W4 kv (.slice (some ⟨kb, koff, none⟩) J kc) := fun k hk => .inl (by rw [HKV.out]; exact hk)
  have hfit : SFit { s with top := s.fp, fp := x2, kept := t } := hM4.fit.keeps (by have := hM4.fit.kl; rw [show ({ s with top := s.fp, fp := x2 } : SSt).kept = (x1, x2) :: t from HKK.out] at this; simp at this; omega) (fun y hy => hM4.fit.kf y (by rw [show ({ s with top := s.fp, fp := x2 } : SSt).kept = (x1, x2) :: t from HKK.out]; exact List.mem_cons_of_mem _ hy))
  have hnk := hM4.newK (l := t) (Fr.refl _ _) (show Row false W4 B 100 2 (.slice (some ⟨kb, koff, none⟩) J kc) t.length (keptCells t.reverse) from by rw [HJ.out]; exact hrd) hnew hfit
  have hmo := hm4.trans (fr_also (B := B) (j := 6) (Fr.refl _ _) (fun k hk => (hM4.fk k hk).1) hM4.fq hnew)
  have HM5 := Lib.hid hnk
  have Hm5 := Lib.hid hmo
  have c2 := hM4.r2
  rw [HSV.out, ← HN.out] at c2
  have c5 := hM4.r5
  have f2 := hM4.frozen 2
  have f5 := hM4.frozen 5
  have hq4 := hM4.lt
  rw [← hW4]
  clear hW4 hnew hfit hnk hmo hM4 hm4 hkv' d1 d2 d3 d4 d6 z3 d1' d2' hrd b0 b1
  go_wp2_with (at_builtin; refine app_nothing elemI32 rfl (.tmp 432) (.tmp 433) rfl sa N rfl rfl (fun e => by have := hnone e; omega) ?_; have HR := Lib.hid (rdo_end0 (a := 0) (iv := iv) (rd_sv HM5.out HSV.out) Hm5.out rfl (by rw [← HN.out]; omega) (x1) (by omega) (by omega)))
  go_ret
  refine ⟨rfl, ?_⟩
  have hr := HR.out
  rw [← HMe.out] at hr
  exact hr
end
end Go.Proofs.Ytgkdphnhfjjepaa
