/- The walks and the plain lemmas of the statement, joined: part 3. No condition. -/
import Derived.Test.YtgkdphnhfjjepaaJStk422

/- The reference's do, operation by operation (printed by gen_stk31.py). -/
namespace Go.Proofs.Ytgkdphnhfjjepaa
open Go.RowKit Go.Waf
set_option maxRecDepth 100000
set_option linter.unusedVariables false
set_option linter.unusedSimpArgs false

section
variable {w : World} {B q : Nat} {F : Nat → Prop} {cv mv iv sv kv ov : Value} {s : SSt}
set_option maxHeartbeats 3200000 in
theorem rdo_1 (h : SM false w B q F cv mv iv sv kv ov s) (k : Int) (hk : I32 k) (hl : s.st.length < 1000) (hp0 : 0 ≤ s.pc) (hp1 : s.pc ≤ 1000000) :
    Calls Try.prog 43 #[.pointer (some ⟨q, 0, none⟩), codeV 1 k] w fun e w' => e = .returned (.bool true) ∧ FuQ false w B q F cv mv iv { s with st := k :: s.st, pc := s.pc + 1 } w' := by
  obtain ⟨sa, sc, hsv, hnc, hcm, hnone⟩ := rd_shape h.ops.rd
  have HK := Lib.hid hk
  unfold I32 at hk
  obtain ⟨hk0, hk1⟩ := hk
  have H := Lib.hid h
  have hql := h.lt
  have c2 := h.r2
  have c5 := h.r5
  have hsl := h.fit.sl
  have E := Lib.hid (fun W => effect_any 1 ⟨by omega, by omega⟩ W)
  rw [show takesC 1 = 0 from rfl, show leavesC 1 = 1 from rfl] at E
  have hrd : Rd w 1 (.slice sa s.st.length sc) s.st.length (i32s s.st.reverse) := by have := h.ops.rd; rw [hsv] at this; exact this
  obtain ⟨N, hN⟩ : ∃ N, N = s.st.length := ⟨_, rfl⟩
  obtain ⟨M, hM⟩ : ∃ M, N = M + 0 := ⟨N - 0, by skip; omega⟩
  rw [hsv] at c2
  have hMl : s.st.length - 0 = M := by omega
  have hNM : N = M := by omega
  subst hNM
  rw [← hN] at c2 hsl hnc hrd hMl
  obtain ⟨D, hD⟩ : ∃ D : Option Addr, (if sc = N then sa else Option.map (fun x => x.add N) sa) = D := ⟨_, rfl⟩
  have hx := rd_from hrd (lo := N) (by omega) hD
  have hMe : N = s.st.length - 0 := by omega
  have hxl : (i32s s.st.reverse).drop N = i32s (s.st.take 0).reverse := by rw [hMe]; exact take_rev _ _ (by omega)
  rw [hxl, show N - N = 0 by omega] at hx
  have HX := Lib.hid hx
  have HN := Lib.hid hN
  have HSV := Lib.hid hsv
  have HMe := Lib.hid hMe
  have g0 : decide ((N : Int) < 0) = false := by simp
  have g1 : ¬ (1000 : Int) < (N : Int) + 1 := by omega
  have g4 : decide ((1000 : Int) < (N : Int) + 1) = false := by simp; omega
  have m0 : (0 : Int) ≤ (N : Int) := by omega
  have m1 : (N : Int) ≤ (N : Int) := by omega
  have m2 : N ≤ N := by omega
  clear h hN hsv hx hxl hrd hMe hMl hM
  simp only [codeV]
  go_enter Try.func43, Try.ntmps43
  go_wp2_with fail
  refine (E.out _).mono ?_; rintro e w1 ⟨rfl, hw1⟩
  have hM1 : SM false w1 B q F cv mv iv sv kv ov s := by rw [← hw1]; exact H.out.alloc _
  have hm1 : Mv w F F w1 := by rw [← hw1]; exact (Mv.refl w F).alloc _
  have b0 : w1.cell? ⟨w.heap.size, 0, none⟩ = some (.int .i64 1) := by rw [← hw1]; exact World.cell?_alloc_new w _ _ _
  have b1 : w1.cell? ⟨w.heap.size, 1, none⟩ = some (.int .i32 k) := by rw [← hw1]; exact World.cell?_alloc_new w _ _ _
  have c2' : w1.cell? ⟨q, 2, none⟩ = some (.slice sa N sc) := by rw [← hw1]; exact alloc_keep c2
  have hx1 : Rd w1 1 (.slice D 0 (sc - N)) 0 (i32s (s.st.take 0).reverse) := HX.out.below (B := w.heap.size) (by rw [← hw1]; exact (Below.refl _ _).alloc (Nat.le_refl _) _) (Nat.le_refl _)
  have HX1 := Lib.hid hx1
  have HM1 := Lib.hid hM1
  have Hm1 := Lib.hid hm1
  have HB0 := Lib.hid b0
  have HB1 := Lib.hid b1
  have hl1 := World.block_lt_of_cell? w1 _ b0
  have hq1 := HM1.out.lt
  clear hw1 hM1 hm1 c2 c5 hx1
  go_wp2_with (first | (at_builtin; refine app_own _ elemI32 rfl (.const (.slice none 0 0)) (.tmp 46) rfl w1.heap.size (.slice none 0 0) 0 [] rfl (World.ownsRow_nil _ _ _ _) (.slice D 0 (sc - N)) 0 (i32s (s.st.take 0).reverse) rfl HX1.out (one_i32s _) (by simp [maxLen]) (by simp) (Nat.le_refl _) ?_; intro v8 w2 ho8 hg8; simp only [Nat.zero_add, List.nil_append] at ho8; obtain ⟨xa, xc, rfl, _⟩ := owns_shape ho8; have hM2 := HM1.out.grown hg8; have hm2 := Hm1.out.grown hg8; have b0 := hg8.cell HB0.out (by simp [Value.ownBlock]); have b1 := hg8.cell HB1.out (by simp [Value.ownBlock]); have c2 := hM2.r2; rw [HSV.out, ← HN.out] at c2; have c5 := hM2.r5; have f2 := hM2.frozen 2; have f5 := hM2.frozen 5; have hq2 := hM2.lt; have hl2 := World.block_lt_of_cell? _ _ b0; have HM2 := Lib.hid hM2; have Hm2 := Lib.hid hm2; have HO8 := Lib.hid ho8; clear hM2 hm2 ho8 hg8) | (at_builtin; refine app_full _ elemI32 rfl (.tmp 432) (.tmp 433) rfl sa N (i32s (s.st.drop 0).reverse) rfl (rd_left (HM2.out) HSV.out HN.out HMe.out _) (.slice (some ⟨w2.heap.size, 0, none⟩) 1 1) 1 (i32s [k]) rfl (rd_new _ (i32s [k]) _ 1 1 (by simp [i32s]) (by simp [maxLen])) (one_i32s _) (by omega) (by simp only [maxLen]; omega) (by omega) ?_; intro v3 w3 ho3 hg3; obtain ⟨va, vc, rfl, _⟩ := owns_shape ho3; have hM3 := ((HM2.out).alloc (.cells (i32s [k]).toArray 21)).grown hg3; have c2 := hM3.r2; have f2 := hM3.frozen 2; have c5 := hM3.r5; have f5 := hM3.frozen 5; have hq3 := hM3.lt; have HR := Lib.hid (rdo_end (o := [k]) (a := 0) (iv := iv) ((HM2.out).alloc (.cells (i32s [k]).toArray 21)) ((Hm2.out).alloc (.cells (i32s [k]).toArray 21)) rfl (by rw [← HMe.out]; exact ho3) hg3 (by rw [← HN.out]; omega) (by simpa using HK.out) (by rw [← HMe.out]; simp; omega) (s.pc + 1) (by omega) (by omega)); clear hM3 ho3 hg3))
  go_ret
  exact ⟨rfl, HR.out⟩
set_option maxHeartbeats 3200000 in
theorem rdo_25 (h : SM false w B q F cv mv iv sv kv ov s) (k : Int) (hk : I32 k) (hp0 : 0 ≤ s.pc) (hp1 : s.pc ≤ 1000000) :
    Calls Try.prog 43 #[.pointer (some ⟨q, 0, none⟩), codeV 25 k] w fun e w' => e = .returned (.bool true) ∧ FuQ false w B q F cv mv iv { s with pc := k } w' := by
  obtain ⟨sa, sc, hsv, hnc, hcm, hnone⟩ := rd_shape h.ops.rd
  have HK := Lib.hid hk
  unfold I32 at hk
  obtain ⟨hk0, hk1⟩ := hk
  have H := Lib.hid h
  have hql := h.lt
  have c2 := h.r2
  have c5 := h.r5
  have hsl := h.fit.sl
  have E := Lib.hid (fun W => effect_any 25 ⟨by omega, by omega⟩ W)
  rw [show takesC 25 = 0 from rfl, show leavesC 25 = 0 from rfl] at E
  have hrd : Rd w 1 (.slice sa s.st.length sc) s.st.length (i32s s.st.reverse) := by have := h.ops.rd; rw [hsv] at this; exact this
  obtain ⟨N, hN⟩ : ∃ N, N = s.st.length := ⟨_, rfl⟩
  obtain ⟨M, hM⟩ : ∃ M, N = M + 0 := ⟨N - 0, by skip; omega⟩
  rw [hsv] at c2
  have hMl : s.st.length - 0 = M := by omega
  have hNM : N = M := by omega
  subst hNM
  rw [← hN] at c2 hsl hnc hrd hMl
  obtain ⟨D, hD⟩ : ∃ D : Option Addr, (if sc = N then sa else Option.map (fun x => x.add N) sa) = D := ⟨_, rfl⟩
  have hx := rd_from hrd (lo := N) (by omega) hD
  have hMe : N = s.st.length - 0 := by omega
  have hxl : (i32s s.st.reverse).drop N = i32s (s.st.take 0).reverse := by rw [hMe]; exact take_rev _ _ (by omega)
  rw [hxl, show N - N = 0 by omega] at hx
  have HX := Lib.hid hx
  have HN := Lib.hid hN
  have HSV := Lib.hid hsv
  have HMe := Lib.hid hMe
  have g0 : decide ((N : Int) < 0) = false := by simp
  have g1 : ¬ (1000 : Int) < (N : Int) := by omega
  have g4 : decide ((1000 : Int) < (N : Int)) = false := by simp; omega
  have m0 : (0 : Int) ≤ (N : Int) := by omega
  have m1 : (N : Int) ≤ (N : Int) := by omega
  have m2 : N ≤ N := by omega
  clear h hN hsv hx hxl hrd hMe hMl hM
  simp only [codeV]
  go_enter Try.func43, Try.ntmps43
  go_wp2_with fail
  refine (E.out _).mono ?_; rintro e w1 ⟨rfl, hw1⟩
  have hM1 : SM false w1 B q F cv mv iv sv kv ov s := by rw [← hw1]; exact H.out.alloc _
  have hm1 : Mv w F F w1 := by rw [← hw1]; exact (Mv.refl w F).alloc _
  have b0 : w1.cell? ⟨w.heap.size, 0, none⟩ = some (.int .i64 25) := by rw [← hw1]; exact World.cell?_alloc_new w _ _ _
  have b1 : w1.cell? ⟨w.heap.size, 1, none⟩ = some (.int .i32 k) := by rw [← hw1]; exact World.cell?_alloc_new w _ _ _
  have c2' : w1.cell? ⟨q, 2, none⟩ = some (.slice sa N sc) := by rw [← hw1]; exact alloc_keep c2
  have hx1 : Rd w1 1 (.slice D 0 (sc - N)) 0 (i32s (s.st.take 0).reverse) := HX.out.below (B := w.heap.size) (by rw [← hw1]; exact (Below.refl _ _).alloc (Nat.le_refl _) _) (Nat.le_refl _)
  have HX1 := Lib.hid hx1
  have HM1 := Lib.hid hM1
  have Hm1 := Lib.hid hm1
  have HB0 := Lib.hid b0
  have HB1 := Lib.hid b1
  have hl1 := World.block_lt_of_cell? w1 _ b0
  have hq1 := HM1.out.lt
  clear hw1 hM1 hm1 c2 c5 hx1
  go_wp2_with (first | (at_builtin; refine app_own _ elemI32 rfl (.const (.slice none 0 0)) (.tmp 46) rfl w1.heap.size (.slice none 0 0) 0 [] rfl (World.ownsRow_nil _ _ _ _) (.slice D 0 (sc - N)) 0 (i32s (s.st.take 0).reverse) rfl HX1.out (one_i32s _) (by simp [maxLen]) (by simp) (Nat.le_refl _) ?_; intro v8 w2 ho8 hg8; simp only [Nat.zero_add, List.nil_append] at ho8; obtain ⟨xa, xc, rfl, _⟩ := owns_shape ho8; have hM2 := HM1.out.grown hg8; have hm2 := Hm1.out.grown hg8; have b0 := hg8.cell HB0.out (by simp [Value.ownBlock]); have b1 := hg8.cell HB1.out (by simp [Value.ownBlock]); have c2 := hM2.r2; rw [HSV.out, ← HN.out] at c2; have c5 := hM2.r5; have f2 := hM2.frozen 2; have f5 := hM2.frozen 5; have hq2 := hM2.lt; have hl2 := World.block_lt_of_cell? _ _ b0; have HM2 := Lib.hid hM2; have Hm2 := Lib.hid hm2; have HO8 := Lib.hid ho8; clear hM2 hm2 ho8 hg8) | (at_builtin; refine app_nothing elemI32 rfl (.tmp 432) (.tmp 433) rfl sa N rfl rfl (fun e => by have := hnone e; omega) ?_; have HR := Lib.hid (rdo_end0 (a := 0) (iv := iv) (rd_sv HM2.out HSV.out) Hm2.out rfl (by rw [← HN.out]; omega) (k) (by omega) (by omega))))
  go_ret
  refine ⟨rfl, ?_⟩
  have hr := HR.out
  rw [← HMe.out] at hr
  exact hr
set_option maxHeartbeats 3200000 in
theorem rdo_3 (h : SM false w B q F cv mv iv sv kv ov s) (k : Int) (hk : I32 k) (hp0 : 0 ≤ s.pc) (hp1 : s.pc ≤ 1000000) {x : Int} {t : List Int} (hst : s.st = x :: t) :
    Calls Try.prog 43 #[.pointer (some ⟨q, 0, none⟩), codeV 3 k] w fun e w' => e = .returned (.bool true) ∧ FuQ false w B q F cv mv iv { s with st := t, pc := s.pc + 1 } w' := by
  obtain ⟨sa, sc, hsv, hnc, hcm, hnone⟩ := rd_shape h.ops.rd
  have HK := Lib.hid hk
  unfold I32 at hk
  obtain ⟨hk0, hk1⟩ := hk
  have HST := Lib.hid hst
  have hxi : I32 x := h.fit.st x (by rw [hst]; simp)
  have HXI := Lib.hid hxi
  unfold I32 at hxi
  obtain ⟨hxi0, hxi1⟩ := hxi
  have H := Lib.hid h
  have hql := h.lt
  have c2 := h.r2
  have c5 := h.r5
  have hsl := h.fit.sl
  have E := Lib.hid (fun W => effect_any 3 ⟨by omega, by omega⟩ W)
  rw [show takesC 3 = 1 from rfl, show leavesC 3 = 0 from rfl] at E
  have hrd : Rd w 1 (.slice sa s.st.length sc) s.st.length (i32s s.st.reverse) := by have := h.ops.rd; rw [hsv] at this; exact this
  obtain ⟨N, hN⟩ : ∃ N, N = s.st.length := ⟨_, rfl⟩
  obtain ⟨M, hM⟩ : ∃ M, N = M + 1 := ⟨N - 1, by rw [hst] at hN; simp at hN; omega⟩
  rw [hsv] at c2
  have hMl : s.st.length - 1 = M := by omega
  rw [← hN] at c2 hsl hnc hrd hMl
  obtain ⟨D, hD⟩ : ∃ D : Option Addr, Option.map (fun x => x.add M) sa = D := ⟨_, rfl⟩
  have hx := rd_from hrd (lo := M) (by omega) (show (if sc = M then sa else Option.map (fun x => x.add M) sa) = D from by rw [if_neg (by omega)]; exact hD)
  have hMe : M = s.st.length - 1 := by omega
  have hxl : (i32s s.st.reverse).drop M = i32s (s.st.take 1).reverse := by rw [hMe]; exact take_rev _ _ (by omega)
  rw [hxl, show N - M = 1 by omega] at hx
  have HX := Lib.hid hx
  have HN := Lib.hid hN
  have HSV := Lib.hid hsv
  have HMe := Lib.hid hMe
  have eN : IntKind.i64.wrap ((N : Int) - 1) = M := by rw [show (N : Int) - 1 = M by omega]; exact IntWalk.i64_in _ (by omega)
  have eNM : N - M = 1 := by omega
  have g0 : decide ((N : Int) < 1) = false := by simp; omega
  have g0' : ¬ (N : Int) < 1 := by omega
  have g1 : ¬ (1000 : Int) < (M : Int) := by omega
  have g4 : decide ((1000 : Int) < (M : Int)) = false := by simp; omega
  have m0 : (0 : Int) ≤ (M : Int) := by omega
  have m1 : (M : Int) ≤ (N : Int) := by omega
  have m2 : M ≤ N := by omega
  clear hst h hN hsv hx hxl hrd hMe hMl hM
  simp only [codeV]
  go_enter Try.func43, Try.ntmps43
  go_wp2_with fail
  refine (E.out _).mono ?_; rintro e w1 ⟨rfl, hw1⟩
  have hM1 : SM false w1 B q F cv mv iv sv kv ov s := by rw [← hw1]; exact H.out.alloc _
  have hm1 : Mv w F F w1 := by rw [← hw1]; exact (Mv.refl w F).alloc _
  have b0 : w1.cell? ⟨w.heap.size, 0, none⟩ = some (.int .i64 3) := by rw [← hw1]; exact World.cell?_alloc_new w _ _ _
  have b1 : w1.cell? ⟨w.heap.size, 1, none⟩ = some (.int .i32 k) := by rw [← hw1]; exact World.cell?_alloc_new w _ _ _
  have c2' : w1.cell? ⟨q, 2, none⟩ = some (.slice sa N sc) := by rw [← hw1]; exact alloc_keep c2
  have hx1 : Rd w1 1 (.slice D 1 (sc - M)) 1 (i32s (s.st.take 1).reverse) := HX.out.below (B := w.heap.size) (by rw [← hw1]; exact (Below.refl _ _).alloc (Nat.le_refl _) _) (Nat.le_refl _)
  have HX1 := Lib.hid hx1
  have HM1 := Lib.hid hM1
  have Hm1 := Lib.hid hm1
  have HB0 := Lib.hid b0
  have HB1 := Lib.hid b1
  have hl1 := World.block_lt_of_cell? w1 _ b0
  have hq1 := HM1.out.lt
  clear hw1 hM1 hm1 c2 c5 hx1
  go_wp2_with (first | (at_builtin; refine app_own _ elemI32 rfl (.const (.slice none 0 0)) (.tmp 46) rfl w1.heap.size (.slice none 0 0) 0 [] rfl (World.ownsRow_nil _ _ _ _) (.slice D 1 (sc - M)) 1 (i32s (s.st.take 1).reverse) rfl HX1.out (one_i32s _) (by simp [maxLen]) (by simp) (Nat.le_refl _) ?_; intro v8 w2 ho8 hg8; simp only [Nat.zero_add, List.nil_append] at ho8; obtain ⟨xg, xc, rfl, hxc, hxg, hcells⟩ := st_owned ho8 (by omega) (by rw [HST.out]; rfl); have hx0 : w2.cell? ⟨xg, 0, none⟩ = some (.int .i32 x) := (by have := hcells 0 (by omega); rw [HST.out] at this; simpa using this); have hlx := World.block_lt_of_cell? _ _ hx0; clear hcells; have hM2 := HM1.out.grown hg8; have hm2 := Hm1.out.grown hg8; have b0 := hg8.cell HB0.out (by simp [Value.ownBlock]); have b1 := hg8.cell HB1.out (by simp [Value.ownBlock]); have c2 := hM2.r2; rw [HSV.out, ← HN.out] at c2; have c5 := hM2.r5; have f2 := hM2.frozen 2; have f5 := hM2.frozen 5; have hq2 := hM2.lt; have hl2 := World.block_lt_of_cell? _ _ b0; have HM2 := Lib.hid hM2; have Hm2 := Lib.hid hm2; have HO8 := Lib.hid ho8; clear hM2 hm2 ho8 hg8) | (at_builtin; refine app_nothing elemI32 rfl (.tmp 432) (.tmp 433) rfl sa M rfl rfl (fun e => by have := hnone e; omega) ?_; have HR := Lib.hid (rdo_end0 (a := 1) (iv := iv) (rd_sv HM2.out HSV.out) Hm2.out rfl (by rw [← HN.out]; omega) (s.pc + 1) (by omega) (by omega))))
  go_ret
  refine ⟨rfl, ?_⟩
  have hr := HR.out
  rw [← HMe.out] at hr
  have e : s.st.drop 1 = t := by rw [HST.out]; rfl
  rw [e] at hr
  exact hr
set_option maxHeartbeats 3200000 in
theorem rdo_26z (h : SM false w B q F cv mv iv sv kv ov s) (k : Int) (hk : I32 k) (hp0 : 0 ≤ s.pc) (hp1 : s.pc ≤ 1000000) {t : List Int} (hst : s.st = 0 :: t) :
    Calls Try.prog 43 #[.pointer (some ⟨q, 0, none⟩), codeV 26 k] w fun e w' => e = .returned (.bool true) ∧ FuQ false w B q F cv mv iv { s with st := t, pc := k } w' := by
  obtain ⟨sa, sc, hsv, hnc, hcm, hnone⟩ := rd_shape h.ops.rd
  have HK := Lib.hid hk
  unfold I32 at hk
  obtain ⟨hk0, hk1⟩ := hk
  have HST := Lib.hid hst
  have hxi : I32 0 := h.fit.st 0 (by rw [hst]; simp)
  have HXI := Lib.hid hxi
  unfold I32 at hxi
  obtain ⟨hxi0, hxi1⟩ := hxi
  have H := Lib.hid h
  have hql := h.lt
  have c2 := h.r2
  have c5 := h.r5
  have hsl := h.fit.sl
  have E := Lib.hid (fun W => effect_any 26 ⟨by omega, by omega⟩ W)
  rw [show takesC 26 = 1 from rfl, show leavesC 26 = 0 from rfl] at E
  have hrd : Rd w 1 (.slice sa s.st.length sc) s.st.length (i32s s.st.reverse) := by have := h.ops.rd; rw [hsv] at this; exact this
  obtain ⟨N, hN⟩ : ∃ N, N = s.st.length := ⟨_, rfl⟩
  obtain ⟨M, hM⟩ : ∃ M, N = M + 1 := ⟨N - 1, by rw [hst] at hN; simp at hN; omega⟩
  rw [hsv] at c2
  have hMl : s.st.length - 1 = M := by omega
  rw [← hN] at c2 hsl hnc hrd hMl
  obtain ⟨D, hD⟩ : ∃ D : Option Addr, Option.map (fun x => x.add M) sa = D := ⟨_, rfl⟩
  have hx := rd_from hrd (lo := M) (by omega) (show (if sc = M then sa else Option.map (fun x => x.add M) sa) = D from by rw [if_neg (by omega)]; exact hD)
  have hMe : M = s.st.length - 1 := by omega
  have hxl : (i32s s.st.reverse).drop M = i32s (s.st.take 1).reverse := by rw [hMe]; exact take_rev _ _ (by omega)
  rw [hxl, show N - M = 1 by omega] at hx
  have HX := Lib.hid hx
  have HN := Lib.hid hN
  have HSV := Lib.hid hsv
  have HMe := Lib.hid hMe
  have eN : IntKind.i64.wrap ((N : Int) - 1) = M := by rw [show (N : Int) - 1 = M by omega]; exact IntWalk.i64_in _ (by omega)
  have eNM : N - M = 1 := by omega
  have g0 : decide ((N : Int) < 1) = false := by simp; omega
  have g0' : ¬ (N : Int) < 1 := by omega
  have g1 : ¬ (1000 : Int) < (M : Int) := by omega
  have g4 : decide ((1000 : Int) < (M : Int)) = false := by simp; omega
  have m0 : (0 : Int) ≤ (M : Int) := by omega
  have m1 : (M : Int) ≤ (N : Int) := by omega
  have m2 : M ≤ N := by omega
  clear hst h hN hsv hx hxl hrd hMe hMl hM
  simp only [codeV]
  go_enter Try.func43, Try.ntmps43
  go_wp2_with fail
  refine (E.out _).mono ?_; rintro e w1 ⟨rfl, hw1⟩
  have hM1 : SM false w1 B q F cv mv iv sv kv ov s := by rw [← hw1]; exact H.out.alloc _
  have hm1 : Mv w F F w1 := by rw [← hw1]; exact (Mv.refl w F).alloc _
  have b0 : w1.cell? ⟨w.heap.size, 0, none⟩ = some (.int .i64 26) := by rw [← hw1]; exact World.cell?_alloc_new w _ _ _
  have b1 : w1.cell? ⟨w.heap.size, 1, none⟩ = some (.int .i32 k) := by rw [← hw1]; exact World.cell?_alloc_new w _ _ _
  have c2' : w1.cell? ⟨q, 2, none⟩ = some (.slice sa N sc) := by rw [← hw1]; exact alloc_keep c2
  have hx1 : Rd w1 1 (.slice D 1 (sc - M)) 1 (i32s (s.st.take 1).reverse) := HX.out.below (B := w.heap.size) (by rw [← hw1]; exact (Below.refl _ _).alloc (Nat.le_refl _) _) (Nat.le_refl _)
  have HX1 := Lib.hid hx1
  have HM1 := Lib.hid hM1
  have Hm1 := Lib.hid hm1
  have HB0 := Lib.hid b0
  have HB1 := Lib.hid b1
  have hl1 := World.block_lt_of_cell? w1 _ b0
  have hq1 := HM1.out.lt
  clear hw1 hM1 hm1 c2 c5 hx1
  go_wp2_with (first | (at_builtin; refine app_own _ elemI32 rfl (.const (.slice none 0 0)) (.tmp 46) rfl w1.heap.size (.slice none 0 0) 0 [] rfl (World.ownsRow_nil _ _ _ _) (.slice D 1 (sc - M)) 1 (i32s (s.st.take 1).reverse) rfl HX1.out (one_i32s _) (by simp [maxLen]) (by simp) (Nat.le_refl _) ?_; intro v8 w2 ho8 hg8; simp only [Nat.zero_add, List.nil_append] at ho8; obtain ⟨xg, xc, rfl, hxc, hxg, hcells⟩ := st_owned ho8 (by omega) (by rw [HST.out]; rfl); have hx0 : w2.cell? ⟨xg, 0, none⟩ = some (.int .i32 0) := (by have := hcells 0 (by omega); rw [HST.out] at this; simpa using this); have hlx := World.block_lt_of_cell? _ _ hx0; clear hcells; have hM2 := HM1.out.grown hg8; have hm2 := Hm1.out.grown hg8; have b0 := hg8.cell HB0.out (by simp [Value.ownBlock]); have b1 := hg8.cell HB1.out (by simp [Value.ownBlock]); have c2 := hM2.r2; rw [HSV.out, ← HN.out] at c2; have c5 := hM2.r5; have f2 := hM2.frozen 2; have f5 := hM2.frozen 5; have hq2 := hM2.lt; have hl2 := World.block_lt_of_cell? _ _ b0; have HM2 := Lib.hid hM2; have Hm2 := Lib.hid hm2; have HO8 := Lib.hid ho8; clear hM2 hm2 ho8 hg8) | (at_builtin; refine app_nothing elemI32 rfl (.tmp 432) (.tmp 433) rfl sa M rfl rfl (fun e => by have := hnone e; omega) ?_; have HR := Lib.hid (rdo_end0 (a := 1) (iv := iv) (rd_sv HM2.out HSV.out) Hm2.out rfl (by rw [← HN.out]; omega) (k) (by omega) (by omega))))
  go_ret
  refine ⟨rfl, ?_⟩
  have hr := HR.out
  rw [← HMe.out] at hr
  have e : s.st.drop 1 = t := by rw [HST.out]; rfl
  rw [e] at hr
  exact hr
set_option maxHeartbeats 3200000 in
theorem rdo_26n (h : SM false w B q F cv mv iv sv kv ov s) (k : Int) (hk : I32 k) (hp0 : 0 ≤ s.pc) (hp1 : s.pc ≤ 1000000) {x : Int} {t : List Int} (hst : s.st = x :: t) (hx0n : (x == 0) = false) :
    Calls Try.prog 43 #[.pointer (some ⟨q, 0, none⟩), codeV 26 k] w fun e w' => e = .returned (.bool true) ∧ FuQ false w B q F cv mv iv { s with st := t, pc := s.pc + 1 } w' := by
  obtain ⟨sa, sc, hsv, hnc, hcm, hnone⟩ := rd_shape h.ops.rd
  have HK := Lib.hid hk
  unfold I32 at hk
  obtain ⟨hk0, hk1⟩ := hk
  have HST := Lib.hid hst
  have hxi : I32 x := h.fit.st x (by rw [hst]; simp)
  have HXI := Lib.hid hxi
  unfold I32 at hxi
  obtain ⟨hxi0, hxi1⟩ := hxi
  have H := Lib.hid h
  have hql := h.lt
  have c2 := h.r2
  have c5 := h.r5
  have hsl := h.fit.sl
  have E := Lib.hid (fun W => effect_any 26 ⟨by omega, by omega⟩ W)
  rw [show takesC 26 = 1 from rfl, show leavesC 26 = 0 from rfl] at E
  have hrd : Rd w 1 (.slice sa s.st.length sc) s.st.length (i32s s.st.reverse) := by have := h.ops.rd; rw [hsv] at this; exact this
  obtain ⟨N, hN⟩ : ∃ N, N = s.st.length := ⟨_, rfl⟩
  obtain ⟨M, hM⟩ : ∃ M, N = M + 1 := ⟨N - 1, by rw [hst] at hN; simp at hN; omega⟩
  rw [hsv] at c2
  have hMl : s.st.length - 1 = M := by omega
  rw [← hN] at c2 hsl hnc hrd hMl
  obtain ⟨D, hD⟩ : ∃ D : Option Addr, Option.map (fun x => x.add M) sa = D := ⟨_, rfl⟩
  have hx := rd_from hrd (lo := M) (by omega) (show (if sc = M then sa else Option.map (fun x => x.add M) sa) = D from by rw [if_neg (by omega)]; exact hD)
  have hMe : M = s.st.length - 1 := by omega
  have hxl : (i32s s.st.reverse).drop M = i32s (s.st.take 1).reverse := by rw [hMe]; exact take_rev _ _ (by omega)
  rw [hxl, show N - M = 1 by omega] at hx
  have HX := Lib.hid hx
  have HN := Lib.hid hN
  have HSV := Lib.hid hsv
  have HMe := Lib.hid hMe
  have eN : IntKind.i64.wrap ((N : Int) - 1) = M := by rw [show (N : Int) - 1 = M by omega]; exact IntWalk.i64_in _ (by omega)
  have eNM : N - M = 1 := by omega
  have g0 : decide ((N : Int) < 1) = false := by simp; omega
  have g0' : ¬ (N : Int) < 1 := by omega
  have g1 : ¬ (1000 : Int) < (M : Int) := by omega
  have g4 : decide ((1000 : Int) < (M : Int)) = false := by simp; omega
  have m0 : (0 : Int) ≤ (M : Int) := by omega
  have m1 : (M : Int) ≤ (N : Int) := by omega
  have m2 : M ≤ N := by omega
  clear hst h hN hsv hx hxl hrd hMe hMl hM
  simp only [codeV]
  go_enter Try.func43, Try.ntmps43
  go_wp2_with fail
  refine (E.out _).mono ?_; rintro e w1 ⟨rfl, hw1⟩
  have hM1 : SM false w1 B q F cv mv iv sv kv ov s := by rw [← hw1]; exact H.out.alloc _
  have hm1 : Mv w F F w1 := by rw [← hw1]; exact (Mv.refl w F).alloc _
  have b0 : w1.cell? ⟨w.heap.size, 0, none⟩ = some (.int .i64 26) := by rw [← hw1]; exact World.cell?_alloc_new w _ _ _
  have b1 : w1.cell? ⟨w.heap.size, 1, none⟩ = some (.int .i32 k) := by rw [← hw1]; exact World.cell?_alloc_new w _ _ _
  have c2' : w1.cell? ⟨q, 2, none⟩ = some (.slice sa N sc) := by rw [← hw1]; exact alloc_keep c2
  have hx1 : Rd w1 1 (.slice D 1 (sc - M)) 1 (i32s (s.st.take 1).reverse) := HX.out.below (B := w.heap.size) (by rw [← hw1]; exact (Below.refl _ _).alloc (Nat.le_refl _) _) (Nat.le_refl _)
  have HX1 := Lib.hid hx1
  have HM1 := Lib.hid hM1
  have Hm1 := Lib.hid hm1
  have HB0 := Lib.hid b0
  have HB1 := Lib.hid b1
  have hl1 := World.block_lt_of_cell? w1 _ b0
  have hq1 := HM1.out.lt
  clear hw1 hM1 hm1 c2 c5 hx1
  go_wp2_with (first | (at_builtin; refine app_own _ elemI32 rfl (.const (.slice none 0 0)) (.tmp 46) rfl w1.heap.size (.slice none 0 0) 0 [] rfl (World.ownsRow_nil _ _ _ _) (.slice D 1 (sc - M)) 1 (i32s (s.st.take 1).reverse) rfl HX1.out (one_i32s _) (by simp [maxLen]) (by simp) (Nat.le_refl _) ?_; intro v8 w2 ho8 hg8; simp only [Nat.zero_add, List.nil_append] at ho8; obtain ⟨xg, xc, rfl, hxc, hxg, hcells⟩ := st_owned ho8 (by omega) (by rw [HST.out]; rfl); have hx0 : w2.cell? ⟨xg, 0, none⟩ = some (.int .i32 x) := (by have := hcells 0 (by omega); rw [HST.out] at this; simpa using this); have hlx := World.block_lt_of_cell? _ _ hx0; clear hcells; have hM2 := HM1.out.grown hg8; have hm2 := Hm1.out.grown hg8; have b0 := hg8.cell HB0.out (by simp [Value.ownBlock]); have b1 := hg8.cell HB1.out (by simp [Value.ownBlock]); have c2 := hM2.r2; rw [HSV.out, ← HN.out] at c2; have c5 := hM2.r5; have f2 := hM2.frozen 2; have f5 := hM2.frozen 5; have hq2 := hM2.lt; have hl2 := World.block_lt_of_cell? _ _ b0; have HM2 := Lib.hid hM2; have Hm2 := Lib.hid hm2; have HO8 := Lib.hid ho8; clear hM2 hm2 ho8 hg8) | (at_builtin; refine app_nothing elemI32 rfl (.tmp 432) (.tmp 433) rfl sa M rfl rfl (fun e => by have := hnone e; omega) ?_; have HR := Lib.hid (rdo_end0 (a := 1) (iv := iv) (rd_sv HM2.out HSV.out) Hm2.out rfl (by rw [← HN.out]; omega) (s.pc + 1) (by omega) (by omega))))
  go_ret
  refine ⟨rfl, ?_⟩
  have hr := HR.out
  rw [← HMe.out] at hr
  have e : s.st.drop 1 = t := by rw [HST.out]; rfl
  rw [e] at hr
  exact hr
set_option maxHeartbeats 3200000 in
theorem rdo_14 (h : SM false w B q F cv mv iv sv kv ov s) (k : Int) (hk : I32 k) (hp0 : 0 ≤ s.pc) (hp1 : s.pc ≤ 1000000) {x : Int} {t : List Int} (hst : s.st = x :: t) :
    Calls Try.prog 43 #[.pointer (some ⟨q, 0, none⟩), codeV 14 k] w fun e w' => e = .returned (.bool true) ∧ FuQ false w B q F cv mv iv { s with st := wrap32 (0 - x) :: t, pc := s.pc + 1 } w' := by
  obtain ⟨sa, sc, hsv, hnc, hcm, hnone⟩ := rd_shape h.ops.rd
  have HK := Lib.hid hk
  unfold I32 at hk
  obtain ⟨hk0, hk1⟩ := hk
  have HST := Lib.hid hst
  have hxi : I32 x := h.fit.st x (by rw [hst]; simp)
  have HXI := Lib.hid hxi
  unfold I32 at hxi
  obtain ⟨hxi0, hxi1⟩ := hxi
  have H := Lib.hid h
  have hql := h.lt
  have c2 := h.r2
  have c5 := h.r5
  have hsl := h.fit.sl
  have E := Lib.hid (fun W => effect_any 14 ⟨by omega, by omega⟩ W)
  rw [show takesC 14 = 1 from rfl, show leavesC 14 = 1 from rfl] at E
  have hrd : Rd w 1 (.slice sa s.st.length sc) s.st.length (i32s s.st.reverse) := by have := h.ops.rd; rw [hsv] at this; exact this
  obtain ⟨N, hN⟩ : ∃ N, N = s.st.length := ⟨_, rfl⟩
  obtain ⟨M, hM⟩ : ∃ M, N = M + 1 := ⟨N - 1, by rw [hst] at hN; simp at hN; omega⟩
  rw [hsv] at c2
  have hMl : s.st.length - 1 = M := by omega
  rw [← hN] at c2 hsl hnc hrd hMl
  obtain ⟨D, hD⟩ : ∃ D : Option Addr, Option.map (fun x => x.add M) sa = D := ⟨_, rfl⟩
  have hx := rd_from hrd (lo := M) (by omega) (show (if sc = M then sa else Option.map (fun x => x.add M) sa) = D from by rw [if_neg (by omega)]; exact hD)
  have hMe : M = s.st.length - 1 := by omega
  have hxl : (i32s s.st.reverse).drop M = i32s (s.st.take 1).reverse := by rw [hMe]; exact take_rev _ _ (by omega)
  rw [hxl, show N - M = 1 by omega] at hx
  have HX := Lib.hid hx
  have HN := Lib.hid hN
  have HSV := Lib.hid hsv
  have HMe := Lib.hid hMe
  have eN : IntKind.i64.wrap ((N : Int) - 1) = M := by rw [show (N : Int) - 1 = M by omega]; exact IntWalk.i64_in _ (by omega)
  have eNM : N - M = 1 := by omega
  have g0 : decide ((N : Int) < 1) = false := by simp; omega
  have g0' : ¬ (N : Int) < 1 := by omega
  have g1 : ¬ (1000 : Int) < (M : Int) + 1 := by omega
  have g4 : decide ((1000 : Int) < (M : Int) + 1) = false := by simp; omega
  have m0 : (0 : Int) ≤ (M : Int) := by omega
  have m1 : (M : Int) ≤ (N : Int) := by omega
  have m2 : M ≤ N := by omega
  clear hst h hN hsv hx hxl hrd hMe hMl hM
  simp only [codeV]
  go_enter Try.func43, Try.ntmps43
  go_wp2_with fail
  refine (E.out _).mono ?_; rintro e w1 ⟨rfl, hw1⟩
  have hM1 : SM false w1 B q F cv mv iv sv kv ov s := by rw [← hw1]; exact H.out.alloc _
  have hm1 : Mv w F F w1 := by rw [← hw1]; exact (Mv.refl w F).alloc _
  have b0 : w1.cell? ⟨w.heap.size, 0, none⟩ = some (.int .i64 14) := by rw [← hw1]; exact World.cell?_alloc_new w _ _ _
  have b1 : w1.cell? ⟨w.heap.size, 1, none⟩ = some (.int .i32 k) := by rw [← hw1]; exact World.cell?_alloc_new w _ _ _
  have c2' : w1.cell? ⟨q, 2, none⟩ = some (.slice sa N sc) := by rw [← hw1]; exact alloc_keep c2
  have hx1 : Rd w1 1 (.slice D 1 (sc - M)) 1 (i32s (s.st.take 1).reverse) := HX.out.below (B := w.heap.size) (by rw [← hw1]; exact (Below.refl _ _).alloc (Nat.le_refl _) _) (Nat.le_refl _)
  have HX1 := Lib.hid hx1
  have HM1 := Lib.hid hM1
  have Hm1 := Lib.hid hm1
  have HB0 := Lib.hid b0
  have HB1 := Lib.hid b1
  have hl1 := World.block_lt_of_cell? w1 _ b0
  have hq1 := HM1.out.lt
  clear hw1 hM1 hm1 c2 c5 hx1
  go_wp2_with (first | (at_builtin; refine app_own _ elemI32 rfl (.const (.slice none 0 0)) (.tmp 46) rfl w1.heap.size (.slice none 0 0) 0 [] rfl (World.ownsRow_nil _ _ _ _) (.slice D 1 (sc - M)) 1 (i32s (s.st.take 1).reverse) rfl HX1.out (one_i32s _) (by simp [maxLen]) (by simp) (Nat.le_refl _) ?_; intro v8 w2 ho8 hg8; simp only [Nat.zero_add, List.nil_append] at ho8; obtain ⟨xg, xc, rfl, hxc, hxg, hcells⟩ := st_owned ho8 (by omega) (by rw [HST.out]; rfl); have hx0 : w2.cell? ⟨xg, 0, none⟩ = some (.int .i32 x) := (by have := hcells 0 (by omega); rw [HST.out] at this; simpa using this); have hlx := World.block_lt_of_cell? _ _ hx0; clear hcells; have hM2 := HM1.out.grown hg8; have hm2 := Hm1.out.grown hg8; have b0 := hg8.cell HB0.out (by simp [Value.ownBlock]); have b1 := hg8.cell HB1.out (by simp [Value.ownBlock]); have c2 := hM2.r2; rw [HSV.out, ← HN.out] at c2; have c5 := hM2.r5; have f2 := hM2.frozen 2; have f5 := hM2.frozen 5; have hq2 := hM2.lt; have hl2 := World.block_lt_of_cell? _ _ b0; have HM2 := Lib.hid hM2; have Hm2 := Lib.hid hm2; have HO8 := Lib.hid ho8; clear hM2 hm2 ho8 hg8) | (at_builtin; refine app_full _ elemI32 rfl (.tmp 432) (.tmp 433) rfl sa M (i32s (s.st.drop 1).reverse) rfl (rd_left (HM2.out) HSV.out HN.out HMe.out _) (.slice (some ⟨w2.heap.size, 0, none⟩) 1 1) 1 (i32s [wrap32 (-x)]) rfl (rd_new _ (i32s [wrap32 (-x)]) _ 1 1 (by simp [i32s]) (by simp [maxLen])) (one_i32s _) (by omega) (by simp only [maxLen]; omega) (by omega) ?_; intro v3 w3 ho3 hg3; obtain ⟨va, vc, rfl, _⟩ := owns_shape ho3; have hM3 := ((HM2.out).alloc (.cells (i32s [wrap32 (-x)]).toArray 21)).grown hg3; have c2 := hM3.r2; have f2 := hM3.frozen 2; have c5 := hM3.r5; have f5 := hM3.frozen 5; have hq3 := hM3.lt; have HR := Lib.hid (rdo_end (o := [wrap32 (-x)]) (a := 1) (iv := iv) ((HM2.out).alloc (.cells (i32s [wrap32 (-x)]).toArray 21)) ((Hm2.out).alloc (.cells (i32s [wrap32 (-x)]).toArray 21)) rfl (by rw [← HMe.out]; exact ho3) hg3 (by rw [← HN.out]; omega) (by intro z hz; rw [List.mem_singleton.1 hz]; exact wrap32_le _) (by rw [← HMe.out]; simp; omega) (s.pc + 1) (by omega) (by omega)); clear hM3 ho3 hg3))
  go_ret
  refine ⟨rfl, ?_⟩
  have hr := HR.out
  have e : s.st.drop 1 = t := by rw [HST.out]; rfl
  rw [e] at hr
  try rw [Int.zero_sub]
  exact hr
set_option maxHeartbeats 3200000 in
theorem rdo_18 (h : SM false w B q F cv mv iv sv kv ov s) (k : Int) (hk : I32 k) (hp0 : 0 ≤ s.pc) (hp1 : s.pc ≤ 1000000) {x : Int} {t : List Int} (hst : s.st = x :: t) :
    Calls Try.prog 43 #[.pointer (some ⟨q, 0, none⟩), codeV 18 k] w fun e w' => e = .returned (.bool true) ∧ FuQ false w B q F cv mv iv { s with st := (-1 - x) :: t, pc := s.pc + 1 } w' := by
  obtain ⟨sa, sc, hsv, hnc, hcm, hnone⟩ := rd_shape h.ops.rd
  have HK := Lib.hid hk
  unfold I32 at hk
  obtain ⟨hk0, hk1⟩ := hk
  have HST := Lib.hid hst
  have hxi : I32 x := h.fit.st x (by rw [hst]; simp)
  have HXI := Lib.hid hxi
  unfold I32 at hxi
  obtain ⟨hxi0, hxi1⟩ := hxi
  have H := Lib.hid h
  have hql := h.lt
  have c2 := h.r2
  have c5 := h.r5
  have hsl := h.fit.sl
  have E := Lib.hid (fun W => effect_any 18 ⟨by omega, by omega⟩ W)
  rw [show takesC 18 = 1 from rfl, show leavesC 18 = 1 from rfl] at E
  have hrd : Rd w 1 (.slice sa s.st.length sc) s.st.length (i32s s.st.reverse) := by have := h.ops.rd; rw [hsv] at this; exact this
  obtain ⟨N, hN⟩ : ∃ N, N = s.st.length := ⟨_, rfl⟩
  obtain ⟨M, hM⟩ : ∃ M, N = M + 1 := ⟨N - 1, by rw [hst] at hN; simp at hN; omega⟩
  rw [hsv] at c2
  have hMl : s.st.length - 1 = M := by omega
  rw [← hN] at c2 hsl hnc hrd hMl
  obtain ⟨D, hD⟩ : ∃ D : Option Addr, Option.map (fun x => x.add M) sa = D := ⟨_, rfl⟩
  have hx := rd_from hrd (lo := M) (by omega) (show (if sc = M then sa else Option.map (fun x => x.add M) sa) = D from by rw [if_neg (by omega)]; exact hD)
  have hMe : M = s.st.length - 1 := by omega
  have hxl : (i32s s.st.reverse).drop M = i32s (s.st.take 1).reverse := by rw [hMe]; exact take_rev _ _ (by omega)
  rw [hxl, show N - M = 1 by omega] at hx
  have HX := Lib.hid hx
  have HN := Lib.hid hN
  have HSV := Lib.hid hsv
  have HMe := Lib.hid hMe
  have eN : IntKind.i64.wrap ((N : Int) - 1) = M := by rw [show (N : Int) - 1 = M by omega]; exact IntWalk.i64_in _ (by omega)
  have eNM : N - M = 1 := by omega
  have g0 : decide ((N : Int) < 1) = false := by simp; omega
  have g0' : ¬ (N : Int) < 1 := by omega
  have g1 : ¬ (1000 : Int) < (M : Int) + 1 := by omega
  have g4 : decide ((1000 : Int) < (M : Int) + 1) = false := by simp; omega
  have m0 : (0 : Int) ≤ (M : Int) := by omega
  have m1 : (M : Int) ≤ (N : Int) := by omega
  have m2 : M ≤ N := by omega
  clear hst h hN hsv hx hxl hrd hMe hMl hM
  simp only [codeV]
  go_enter Try.func43, Try.ntmps43
  go_wp2_with fail
  refine (E.out _).mono ?_; rintro e w1 ⟨rfl, hw1⟩
  have hM1 : SM false w1 B q F cv mv iv sv kv ov s := by rw [← hw1]; exact H.out.alloc _
  have hm1 : Mv w F F w1 := by rw [← hw1]; exact (Mv.refl w F).alloc _
  have b0 : w1.cell? ⟨w.heap.size, 0, none⟩ = some (.int .i64 18) := by rw [← hw1]; exact World.cell?_alloc_new w _ _ _
  have b1 : w1.cell? ⟨w.heap.size, 1, none⟩ = some (.int .i32 k) := by rw [← hw1]; exact World.cell?_alloc_new w _ _ _
  have c2' : w1.cell? ⟨q, 2, none⟩ = some (.slice sa N sc) := by rw [← hw1]; exact alloc_keep c2
  have hx1 : Rd w1 1 (.slice D 1 (sc - M)) 1 (i32s (s.st.take 1).reverse) := HX.out.below (B := w.heap.size) (by rw [← hw1]; exact (Below.refl _ _).alloc (Nat.le_refl _) _) (Nat.le_refl _)
  have HX1 := Lib.hid hx1
  have HM1 := Lib.hid hM1
  have Hm1 := Lib.hid hm1
  have HB0 := Lib.hid b0
  have HB1 := Lib.hid b1
  have hl1 := World.block_lt_of_cell? w1 _ b0
  have hq1 := HM1.out.lt
  clear hw1 hM1 hm1 c2 c5 hx1
  go_wp2_with (first | (at_builtin; refine app_own _ elemI32 rfl (.const (.slice none 0 0)) (.tmp 46) rfl w1.heap.size (.slice none 0 0) 0 [] rfl (World.ownsRow_nil _ _ _ _) (.slice D 1 (sc - M)) 1 (i32s (s.st.take 1).reverse) rfl HX1.out (one_i32s _) (by simp [maxLen]) (by simp) (Nat.le_refl _) ?_; intro v8 w2 ho8 hg8; simp only [Nat.zero_add, List.nil_append] at ho8; obtain ⟨xg, xc, rfl, hxc, hxg, hcells⟩ := st_owned ho8 (by omega) (by rw [HST.out]; rfl); have hx0 : w2.cell? ⟨xg, 0, none⟩ = some (.int .i32 x) := (by have := hcells 0 (by omega); rw [HST.out] at this; simpa using this); have hlx := World.block_lt_of_cell? _ _ hx0; clear hcells; have hM2 := HM1.out.grown hg8; have hm2 := Hm1.out.grown hg8; have b0 := hg8.cell HB0.out (by simp [Value.ownBlock]); have b1 := hg8.cell HB1.out (by simp [Value.ownBlock]); have c2 := hM2.r2; rw [HSV.out, ← HN.out] at c2; have c5 := hM2.r5; have f2 := hM2.frozen 2; have f5 := hM2.frozen 5; have hq2 := hM2.lt; have hl2 := World.block_lt_of_cell? _ _ b0; have HM2 := Lib.hid hM2; have Hm2 := Lib.hid hm2; have HO8 := Lib.hid ho8; clear hM2 hm2 ho8 hg8) | (at_builtin; refine app_full _ elemI32 rfl (.tmp 432) (.tmp 433) rfl sa M (i32s (s.st.drop 1).reverse) rfl (rd_left (HM2.out) HSV.out HN.out HMe.out _) (.slice (some ⟨w2.heap.size, 0, none⟩) 1 1) 1 (i32s [bits .xor .i32 (-1) x]) rfl (rd_new _ (i32s [bits .xor .i32 (-1) x]) _ 1 1 (by simp [i32s]) (by simp [maxLen])) (one_i32s _) (by omega) (by simp only [maxLen]; omega) (by omega) ?_; intro v3 w3 ho3 hg3; obtain ⟨va, vc, rfl, _⟩ := owns_shape ho3; have hM3 := ((HM2.out).alloc (.cells (i32s [bits .xor .i32 (-1) x]).toArray 21)).grown hg3; have c2 := hM3.r2; have f2 := hM3.frozen 2; have c5 := hM3.r5; have f5 := hM3.frozen 5; have hq3 := hM3.lt; have HR := Lib.hid (rdo_end (o := [bits .xor .i32 (-1) x]) (a := 1) (iv := iv) ((HM2.out).alloc (.cells (i32s [bits .xor .i32 (-1) x]).toArray 21)) ((Hm2.out).alloc (.cells (i32s [bits .xor .i32 (-1) x]).toArray 21)) rfl (by rw [← HMe.out]; exact ho3) hg3 (by rw [← HN.out]; omega) (by simpa using xor_i32_in _ _) (by rw [← HMe.out]; simp; omega) (s.pc + 1) (by omega) (by omega)); clear hM3 ho3 hg3))
  go_ret
  refine ⟨rfl, ?_⟩
  have hr := HR.out
  have e : s.st.drop 1 = t := by rw [HST.out]; rfl
  rw [e] at hr
  rw [← inv_bits x hxi0 hxi1]
  exact hr
end
end Go.Proofs.Ytgkdphnhfjjepaa

/- The reference's do, operation by operation (printed by gen_stk31.py). -/
namespace Go.Proofs.Ytgkdphnhfjjepaa
open Go.RowKit Go.Waf
set_option maxRecDepth 100000
set_option linter.unusedVariables false
set_option linter.unusedSimpArgs false

section
variable {w : World} {B q : Nat} {F : Nat → Prop} {cv mv iv sv kv ov : Value} {s : SSt}
set_option maxHeartbeats 3200000 in
theorem rdo_2 (h : SM false w B q F cv mv iv sv kv ov s) (k : Int) (hk : I32 k) (hp0 : 0 ≤ s.pc) (hp1 : s.pc ≤ 1000000) {x : Int} {t : List Int} (hst : s.st = x :: t) (hl : s.st.length < 1000) :
    Calls Try.prog 43 #[.pointer (some ⟨q, 0, none⟩), codeV 2 k] w fun e w' => e = .returned (.bool true) ∧ FuQ false w B q F cv mv iv { s with st := x :: x :: t, pc := s.pc + 1 } w' := by
  obtain ⟨sa, sc, hsv, hnc, hcm, hnone⟩ := rd_shape h.ops.rd
  have HK := Lib.hid hk
  unfold I32 at hk
  obtain ⟨hk0, hk1⟩ := hk
  have HST := Lib.hid hst
  have hxi : I32 x := h.fit.st x (by rw [hst]; simp)
  have HXI := Lib.hid hxi
  unfold I32 at hxi
  obtain ⟨hxi0, hxi1⟩ := hxi
  have H := Lib.hid h
  have hql := h.lt
  have c2 := h.r2
  have c5 := h.r5
  have hsl := h.fit.sl
  have E := Lib.hid (fun W => effect_any 2 ⟨by omega, by omega⟩ W)
  rw [show takesC 2 = 1 from rfl, show leavesC 2 = 2 from rfl] at E
  have hrd : Rd w 1 (.slice sa s.st.length sc) s.st.length (i32s s.st.reverse) := by have := h.ops.rd; rw [hsv] at this; exact this
  obtain ⟨N, hN⟩ : ∃ N, N = s.st.length := ⟨_, rfl⟩
  obtain ⟨M, hM⟩ : ∃ M, N = M + 1 := ⟨N - 1, by rw [hst] at hN; simp at hN; omega⟩
  rw [hsv] at c2
  have hMl : s.st.length - 1 = M := by omega
  rw [← hN] at c2 hsl hnc hrd hMl
  obtain ⟨D, hD⟩ : ∃ D : Option Addr, Option.map (fun x => x.add M) sa = D := ⟨_, rfl⟩
  have hx := rd_from hrd (lo := M) (by omega) (show (if sc = M then sa else Option.map (fun x => x.add M) sa) = D from by rw [if_neg (by omega)]; exact hD)
  have hMe : M = s.st.length - 1 := by omega
  have hxl : (i32s s.st.reverse).drop M = i32s (s.st.take 1).reverse := by rw [hMe]; exact take_rev _ _ (by omega)
  rw [hxl, show N - M = 1 by omega] at hx
  have HX := Lib.hid hx
  have HN := Lib.hid hN
  have HSV := Lib.hid hsv
  have HMe := Lib.hid hMe
  have eN : IntKind.i64.wrap ((N : Int) - 1) = M := by rw [show (N : Int) - 1 = M by omega]; exact IntWalk.i64_in _ (by omega)
  have eNM : N - M = 1 := by omega
  have g0 : decide ((N : Int) < 1) = false := by simp; omega
  have g0' : ¬ (N : Int) < 1 := by omega
  have g1 : ¬ (1000 : Int) < (M : Int) + 2 := by omega
  have g4 : decide ((1000 : Int) < (M : Int) + 2) = false := by simp; omega
  have m0 : (0 : Int) ≤ (M : Int) := by omega
  have m1 : (M : Int) ≤ (N : Int) := by omega
  have m2 : M ≤ N := by omega
  clear hst h hN hsv hx hxl hrd hMe hMl hM
  simp only [codeV]
  go_enter Try.func43, Try.ntmps43
  go_wp2_with fail
  refine (E.out _).mono ?_; rintro e w1 ⟨rfl, hw1⟩
  have hM1 : SM false w1 B q F cv mv iv sv kv ov s := by rw [← hw1]; exact H.out.alloc _
  have hm1 : Mv w F F w1 := by rw [← hw1]; exact (Mv.refl w F).alloc _
  have b0 : w1.cell? ⟨w.heap.size, 0, none⟩ = some (.int .i64 2) := by rw [← hw1]; exact World.cell?_alloc_new w _ _ _
  have b1 : w1.cell? ⟨w.heap.size, 1, none⟩ = some (.int .i32 k) := by rw [← hw1]; exact World.cell?_alloc_new w _ _ _
  have c2' : w1.cell? ⟨q, 2, none⟩ = some (.slice sa N sc) := by rw [← hw1]; exact alloc_keep c2
  have hx1 : Rd w1 1 (.slice D 1 (sc - M)) 1 (i32s (s.st.take 1).reverse) := HX.out.below (B := w.heap.size) (by rw [← hw1]; exact (Below.refl _ _).alloc (Nat.le_refl _) _) (Nat.le_refl _)
  have HX1 := Lib.hid hx1
  have HM1 := Lib.hid hM1
  have Hm1 := Lib.hid hm1
  have HB0 := Lib.hid b0
  have HB1 := Lib.hid b1
  have hl1 := World.block_lt_of_cell? w1 _ b0
  have hq1 := HM1.out.lt
  clear hw1 hM1 hm1 c2 c5 hx1
  go_wp2_with (first | (at_builtin; refine app_own _ elemI32 rfl (.const (.slice none 0 0)) (.tmp 46) rfl w1.heap.size (.slice none 0 0) 0 [] rfl (World.ownsRow_nil _ _ _ _) (.slice D 1 (sc - M)) 1 (i32s (s.st.take 1).reverse) rfl HX1.out (one_i32s _) (by simp [maxLen]) (by simp) (Nat.le_refl _) ?_; intro v8 w2 ho8 hg8; simp only [Nat.zero_add, List.nil_append] at ho8; obtain ⟨xg, xc, rfl, hxc, hxg, hcells⟩ := st_owned ho8 (by omega) (by rw [HST.out]; rfl); have hx0 : w2.cell? ⟨xg, 0, none⟩ = some (.int .i32 x) := (by have := hcells 0 (by omega); rw [HST.out] at this; simpa using this); have hlx := World.block_lt_of_cell? _ _ hx0; clear hcells; have hM2 := HM1.out.grown hg8; have hm2 := Hm1.out.grown hg8; have b0 := hg8.cell HB0.out (by simp [Value.ownBlock]); have b1 := hg8.cell HB1.out (by simp [Value.ownBlock]); have c2 := hM2.r2; rw [HSV.out, ← HN.out] at c2; have c5 := hM2.r5; have f2 := hM2.frozen 2; have f5 := hM2.frozen 5; have hq2 := hM2.lt; have hl2 := World.block_lt_of_cell? _ _ b0; have HM2 := Lib.hid hM2; have Hm2 := Lib.hid hm2; have HO8 := Lib.hid ho8; clear hM2 hm2 ho8 hg8) | fail)
  refine wp_region_still_tail 6 (by kernel_rfl) (by kernel_rfl) ?_
  simp only [List.take_succ_cons, List.take_zero, List.drop_succ_cons, List.drop_zero]
  repeat still_step
  refine wpStill_nil ?_
  go_wp2_with (at_builtin; refine app_full _ elemI32 rfl (.tmp 432) (.tmp 433) rfl sa M (i32s (s.st.drop 1).reverse) rfl (rd_left (HM2.out.drew) HSV.out HN.out HMe.out _) (.slice (some ⟨w2.heap.size, 0, none⟩) 2 2) 2 (i32s [x, x]) rfl (rd_new _ (i32s [x, x]) _ 2 1 (by simp [i32s]) (by simp [maxLen])) (one_i32s _) (by omega) (by simp only [maxLen]; omega) (by omega) ?_; intro v3 w3 ho3 hg3; obtain ⟨va, vc, rfl, _⟩ := owns_shape ho3; have hM3 := ((HM2.out.drew).alloc (.cells (i32s [x, x]).toArray 21)).grown hg3; have c2 := hM3.r2; have f2 := hM3.frozen 2; have c5 := hM3.r5; have f5 := hM3.frozen 5; have hq3 := hM3.lt; have HR := Lib.hid (rdo_end (o := [x, x]) (a := 1) (iv := iv) ((HM2.out.drew).alloc (.cells (i32s [x, x]).toArray 21)) ((Hm2.out.drewN 1).alloc (.cells (i32s [x, x]).toArray 21)) rfl (by rw [← HMe.out]; exact ho3) hg3 (by rw [← HN.out]; omega) (by intro z hz; simp at hz; rw [hz]; exact HXI.out) (by rw [← HMe.out]; simp; omega) (s.pc + 1) (by omega) (by omega)); clear hM3 ho3 hg3)
  go_ret
  refine ⟨rfl, ?_⟩
  have hr := HR.out
  have e : s.st.drop 1 = t := by rw [HST.out]; rfl
  rw [e] at hr
  exact hr
set_option maxHeartbeats 3200000 in
theorem rdo_4 (h : SM false w B q F cv mv iv sv kv ov s) (k : Int) (hk : I32 k) (hp0 : 0 ≤ s.pc) (hp1 : s.pc ≤ 1000000) {x y : Int} {t : List Int} (hst : s.st = y :: x :: t) :
    Calls Try.prog 43 #[.pointer (some ⟨q, 0, none⟩), codeV 4 k] w fun e w' => e = .returned (.bool true) ∧ FuQ false w B q F cv mv iv { s with st := x :: y :: t, pc := s.pc + 1 } w' := by
  obtain ⟨sa, sc, hsv, hnc, hcm, hnone⟩ := rd_shape h.ops.rd
  have HK := Lib.hid hk
  unfold I32 at hk
  obtain ⟨hk0, hk1⟩ := hk
  have HST := Lib.hid hst
  have hxi : I32 x := h.fit.st x (by rw [hst]; simp)
  have HXI := Lib.hid hxi
  unfold I32 at hxi
  obtain ⟨hxi0, hxi1⟩ := hxi
  have hyi : I32 y := h.fit.st y (by rw [hst]; simp)
  have HYI := Lib.hid hyi
  unfold I32 at hyi
  obtain ⟨hyi0, hyi1⟩ := hyi
  have H := Lib.hid h
  have hql := h.lt
  have c2 := h.r2
  have c5 := h.r5
  have hsl := h.fit.sl
  have E := Lib.hid (fun W => effect_any 4 ⟨by omega, by omega⟩ W)
  rw [show takesC 4 = 2 from rfl, show leavesC 4 = 2 from rfl] at E
  have hrd : Rd w 1 (.slice sa s.st.length sc) s.st.length (i32s s.st.reverse) := by have := h.ops.rd; rw [hsv] at this; exact this
  obtain ⟨N, hN⟩ : ∃ N, N = s.st.length := ⟨_, rfl⟩
  obtain ⟨M, hM⟩ : ∃ M, N = M + 2 := ⟨N - 2, by rw [hst] at hN; simp at hN; omega⟩
  rw [hsv] at c2
  have hMl : s.st.length - 2 = M := by omega
  rw [← hN] at c2 hsl hnc hrd hMl
  obtain ⟨D, hD⟩ : ∃ D : Option Addr, Option.map (fun x => x.add M) sa = D := ⟨_, rfl⟩
  have hx := rd_from hrd (lo := M) (by omega) (show (if sc = M then sa else Option.map (fun x => x.add M) sa) = D from by rw [if_neg (by omega)]; exact hD)
  have hMe : M = s.st.length - 2 := by omega
  have hxl : (i32s s.st.reverse).drop M = i32s (s.st.take 2).reverse := by rw [hMe]; exact take_rev _ _ (by omega)
  rw [hxl, show N - M = 2 by omega] at hx
  have HX := Lib.hid hx
  have HN := Lib.hid hN
  have HSV := Lib.hid hsv
  have HMe := Lib.hid hMe
  have eN : IntKind.i64.wrap ((N : Int) - 2) = M := by rw [show (N : Int) - 2 = M by omega]; exact IntWalk.i64_in _ (by omega)
  have eNM : N - M = 2 := by omega
  have g0 : decide ((N : Int) < 2) = false := by simp; omega
  have g0' : ¬ (N : Int) < 2 := by omega
  have g1 : ¬ (1000 : Int) < (M : Int) + 2 := by omega
  have g4 : decide ((1000 : Int) < (M : Int) + 2) = false := by simp; omega
  have m0 : (0 : Int) ≤ (M : Int) := by omega
  have m1 : (M : Int) ≤ (N : Int) := by omega
  have m2 : M ≤ N := by omega
  clear hst h hN hsv hx hxl hrd hMe hMl hM
  simp only [codeV]
  go_enter Try.func43, Try.ntmps43
  go_wp2_with fail
  refine (E.out _).mono ?_; rintro e w1 ⟨rfl, hw1⟩
  have hM1 : SM false w1 B q F cv mv iv sv kv ov s := by rw [← hw1]; exact H.out.alloc _
  have hm1 : Mv w F F w1 := by rw [← hw1]; exact (Mv.refl w F).alloc _
  have b0 : w1.cell? ⟨w.heap.size, 0, none⟩ = some (.int .i64 4) := by rw [← hw1]; exact World.cell?_alloc_new w _ _ _
  have b1 : w1.cell? ⟨w.heap.size, 1, none⟩ = some (.int .i32 k) := by rw [← hw1]; exact World.cell?_alloc_new w _ _ _
  have c2' : w1.cell? ⟨q, 2, none⟩ = some (.slice sa N sc) := by rw [← hw1]; exact alloc_keep c2
  have hx1 : Rd w1 1 (.slice D 2 (sc - M)) 2 (i32s (s.st.take 2).reverse) := HX.out.below (B := w.heap.size) (by rw [← hw1]; exact (Below.refl _ _).alloc (Nat.le_refl _) _) (Nat.le_refl _)
  have HX1 := Lib.hid hx1
  have HM1 := Lib.hid hM1
  have Hm1 := Lib.hid hm1
  have HB0 := Lib.hid b0
  have HB1 := Lib.hid b1
  have hl1 := World.block_lt_of_cell? w1 _ b0
  have hq1 := HM1.out.lt
  clear hw1 hM1 hm1 c2 c5 hx1
  go_wp2_with (first | (at_builtin; refine app_own _ elemI32 rfl (.const (.slice none 0 0)) (.tmp 46) rfl w1.heap.size (.slice none 0 0) 0 [] rfl (World.ownsRow_nil _ _ _ _) (.slice D 2 (sc - M)) 2 (i32s (s.st.take 2).reverse) rfl HX1.out (one_i32s _) (by simp [maxLen]) (by simp) (Nat.le_refl _) ?_; intro v8 w2 ho8 hg8; simp only [Nat.zero_add, List.nil_append] at ho8; obtain ⟨xg, xc, rfl, hxc, hxg, hcells⟩ := st_owned ho8 (by omega) (by rw [HST.out]; rfl); have hx0 : w2.cell? ⟨xg, 0, none⟩ = some (.int .i32 x) := (by have := hcells 0 (by omega); rw [HST.out] at this; simpa using this); have hx1 : w2.cell? ⟨xg, 1, none⟩ = some (.int .i32 y) := (by have := hcells 1 (by omega); rw [HST.out] at this; simpa using this); have hlx := World.block_lt_of_cell? _ _ hx0; clear hcells; have hM2 := HM1.out.grown hg8; have hm2 := Hm1.out.grown hg8; have b0 := hg8.cell HB0.out (by simp [Value.ownBlock]); have b1 := hg8.cell HB1.out (by simp [Value.ownBlock]); have c2 := hM2.r2; rw [HSV.out, ← HN.out] at c2; have c5 := hM2.r5; have f2 := hM2.frozen 2; have f5 := hM2.frozen 5; have hq2 := hM2.lt; have hl2 := World.block_lt_of_cell? _ _ b0; have HM2 := Lib.hid hM2; have Hm2 := Lib.hid hm2; have HO8 := Lib.hid ho8; clear hM2 hm2 ho8 hg8) | fail)
  refine wp_region_still_tail 6 (by kernel_rfl) (by kernel_rfl) ?_
  simp only [List.take_succ_cons, List.take_zero, List.drop_succ_cons, List.drop_zero]
  repeat still_step
  refine wpStill_nil ?_
  go_wp2_with (at_builtin; refine app_full _ elemI32 rfl (.tmp 432) (.tmp 433) rfl sa M (i32s (s.st.drop 2).reverse) rfl (rd_left (HM2.out.drew) HSV.out HN.out HMe.out _) (.slice (some ⟨w2.heap.size, 0, none⟩) 2 2) 2 (i32s [y, x]) rfl (rd_new _ (i32s [y, x]) _ 2 1 (by simp [i32s]) (by simp [maxLen])) (one_i32s _) (by omega) (by simp only [maxLen]; omega) (by omega) ?_; intro v3 w3 ho3 hg3; obtain ⟨va, vc, rfl, _⟩ := owns_shape ho3; have hM3 := ((HM2.out.drew).alloc (.cells (i32s [y, x]).toArray 21)).grown hg3; have c2 := hM3.r2; have f2 := hM3.frozen 2; have c5 := hM3.r5; have f5 := hM3.frozen 5; have hq3 := hM3.lt; have HR := Lib.hid (rdo_end (o := [y, x]) (a := 2) (iv := iv) ((HM2.out.drew).alloc (.cells (i32s [y, x]).toArray 21)) ((Hm2.out.drewN 1).alloc (.cells (i32s [y, x]).toArray 21)) rfl (by rw [← HMe.out]; exact ho3) hg3 (by rw [← HN.out]; omega) (by intro z hz; simp at hz; rcases hz with rfl | rfl; exact HYI.out; exact HXI.out) (by rw [← HMe.out]; simp; omega) (s.pc + 1) (by omega) (by omega)); clear hM3 ho3 hg3)
  go_ret
  refine ⟨rfl, ?_⟩
  have hr := HR.out
  have e : s.st.drop 2 = t := by rw [HST.out]; rfl
  rw [e] at hr
  exact hr
set_option maxHeartbeats 3200000 in
theorem rdo_two (h : SM false w B q F cv mv iv sv kv ov s) (k : Int) (hk : I32 k) (hp0 : 0 ≤ s.pc) (hp1 : s.pc ≤ 1000000) {op : Int} (ho : isTwo op) {x y : Int} {t : List Int} (hst : s.st = y :: x :: t) {z : Int} (hz : I32 z) (hC : ∀ W, Calls Try.prog 58 #[.int .i64 op, .int .i32 x, .int .i32 y] W fun e w2 => e = .returned (.tuple #[.int .i32 z, .bool true]) ∧ w2 = W) :
    Calls Try.prog 43 #[.pointer (some ⟨q, 0, none⟩), codeV op k] w fun e w' => e = .returned (.bool true) ∧ FuQ false w B q F cv mv iv { s with st := z :: t, pc := s.pc + 1 } w' := by
  obtain ⟨sa, sc, hsv, hnc, hcm, hnone⟩ := rd_shape h.ops.rd
  have HK := Lib.hid hk
  unfold I32 at hk
  obtain ⟨hk0, hk1⟩ := hk
  have HST := Lib.hid hst
  have hxi : I32 x := h.fit.st x (by rw [hst]; simp)
  have HXI := Lib.hid hxi
  unfold I32 at hxi
  obtain ⟨hxi0, hxi1⟩ := hxi
  have hyi : I32 y := h.fit.st y (by rw [hst]; simp)
  have HYI := Lib.hid hyi
  unfold I32 at hyi
  obtain ⟨hyi0, hyi1⟩ := hyi
  have H := Lib.hid h
  have hql := h.lt
  have c2 := h.r2
  have c5 := h.r5
  have hsl := h.fit.sl
  have E := Lib.hid (fun W => effect_any op (by unfold isTwo isSum at ho; omega) W)
  rw [show takesC op = 2 from by unfold isTwo isSum at ho; rcases ho with (rfl | rfl | rfl | rfl | rfl | rfl | rfl | rfl | rfl | rfl | rfl) | rfl | rfl | rfl <;> rfl, show leavesC op = 1 from by unfold isTwo isSum at ho; rcases ho with (rfl | rfl | rfl | rfl | rfl | rfl | rfl | rfl | rfl | rfl | rfl) | rfl | rfl | rfl <;> rfl] at E
  have hrd : Rd w 1 (.slice sa s.st.length sc) s.st.length (i32s s.st.reverse) := by have := h.ops.rd; rw [hsv] at this; exact this
  obtain ⟨N, hN⟩ : ∃ N, N = s.st.length := ⟨_, rfl⟩
  obtain ⟨M, hM⟩ : ∃ M, N = M + 2 := ⟨N - 2, by rw [hst] at hN; simp at hN; omega⟩
  rw [hsv] at c2
  have hMl : s.st.length - 2 = M := by omega
  rw [← hN] at c2 hsl hnc hrd hMl
  obtain ⟨D, hD⟩ : ∃ D : Option Addr, Option.map (fun x => x.add M) sa = D := ⟨_, rfl⟩
  have hx := rd_from hrd (lo := M) (by omega) (show (if sc = M then sa else Option.map (fun x => x.add M) sa) = D from by rw [if_neg (by omega)]; exact hD)
  have hMe : M = s.st.length - 2 := by omega
  have hxl : (i32s s.st.reverse).drop M = i32s (s.st.take 2).reverse := by rw [hMe]; exact take_rev _ _ (by omega)
  rw [hxl, show N - M = 2 by omega] at hx
  have HX := Lib.hid hx
  have HN := Lib.hid hN
  have HSV := Lib.hid hsv
  have HMe := Lib.hid hMe
  have eN : IntKind.i64.wrap ((N : Int) - 2) = M := by rw [show (N : Int) - 2 = M by omega]; exact IntWalk.i64_in _ (by omega)
  have eNM : N - M = 2 := by omega
  have g0 : decide ((N : Int) < 2) = false := by simp; omega
  have g0' : ¬ (N : Int) < 2 := by omega
  have g1 : ¬ (1000 : Int) < (M : Int) + 1 := by omega
  have g4 : decide ((1000 : Int) < (M : Int) + 1) = false := by simp; omega
  have m0 : (0 : Int) ≤ (M : Int) := by omega
  have m1 : (M : Int) ≤ (N : Int) := by omega
  have m2 : M ≤ N := by omega
  have t0 : (op == 0) = false := by unfold isTwo isSum at ho; simp; omega
  have t30 : (op == 30) = false := by unfold isTwo isSum at ho; simp; omega
  have t1 : (op == 1) = false := by unfold isTwo isSum at ho; simp; omega
  have t2 : (op == 2) = false := by unfold isTwo isSum at ho; simp; omega
  have t4 : (op == 4) = false := by unfold isTwo isSum at ho; simp; omega
  have t5 : (op == 5) = false := by unfold isTwo isSum at ho; simp; omega
  have t6 : (op == 6) = false := by unfold isTwo isSum at ho; simp; omega
  have t7 : (op == 7) = false := by unfold isTwo isSum at ho; simp; omega
  have t8 : (op == 8) = false := by unfold isTwo isSum at ho; simp; omega
  have t14 : (op == 14) = false := by unfold isTwo isSum at ho; simp; omega
  have t18 : (op == 18) = false := by unfold isTwo isSum at ho; simp; omega
  have t25 : (op == 25) = false := by unfold isTwo isSum at ho; simp; omega
  have t26 : (op == 26) = false := by unfold isTwo isSum at ho; simp; omega
  have t27 : (op == 27) = false := by unfold isTwo isSum at ho; simp; omega
  have t28 : (op == 28) = false := by unfold isTwo isSum at ho; simp; omega
  have t29 : (op == 29) = false := by unfold isTwo isSum at ho; simp; omega
  have t31 : (op == 31) = false := by unfold isTwo isSum at ho; simp; omega
  have t32 : (op == 32) = false := by unfold isTwo isSum at ho; simp; omega
  have t33 : (op == 33) = false := by unfold isTwo isSum at ho; simp; omega
  have t3 : (op == 3) = false := by unfold isTwo isSum at ho; simp; omega
  have HZ := Lib.hid hz
  have TW := Lib.hid hC
  clear hz hC ho hst h hN hsv hx hxl hrd hMe hMl hM
  simp only [codeV]
  go_enter Try.func43, Try.ntmps43
  go_wp2_with fail
  refine (E.out _).mono ?_; rintro e w1 ⟨rfl, hw1⟩
  have hM1 : SM false w1 B q F cv mv iv sv kv ov s := by rw [← hw1]; exact H.out.alloc _
  have hm1 : Mv w F F w1 := by rw [← hw1]; exact (Mv.refl w F).alloc _
  have b0 : w1.cell? ⟨w.heap.size, 0, none⟩ = some (.int .i64 op) := by rw [← hw1]; exact World.cell?_alloc_new w _ _ _
  have b1 : w1.cell? ⟨w.heap.size, 1, none⟩ = some (.int .i32 k) := by rw [← hw1]; exact World.cell?_alloc_new w _ _ _
  have c2' : w1.cell? ⟨q, 2, none⟩ = some (.slice sa N sc) := by rw [← hw1]; exact alloc_keep c2
  have hx1 : Rd w1 1 (.slice D 2 (sc - M)) 2 (i32s (s.st.take 2).reverse) := HX.out.below (B := w.heap.size) (by rw [← hw1]; exact (Below.refl _ _).alloc (Nat.le_refl _) _) (Nat.le_refl _)
  have HX1 := Lib.hid hx1
  have HM1 := Lib.hid hM1
  have Hm1 := Lib.hid hm1
  have HB0 := Lib.hid b0
  have HB1 := Lib.hid b1
  have hl1 := World.block_lt_of_cell? w1 _ b0
  have hq1 := HM1.out.lt
  clear hw1 hM1 hm1 c2 c5 hx1
  go_wp2_with (first | (at_builtin; refine app_own _ elemI32 rfl (.const (.slice none 0 0)) (.tmp 46) rfl w1.heap.size (.slice none 0 0) 0 [] rfl (World.ownsRow_nil _ _ _ _) (.slice D 2 (sc - M)) 2 (i32s (s.st.take 2).reverse) rfl HX1.out (one_i32s _) (by simp [maxLen]) (by simp) (Nat.le_refl _) ?_; intro v8 w2 ho8 hg8; simp only [Nat.zero_add, List.nil_append] at ho8; obtain ⟨xg, xc, rfl, hxc, hxg, hcells⟩ := st_owned ho8 (by omega) (by rw [HST.out]; rfl); have hx0 : w2.cell? ⟨xg, 0, none⟩ = some (.int .i32 x) := (by have := hcells 0 (by omega); rw [HST.out] at this; simpa using this); have hx1 : w2.cell? ⟨xg, 1, none⟩ = some (.int .i32 y) := (by have := hcells 1 (by omega); rw [HST.out] at this; simpa using this); have hlx := World.block_lt_of_cell? _ _ hx0; clear hcells; have hM2 := HM1.out.grown hg8; have hm2 := Hm1.out.grown hg8; have b0 := hg8.cell HB0.out (by simp [Value.ownBlock]); have b1 := hg8.cell HB1.out (by simp [Value.ownBlock]); have c2 := hM2.r2; rw [HSV.out, ← HN.out] at c2; have c5 := hM2.r5; have f2 := hM2.frozen 2; have f5 := hM2.frozen 5; have hq2 := hM2.lt; have hl2 := World.block_lt_of_cell? _ _ b0; have HM2 := Lib.hid hM2; have Hm2 := Lib.hid hm2; have HO8 := Lib.hid ho8; clear hM2 hm2 ho8 hg8) | fail)
  go_region_held3 (fun W => W.cell? ⟨w.heap.size, 0, none⟩ = some (.int .i64 op) ∧ W.cell? ⟨xg, 0, none⟩ = some (.int .i32 x) ∧ W.cell? ⟨xg, 1, none⟩ = some (.int .i32 y)) (first | (with_reducible exact ⟨e0, e1, e2⟩) | go_keep) ((go_at_call 58; refine (TW.out _).mono ?_; rintro e wt ⟨rfl, hwt⟩; have e0 : wt.cell? ⟨w.heap.size, 0, none⟩ = some (.int .i64 op) := (by rw [hwt]; exact b0); have e1 : wt.cell? ⟨xg, 0, none⟩ = some (.int .i32 x) := (by rw [hwt]; exact hx0); have e2 : wt.cell? ⟨xg, 1, none⟩ = some (.int .i32 y) := (by rw [hwt]; exact hx1); have HMT := Lib.hid (show SM false wt B q F cv mv iv sv kv ov s from by rw [hwt]; exact HM2.out.drew); have HmT := Lib.hid (show Mv w F F wt from by rw [hwt]; exact Hm2.out.drewN 1); have c2 := HMT.out.r2; rw [HSV.out, ← HN.out] at c2; have c5 := HMT.out.r5; have f2 := HMT.out.frozen 2; have f5 := HMT.out.frozen 5; have hqt := HMT.out.lt; clear hwt))
  go_wp2_with (at_builtin; refine app_full _ elemI32 rfl (.tmp 432) (.tmp 433) rfl sa M (i32s (s.st.drop 2).reverse) rfl (rd_left (HMT.out) HSV.out HN.out HMe.out _) (.slice (some ⟨wt.heap.size, 0, none⟩) 1 1) 1 (i32s [z]) rfl (rd_new _ (i32s [z]) _ 1 1 (by simp [i32s]) (by simp [maxLen])) (one_i32s _) (by omega) (by simp only [maxLen]; omega) (by omega) ?_; intro v3 w3 ho3 hg3; obtain ⟨va, vc, rfl, _⟩ := owns_shape ho3; have hM3 := ((HMT.out).alloc (.cells (i32s [z]).toArray 21)).grown hg3; have c2 := hM3.r2; have f2 := hM3.frozen 2; have c5 := hM3.r5; have f5 := hM3.frozen 5; have hq3 := hM3.lt; have HR := Lib.hid (rdo_end (o := [z]) (a := 2) (iv := iv) ((HMT.out).alloc (.cells (i32s [z]).toArray 21)) ((HmT.out).alloc (.cells (i32s [z]).toArray 21)) rfl (by rw [← HMe.out]; exact ho3) hg3 (by rw [← HN.out]; omega) (by intro u hu; rw [List.mem_singleton.1 hu]; exact HZ.out) (by rw [← HMe.out]; simp; omega) (s.pc + 1) (by omega) (by omega)); clear hM3 ho3 hg3)
  go_ret
  refine ⟨rfl, ?_⟩
  have hr := HR.out
  have e : s.st.drop 2 = t := by rw [HST.out]; rfl
  rw [e] at hr
  exact hr
set_option maxHeartbeats 3200000 in
theorem rdo_twono (h : SM false w B q F cv mv iv sv kv ov s) (k : Int) (hk : I32 k) (hp0 : 0 ≤ s.pc) (hp1 : s.pc ≤ 1000000) {op : Int} (ho : isTwo op) {x y : Int} {t : List Int} (hst : s.st = y :: x :: t) (hC : ∀ W, Calls Try.prog 58 #[.int .i64 op, .int .i32 x, .int .i32 y] W fun e w2 => e = .returned (.tuple #[.int .i32 0, .bool false]) ∧ w2 = W) :
    Calls Try.prog 43 #[.pointer (some ⟨q, 0, none⟩), codeV op k] w fun e w' => e = .returned (.bool false) ∧ FuQ false w B q F cv mv iv s w' := by
  obtain ⟨sa, sc, hsv, hnc, hcm, hnone⟩ := rd_shape h.ops.rd
  have HK := Lib.hid hk
  unfold I32 at hk
  obtain ⟨hk0, hk1⟩ := hk
  have HST := Lib.hid hst
  have hxi : I32 x := h.fit.st x (by rw [hst]; simp)
  have HXI := Lib.hid hxi
  unfold I32 at hxi
  obtain ⟨hxi0, hxi1⟩ := hxi
  have hyi : I32 y := h.fit.st y (by rw [hst]; simp)
  have HYI := Lib.hid hyi
  unfold I32 at hyi
  obtain ⟨hyi0, hyi1⟩ := hyi
  have H := Lib.hid h
  have hql := h.lt
  have c2 := h.r2
  have c5 := h.r5
  have hsl := h.fit.sl
  have E := Lib.hid (fun W => effect_any op (by unfold isTwo isSum at ho; omega) W)
  rw [show takesC op = 2 from by unfold isTwo isSum at ho; rcases ho with (rfl | rfl | rfl | rfl | rfl | rfl | rfl | rfl | rfl | rfl | rfl) | rfl | rfl | rfl <;> rfl, show leavesC op = 1 from by unfold isTwo isSum at ho; rcases ho with (rfl | rfl | rfl | rfl | rfl | rfl | rfl | rfl | rfl | rfl | rfl) | rfl | rfl | rfl <;> rfl] at E
  have hrd : Rd w 1 (.slice sa s.st.length sc) s.st.length (i32s s.st.reverse) := by have := h.ops.rd; rw [hsv] at this; exact this
  obtain ⟨N, hN⟩ : ∃ N, N = s.st.length := ⟨_, rfl⟩
  obtain ⟨M, hM⟩ : ∃ M, N = M + 2 := ⟨N - 2, by rw [hst] at hN; simp at hN; omega⟩
  rw [hsv] at c2
  have hMl : s.st.length - 2 = M := by omega
  rw [← hN] at c2 hsl hnc hrd hMl
  obtain ⟨D, hD⟩ : ∃ D : Option Addr, Option.map (fun x => x.add M) sa = D := ⟨_, rfl⟩
  have hx := rd_from hrd (lo := M) (by omega) (show (if sc = M then sa else Option.map (fun x => x.add M) sa) = D from by rw [if_neg (by omega)]; exact hD)
  have hMe : M = s.st.length - 2 := by omega
  have hxl : (i32s s.st.reverse).drop M = i32s (s.st.take 2).reverse := by rw [hMe]; exact take_rev _ _ (by omega)
  rw [hxl, show N - M = 2 by omega] at hx
  have HX := Lib.hid hx
  have HN := Lib.hid hN
  have HSV := Lib.hid hsv
  have HMe := Lib.hid hMe
  have eN : IntKind.i64.wrap ((N : Int) - 2) = M := by rw [show (N : Int) - 2 = M by omega]; exact IntWalk.i64_in _ (by omega)
  have eNM : N - M = 2 := by omega
  have g0 : decide ((N : Int) < 2) = false := by simp; omega
  have g0' : ¬ (N : Int) < 2 := by omega
  have g1 : ¬ (1000 : Int) < (M : Int) + 1 := by omega
  have g4 : decide ((1000 : Int) < (M : Int) + 1) = false := by simp; omega
  have m0 : (0 : Int) ≤ (M : Int) := by omega
  have m1 : (M : Int) ≤ (N : Int) := by omega
  have m2 : M ≤ N := by omega
  have t0 : (op == 0) = false := by unfold isTwo isSum at ho; simp; omega
  have t30 : (op == 30) = false := by unfold isTwo isSum at ho; simp; omega
  have t1 : (op == 1) = false := by unfold isTwo isSum at ho; simp; omega
  have t2 : (op == 2) = false := by unfold isTwo isSum at ho; simp; omega
  have t4 : (op == 4) = false := by unfold isTwo isSum at ho; simp; omega
  have t5 : (op == 5) = false := by unfold isTwo isSum at ho; simp; omega
  have t6 : (op == 6) = false := by unfold isTwo isSum at ho; simp; omega
  have t7 : (op == 7) = false := by unfold isTwo isSum at ho; simp; omega
  have t8 : (op == 8) = false := by unfold isTwo isSum at ho; simp; omega
  have t14 : (op == 14) = false := by unfold isTwo isSum at ho; simp; omega
  have t18 : (op == 18) = false := by unfold isTwo isSum at ho; simp; omega
  have t25 : (op == 25) = false := by unfold isTwo isSum at ho; simp; omega
  have t26 : (op == 26) = false := by unfold isTwo isSum at ho; simp; omega
  have t27 : (op == 27) = false := by unfold isTwo isSum at ho; simp; omega
  have t28 : (op == 28) = false := by unfold isTwo isSum at ho; simp; omega
  have t29 : (op == 29) = false := by unfold isTwo isSum at ho; simp; omega
  have t31 : (op == 31) = false := by unfold isTwo isSum at ho; simp; omega
  have t32 : (op == 32) = false := by unfold isTwo isSum at ho; simp; omega
  have t33 : (op == 33) = false := by unfold isTwo isSum at ho; simp; omega
  have t3 : (op == 3) = false := by unfold isTwo isSum at ho; simp; omega
  have TW := Lib.hid hC
  clear hC ho hst h hN hsv hx hxl hrd hMe hMl hM
  simp only [codeV]
  go_enter Try.func43, Try.ntmps43
  go_wp2_with fail
  refine (E.out _).mono ?_; rintro e w1 ⟨rfl, hw1⟩
  have hM1 : SM false w1 B q F cv mv iv sv kv ov s := by rw [← hw1]; exact H.out.alloc _
  have hm1 : Mv w F F w1 := by rw [← hw1]; exact (Mv.refl w F).alloc _
  have b0 : w1.cell? ⟨w.heap.size, 0, none⟩ = some (.int .i64 op) := by rw [← hw1]; exact World.cell?_alloc_new w _ _ _
  have b1 : w1.cell? ⟨w.heap.size, 1, none⟩ = some (.int .i32 k) := by rw [← hw1]; exact World.cell?_alloc_new w _ _ _
  have c2' : w1.cell? ⟨q, 2, none⟩ = some (.slice sa N sc) := by rw [← hw1]; exact alloc_keep c2
  have hx1 : Rd w1 1 (.slice D 2 (sc - M)) 2 (i32s (s.st.take 2).reverse) := HX.out.below (B := w.heap.size) (by rw [← hw1]; exact (Below.refl _ _).alloc (Nat.le_refl _) _) (Nat.le_refl _)
  have HX1 := Lib.hid hx1
  have HM1 := Lib.hid hM1
  have Hm1 := Lib.hid hm1
  have HB0 := Lib.hid b0
  have HB1 := Lib.hid b1
  have hl1 := World.block_lt_of_cell? w1 _ b0
  have hq1 := HM1.out.lt
  clear hw1 hM1 hm1 c2 c5 hx1
  go_wp2_with (first | (at_builtin; refine app_own _ elemI32 rfl (.const (.slice none 0 0)) (.tmp 46) rfl w1.heap.size (.slice none 0 0) 0 [] rfl (World.ownsRow_nil _ _ _ _) (.slice D 2 (sc - M)) 2 (i32s (s.st.take 2).reverse) rfl HX1.out (one_i32s _) (by simp [maxLen]) (by simp) (Nat.le_refl _) ?_; intro v8 w2 ho8 hg8; simp only [Nat.zero_add, List.nil_append] at ho8; obtain ⟨xg, xc, rfl, hxc, hxg, hcells⟩ := st_owned ho8 (by omega) (by rw [HST.out]; rfl); have hx0 : w2.cell? ⟨xg, 0, none⟩ = some (.int .i32 x) := (by have := hcells 0 (by omega); rw [HST.out] at this; simpa using this); have hx1 : w2.cell? ⟨xg, 1, none⟩ = some (.int .i32 y) := (by have := hcells 1 (by omega); rw [HST.out] at this; simpa using this); have hlx := World.block_lt_of_cell? _ _ hx0; clear hcells; have hM2 := HM1.out.grown hg8; have hm2 := Hm1.out.grown hg8; have b0 := hg8.cell HB0.out (by simp [Value.ownBlock]); have b1 := hg8.cell HB1.out (by simp [Value.ownBlock]); have c2 := hM2.r2; rw [HSV.out, ← HN.out] at c2; have c5 := hM2.r5; have f2 := hM2.frozen 2; have f5 := hM2.frozen 5; have hq2 := hM2.lt; have hl2 := World.block_lt_of_cell? _ _ b0; have HM2 := Lib.hid hM2; have Hm2 := Lib.hid hm2; have HO8 := Lib.hid ho8; clear hM2 hm2 ho8 hg8) | fail)
  go_region_held3 (fun W => W.cell? ⟨w.heap.size, 0, none⟩ = some (.int .i64 op) ∧ W.cell? ⟨xg, 0, none⟩ = some (.int .i32 x) ∧ W.cell? ⟨xg, 1, none⟩ = some (.int .i32 y)) (first | (with_reducible exact ⟨e0, e1, e2⟩) | go_keep) ((go_at_call 58; refine (TW.out _).mono ?_; rintro e wt ⟨rfl, hwt⟩; have e0 : wt.cell? ⟨w.heap.size, 0, none⟩ = some (.int .i64 op) := (by rw [hwt]; exact b0); have e1 : wt.cell? ⟨xg, 0, none⟩ = some (.int .i32 x) := (by rw [hwt]; exact hx0); have e2 : wt.cell? ⟨xg, 1, none⟩ = some (.int .i32 y) := (by rw [hwt]; exact hx1); have HR := Lib.hid (show FuQ false w B q F cv mv iv s wt from by rw [hwt]; exact HM2.out.drew.fuq (Hm2.out.drewN 1)); clear hwt))
  go_wp2_with fail
  go_ret
  exact ⟨rfl, HR.out⟩
set_option maxHeartbeats 3200000 in
theorem rdo_0 (h : SM false w B q F cv mv iv sv kv ov s) (k : Int) (hk : I32 k) (hp0 : 0 ≤ s.pc) (hp1 : s.pc ≤ 1000000) :
    Calls Try.prog 43 #[.pointer (some ⟨q, 0, none⟩), codeV 0 k] w fun e w' => e = .returned (.bool true) ∧ FuQ false w B q F cv mv iv { s with fin := 1 } w' := by
  obtain ⟨sa, sc, hsv, hnc, hcm, hnone⟩ := rd_shape h.ops.rd
  have HK := Lib.hid hk
  unfold I32 at hk
  obtain ⟨hk0, hk1⟩ := hk
  have H := Lib.hid h
  have hql := h.lt
  have c2 := h.r2
  have c5 := h.r5
  have hsl := h.fit.sl
  have E := Lib.hid (fun W => effect_any 0 ⟨by omega, by omega⟩ W)
  rw [show takesC 0 = 0 from rfl, show leavesC 0 = 0 from rfl] at E
  have hrd : Rd w 1 (.slice sa s.st.length sc) s.st.length (i32s s.st.reverse) := by have := h.ops.rd; rw [hsv] at this; exact this
  obtain ⟨N, hN⟩ : ∃ N, N = s.st.length := ⟨_, rfl⟩
  obtain ⟨M, hM⟩ : ∃ M, N = M + 0 := ⟨N - 0, by skip; omega⟩
  rw [hsv] at c2
  have hMl : s.st.length - 0 = M := by omega
  have hNM : N = M := by omega
  subst hNM
  rw [← hN] at c2 hsl hnc hrd hMl
  obtain ⟨D, hD⟩ : ∃ D : Option Addr, (if sc = N then sa else Option.map (fun x => x.add N) sa) = D := ⟨_, rfl⟩
  have hx := rd_from hrd (lo := N) (by omega) hD
  have hMe : N = s.st.length - 0 := by omega
  have hxl : (i32s s.st.reverse).drop N = i32s (s.st.take 0).reverse := by rw [hMe]; exact take_rev _ _ (by omega)
  rw [hxl, show N - N = 0 by omega] at hx
  have HX := Lib.hid hx
  have HN := Lib.hid hN
  have HSV := Lib.hid hsv
  have HMe := Lib.hid hMe
  have g0 : decide ((N : Int) < 0) = false := by simp
  have g1 : ¬ (1000 : Int) < (N : Int) := by omega
  have g4 : decide ((1000 : Int) < (N : Int)) = false := by simp; omega
  have m0 : (0 : Int) ≤ (N : Int) := by omega
  have m1 : (N : Int) ≤ (N : Int) := by omega
  have m2 : N ≤ N := by omega
  clear h hN hsv hx hxl hrd hMe hMl hM
  simp only [codeV]
  go_enter Try.func43, Try.ntmps43
  go_wp2_with fail
  refine (E.out _).mono ?_; rintro e w1 ⟨rfl, hw1⟩
  have hM1 : SM false w1 B q F cv mv iv sv kv ov s := by rw [← hw1]; exact H.out.alloc _
  have hm1 : Mv w F F w1 := by rw [← hw1]; exact (Mv.refl w F).alloc _
  have b0 : w1.cell? ⟨w.heap.size, 0, none⟩ = some (.int .i64 0) := by rw [← hw1]; exact World.cell?_alloc_new w _ _ _
  have b1 : w1.cell? ⟨w.heap.size, 1, none⟩ = some (.int .i32 k) := by rw [← hw1]; exact World.cell?_alloc_new w _ _ _
  have c2' : w1.cell? ⟨q, 2, none⟩ = some (.slice sa N sc) := by rw [← hw1]; exact alloc_keep c2
  have hx1 : Rd w1 1 (.slice D 0 (sc - N)) 0 (i32s (s.st.take 0).reverse) := HX.out.below (B := w.heap.size) (by rw [← hw1]; exact (Below.refl _ _).alloc (Nat.le_refl _) _) (Nat.le_refl _)
  have HX1 := Lib.hid hx1
  have HM1 := Lib.hid hM1
  have Hm1 := Lib.hid hm1
  have HB0 := Lib.hid b0
  have HB1 := Lib.hid b1
  have hl1 := World.block_lt_of_cell? w1 _ b0
  have hq1 := HM1.out.lt
  clear hw1 hM1 hm1 c2 c5 hx1
  go_wp2_with (first | (at_builtin; refine app_own _ elemI32 rfl (.const (.slice none 0 0)) (.tmp 46) rfl w1.heap.size (.slice none 0 0) 0 [] rfl (World.ownsRow_nil _ _ _ _) (.slice D 0 (sc - N)) 0 (i32s (s.st.take 0).reverse) rfl HX1.out (one_i32s _) (by simp [maxLen]) (by simp) (Nat.le_refl _) ?_; intro v8 w2 ho8 hg8; simp only [Nat.zero_add, List.nil_append] at ho8; obtain ⟨xa, xc, rfl, _⟩ := owns_shape ho8; have hM2 := HM1.out.grown hg8; have hm2 := Hm1.out.grown hg8; have b0 := hg8.cell HB0.out (by simp [Value.ownBlock]); have b1 := hg8.cell HB1.out (by simp [Value.ownBlock]); have c2 := hM2.r2; rw [HSV.out, ← HN.out] at c2; have c5 := hM2.r5; have f2 := hM2.frozen 2; have f5 := hM2.frozen 5; have hq2 := hM2.lt; have hl2 := World.block_lt_of_cell? _ _ b0; have c9 := hM2.r9; have f9 := hM2.frozen 9; have c10 := hM2.r10; have f10 := hM2.frozen 10; have HM2 := Lib.hid hM2; have Hm2 := Lib.hid hm2; have HO8 := Lib.hid ho8; clear hM2 hm2 ho8 hg8) | fail)
  go_ret
  exact ⟨rfl, _, _, _, _, _, HM2.out.rputFin 1, rfl, Hm2.out.set HM2.out.fq 9 _⟩
set_option maxHeartbeats 3200000 in
theorem rdo_30 (h : SM false w B q F cv mv iv sv kv ov s) (k : Int) (hk : I32 k) (hp0 : 0 ≤ s.pc) (hp1 : s.pc ≤ 1000000) (hr1 : 1 ≤ k) (hr2 : k ≤ 15) :
    Calls Try.prog 43 #[.pointer (some ⟨q, 0, none⟩), codeV 30 k] w fun e w' => e = .returned (.bool true) ∧ FuQ false w B q F cv mv iv { s with fin := 2, trap := k } w' := by
  obtain ⟨sa, sc, hsv, hnc, hcm, hnone⟩ := rd_shape h.ops.rd
  have HK := Lib.hid hk
  unfold I32 at hk
  obtain ⟨hk0, hk1⟩ := hk
  have H := Lib.hid h
  have hql := h.lt
  have c2 := h.r2
  have c5 := h.r5
  have hsl := h.fit.sl
  have E := Lib.hid (fun W => effect_any 30 ⟨by omega, by omega⟩ W)
  rw [show takesC 30 = 0 from rfl, show leavesC 30 = 0 from rfl] at E
  have hrd : Rd w 1 (.slice sa s.st.length sc) s.st.length (i32s s.st.reverse) := by have := h.ops.rd; rw [hsv] at this; exact this
  obtain ⟨N, hN⟩ : ∃ N, N = s.st.length := ⟨_, rfl⟩
  obtain ⟨M, hM⟩ : ∃ M, N = M + 0 := ⟨N - 0, by skip; omega⟩
  rw [hsv] at c2
  have hMl : s.st.length - 0 = M := by omega
  have hNM : N = M := by omega
  subst hNM
  rw [← hN] at c2 hsl hnc hrd hMl
  obtain ⟨D, hD⟩ : ∃ D : Option Addr, (if sc = N then sa else Option.map (fun x => x.add N) sa) = D := ⟨_, rfl⟩
  have hx := rd_from hrd (lo := N) (by omega) hD
  have hMe : N = s.st.length - 0 := by omega
  have hxl : (i32s s.st.reverse).drop N = i32s (s.st.take 0).reverse := by rw [hMe]; exact take_rev _ _ (by omega)
  rw [hxl, show N - N = 0 by omega] at hx
  have HX := Lib.hid hx
  have HN := Lib.hid hN
  have HSV := Lib.hid hsv
  have HMe := Lib.hid hMe
  have g0 : decide ((N : Int) < 0) = false := by simp
  have g1 : ¬ (1000 : Int) < (N : Int) := by omega
  have g4 : decide ((1000 : Int) < (N : Int)) = false := by simp; omega
  have m0 : (0 : Int) ≤ (N : Int) := by omega
  have m1 : (N : Int) ≤ (N : Int) := by omega
  have m2 : N ≤ N := by omega
  clear h hN hsv hx hxl hrd hMe hMl hM
  have hr3 : decide (k < 1) = false := by simp; omega
  have hr4 : decide (15 < k) = false := by simp; omega
  simp only [codeV]
  go_enter Try.func43, Try.ntmps43
  go_wp2_with fail
  refine (E.out _).mono ?_; rintro e w1 ⟨rfl, hw1⟩
  have hM1 : SM false w1 B q F cv mv iv sv kv ov s := by rw [← hw1]; exact H.out.alloc _
  have hm1 : Mv w F F w1 := by rw [← hw1]; exact (Mv.refl w F).alloc _
  have b0 : w1.cell? ⟨w.heap.size, 0, none⟩ = some (.int .i64 30) := by rw [← hw1]; exact World.cell?_alloc_new w _ _ _
  have b1 : w1.cell? ⟨w.heap.size, 1, none⟩ = some (.int .i32 k) := by rw [← hw1]; exact World.cell?_alloc_new w _ _ _
  have c2' : w1.cell? ⟨q, 2, none⟩ = some (.slice sa N sc) := by rw [← hw1]; exact alloc_keep c2
  have hx1 : Rd w1 1 (.slice D 0 (sc - N)) 0 (i32s (s.st.take 0).reverse) := HX.out.below (B := w.heap.size) (by rw [← hw1]; exact (Below.refl _ _).alloc (Nat.le_refl _) _) (Nat.le_refl _)
  have HX1 := Lib.hid hx1
  have HM1 := Lib.hid hM1
  have Hm1 := Lib.hid hm1
  have HB0 := Lib.hid b0
  have HB1 := Lib.hid b1
  have hl1 := World.block_lt_of_cell? w1 _ b0
  have hq1 := HM1.out.lt
  clear hw1 hM1 hm1 c2 c5 hx1
  go_wp2_with (first | (at_builtin; refine app_own _ elemI32 rfl (.const (.slice none 0 0)) (.tmp 46) rfl w1.heap.size (.slice none 0 0) 0 [] rfl (World.ownsRow_nil _ _ _ _) (.slice D 0 (sc - N)) 0 (i32s (s.st.take 0).reverse) rfl HX1.out (one_i32s _) (by simp [maxLen]) (by simp) (Nat.le_refl _) ?_; intro v8 w2 ho8 hg8; simp only [Nat.zero_add, List.nil_append] at ho8; obtain ⟨xa, xc, rfl, _⟩ := owns_shape ho8; have hM2 := HM1.out.grown hg8; have hm2 := Hm1.out.grown hg8; have b0 := hg8.cell HB0.out (by simp [Value.ownBlock]); have b1 := hg8.cell HB1.out (by simp [Value.ownBlock]); have c2 := hM2.r2; rw [HSV.out, ← HN.out] at c2; have c5 := hM2.r5; have f2 := hM2.frozen 2; have f5 := hM2.frozen 5; have hq2 := hM2.lt; have hl2 := World.block_lt_of_cell? _ _ b0; have c9 := hM2.r9; have f9 := hM2.frozen 9; have c10 := hM2.r10; have f10 := hM2.frozen 10; have HM2 := Lib.hid hM2; have Hm2 := Lib.hid hm2; have HO8 := Lib.hid ho8; clear hM2 hm2 ho8 hg8) | fail)
  go_ret
  exact ⟨rfl, _, _, _, _, _, (HM2.out.rputFin 2).rputTrap k, rfl, (Hm2.out.set HM2.out.fq 9 _).set HM2.out.fq 10 _⟩
set_option maxHeartbeats 3200000 in
theorem rdo_30a (h : SM false w B q F cv mv iv sv kv ov s) (k : Int) (hk : I32 k) (hp0 : 0 ≤ s.pc) (hp1 : s.pc ≤ 1000000) (hr1 : k < 1) :
    Calls Try.prog 43 #[.pointer (some ⟨q, 0, none⟩), codeV 30 k] w fun e w' => e = .returned (.bool false) ∧ FuQ false w B q F cv mv iv s w' := by
  obtain ⟨sa, sc, hsv, hnc, hcm, hnone⟩ := rd_shape h.ops.rd
  have HK := Lib.hid hk
  unfold I32 at hk
  obtain ⟨hk0, hk1⟩ := hk
  have H := Lib.hid h
  have hql := h.lt
  have c2 := h.r2
  have c5 := h.r5
  have hsl := h.fit.sl
  have E := Lib.hid (fun W => effect_any 30 ⟨by omega, by omega⟩ W)
  rw [show takesC 30 = 0 from rfl, show leavesC 30 = 0 from rfl] at E
  have hrd : Rd w 1 (.slice sa s.st.length sc) s.st.length (i32s s.st.reverse) := by have := h.ops.rd; rw [hsv] at this; exact this
  obtain ⟨N, hN⟩ : ∃ N, N = s.st.length := ⟨_, rfl⟩
  obtain ⟨M, hM⟩ : ∃ M, N = M + 0 := ⟨N - 0, by skip; omega⟩
  rw [hsv] at c2
  have hMl : s.st.length - 0 = M := by omega
  have hNM : N = M := by omega
  subst hNM
  rw [← hN] at c2 hsl hnc hrd hMl
  obtain ⟨D, hD⟩ : ∃ D : Option Addr, (if sc = N then sa else Option.map (fun x => x.add N) sa) = D := ⟨_, rfl⟩
  have hx := rd_from hrd (lo := N) (by omega) hD
  have hMe : N = s.st.length - 0 := by omega
  have hxl : (i32s s.st.reverse).drop N = i32s (s.st.take 0).reverse := by rw [hMe]; exact take_rev _ _ (by omega)
  rw [hxl, show N - N = 0 by omega] at hx
  have HX := Lib.hid hx
  have HN := Lib.hid hN
  have HSV := Lib.hid hsv
  have HMe := Lib.hid hMe
  have g0 : decide ((N : Int) < 0) = false := by simp
  have g1 : ¬ (1000 : Int) < (N : Int) := by omega
  have g4 : decide ((1000 : Int) < (N : Int)) = false := by simp; omega
  have m0 : (0 : Int) ≤ (N : Int) := by omega
  have m1 : (N : Int) ≤ (N : Int) := by omega
  have m2 : N ≤ N := by omega
  clear h hN hsv hx hxl hrd hMe hMl hM
  simp only [codeV]
  go_enter Try.func43, Try.ntmps43
  go_wp2_with fail
  refine (E.out _).mono ?_; rintro e w1 ⟨rfl, hw1⟩
  have hM1 : SM false w1 B q F cv mv iv sv kv ov s := by rw [← hw1]; exact H.out.alloc _
  have hm1 : Mv w F F w1 := by rw [← hw1]; exact (Mv.refl w F).alloc _
  have b0 : w1.cell? ⟨w.heap.size, 0, none⟩ = some (.int .i64 30) := by rw [← hw1]; exact World.cell?_alloc_new w _ _ _
  have b1 : w1.cell? ⟨w.heap.size, 1, none⟩ = some (.int .i32 k) := by rw [← hw1]; exact World.cell?_alloc_new w _ _ _
  have c2' : w1.cell? ⟨q, 2, none⟩ = some (.slice sa N sc) := by rw [← hw1]; exact alloc_keep c2
  have hx1 : Rd w1 1 (.slice D 0 (sc - N)) 0 (i32s (s.st.take 0).reverse) := HX.out.below (B := w.heap.size) (by rw [← hw1]; exact (Below.refl _ _).alloc (Nat.le_refl _) _) (Nat.le_refl _)
  have HX1 := Lib.hid hx1
  have HM1 := Lib.hid hM1
  have Hm1 := Lib.hid hm1
  have HB0 := Lib.hid b0
  have HB1 := Lib.hid b1
  have hl1 := World.block_lt_of_cell? w1 _ b0
  have hq1 := HM1.out.lt
  clear hw1 hM1 hm1 c2 c5 hx1
  go_wp2_with (first | (at_builtin; refine app_own _ elemI32 rfl (.const (.slice none 0 0)) (.tmp 46) rfl w1.heap.size (.slice none 0 0) 0 [] rfl (World.ownsRow_nil _ _ _ _) (.slice D 0 (sc - N)) 0 (i32s (s.st.take 0).reverse) rfl HX1.out (one_i32s _) (by simp [maxLen]) (by simp) (Nat.le_refl _) ?_; intro v8 w2 ho8 hg8; simp only [Nat.zero_add, List.nil_append] at ho8; obtain ⟨xa, xc, rfl, _⟩ := owns_shape ho8; have hM2 := HM1.out.grown hg8; have hm2 := Hm1.out.grown hg8; have b0 := hg8.cell HB0.out (by simp [Value.ownBlock]); have b1 := hg8.cell HB1.out (by simp [Value.ownBlock]); have c2 := hM2.r2; rw [HSV.out, ← HN.out] at c2; have c5 := hM2.r5; have f2 := hM2.frozen 2; have f5 := hM2.frozen 5; have hq2 := hM2.lt; have hl2 := World.block_lt_of_cell? _ _ b0; have HM2 := Lib.hid hM2; have Hm2 := Lib.hid hm2; have HO8 := Lib.hid ho8; clear hM2 hm2 ho8 hg8) | fail)
  go_ret
  exact ⟨rfl, HM2.out.fuq Hm2.out⟩
end
end Go.Proofs.Ytgkdphnhfjjepaa

/- The reference's do, operation by operation (printed by gen_stk31.py). -/
namespace Go.Proofs.Ytgkdphnhfjjepaa
open Go.RowKit Go.Waf
set_option maxRecDepth 100000
set_option linter.unusedVariables false
set_option linter.unusedSimpArgs false

section
variable {w : World} {B q : Nat} {F : Nat → Prop} {cv mv iv sv kv ov : Value} {s : SSt}
set_option maxHeartbeats 3200000 in
theorem rdo_30b (h : SM false w B q F cv mv iv sv kv ov s) (k : Int) (hk : I32 k) (hp0 : 0 ≤ s.pc) (hp1 : s.pc ≤ 1000000) (hr1 : 15 < k) :
    Calls Try.prog 43 #[.pointer (some ⟨q, 0, none⟩), codeV 30 k] w fun e w' => e = .returned (.bool false) ∧ FuQ false w B q F cv mv iv s w' := by
  obtain ⟨sa, sc, hsv, hnc, hcm, hnone⟩ := rd_shape h.ops.rd
  have HK := Lib.hid hk
  unfold I32 at hk
  obtain ⟨hk0, hk1⟩ := hk
  have H := Lib.hid h
  have hql := h.lt
  have c2 := h.r2
  have c5 := h.r5
  have hsl := h.fit.sl
  have E := Lib.hid (fun W => effect_any 30 ⟨by omega, by omega⟩ W)
  rw [show takesC 30 = 0 from rfl, show leavesC 30 = 0 from rfl] at E
  have hrd : Rd w 1 (.slice sa s.st.length sc) s.st.length (i32s s.st.reverse) := by have := h.ops.rd; rw [hsv] at this; exact this
  obtain ⟨N, hN⟩ : ∃ N, N = s.st.length := ⟨_, rfl⟩
  obtain ⟨M, hM⟩ : ∃ M, N = M + 0 := ⟨N - 0, by skip; omega⟩
  rw [hsv] at c2
  have hMl : s.st.length - 0 = M := by omega
  have hNM : N = M := by omega
  subst hNM
  rw [← hN] at c2 hsl hnc hrd hMl
  obtain ⟨D, hD⟩ : ∃ D : Option Addr, (if sc = N then sa else Option.map (fun x => x.add N) sa) = D := ⟨_, rfl⟩
  have hx := rd_from hrd (lo := N) (by omega) hD
  have hMe : N = s.st.length - 0 := by omega
  have hxl : (i32s s.st.reverse).drop N = i32s (s.st.take 0).reverse := by rw [hMe]; exact take_rev _ _ (by omega)
  rw [hxl, show N - N = 0 by omega] at hx
  have HX := Lib.hid hx
  have HN := Lib.hid hN
  have HSV := Lib.hid hsv
  have HMe := Lib.hid hMe
  have g0 : decide ((N : Int) < 0) = false := by simp
  have g1 : ¬ (1000 : Int) < (N : Int) := by omega
  have g4 : decide ((1000 : Int) < (N : Int)) = false := by simp; omega
  have m0 : (0 : Int) ≤ (N : Int) := by omega
  have m1 : (N : Int) ≤ (N : Int) := by omega
  have m2 : N ≤ N := by omega
  clear h hN hsv hx hxl hrd hMe hMl hM
  have hr3 : decide (k < 1) = false := by simp; omega
  simp only [codeV]
  go_enter Try.func43, Try.ntmps43
  go_wp2_with fail
  refine (E.out _).mono ?_; rintro e w1 ⟨rfl, hw1⟩
  have hM1 : SM false w1 B q F cv mv iv sv kv ov s := by rw [← hw1]; exact H.out.alloc _
  have hm1 : Mv w F F w1 := by rw [← hw1]; exact (Mv.refl w F).alloc _
  have b0 : w1.cell? ⟨w.heap.size, 0, none⟩ = some (.int .i64 30) := by rw [← hw1]; exact World.cell?_alloc_new w _ _ _
  have b1 : w1.cell? ⟨w.heap.size, 1, none⟩ = some (.int .i32 k) := by rw [← hw1]; exact World.cell?_alloc_new w _ _ _
  have c2' : w1.cell? ⟨q, 2, none⟩ = some (.slice sa N sc) := by rw [← hw1]; exact alloc_keep c2
  have hx1 : Rd w1 1 (.slice D 0 (sc - N)) 0 (i32s (s.st.take 0).reverse) := HX.out.below (B := w.heap.size) (by rw [← hw1]; exact (Below.refl _ _).alloc (Nat.le_refl _) _) (Nat.le_refl _)
  have HX1 := Lib.hid hx1
  have HM1 := Lib.hid hM1
  have Hm1 := Lib.hid hm1
  have HB0 := Lib.hid b0
  have HB1 := Lib.hid b1
  have hl1 := World.block_lt_of_cell? w1 _ b0
  have hq1 := HM1.out.lt
  clear hw1 hM1 hm1 c2 c5 hx1
  go_wp2_with (first | (at_builtin; refine app_own _ elemI32 rfl (.const (.slice none 0 0)) (.tmp 46) rfl w1.heap.size (.slice none 0 0) 0 [] rfl (World.ownsRow_nil _ _ _ _) (.slice D 0 (sc - N)) 0 (i32s (s.st.take 0).reverse) rfl HX1.out (one_i32s _) (by simp [maxLen]) (by simp) (Nat.le_refl _) ?_; intro v8 w2 ho8 hg8; simp only [Nat.zero_add, List.nil_append] at ho8; obtain ⟨xa, xc, rfl, _⟩ := owns_shape ho8; have hM2 := HM1.out.grown hg8; have hm2 := Hm1.out.grown hg8; have b0 := hg8.cell HB0.out (by simp [Value.ownBlock]); have b1 := hg8.cell HB1.out (by simp [Value.ownBlock]); have c2 := hM2.r2; rw [HSV.out, ← HN.out] at c2; have c5 := hM2.r5; have f2 := hM2.frozen 2; have f5 := hM2.frozen 5; have hq2 := hM2.lt; have hl2 := World.block_lt_of_cell? _ _ b0; have HM2 := Lib.hid hM2; have Hm2 := Lib.hid hm2; have HO8 := Lib.hid ho8; clear hM2 hm2 ho8 hg8) | fail)
  go_ret
  exact ⟨rfl, HM2.out.fuq Hm2.out⟩
set_option maxHeartbeats 3200000 in
theorem rdo_32 (h : SM false w B q F cv mv iv sv kv ov s) (k : Int) (hk : I32 k) (hp0 : 0 ≤ s.pc) (hp1 : s.pc ≤ 1000000) (hl : s.st.length < 1000) :
    Calls Try.prog 43 #[.pointer (some ⟨q, 0, none⟩), codeV 32 k] w fun e w' => e = .returned (.bool true) ∧ FuQ false w B q F cv mv iv { s with st := tell s.inp.isEmpty :: s.st, pc := s.pc + 1 } w' := by
  obtain ⟨sa, sc, hsv, hnc, hcm, hnone⟩ := rd_shape h.ops.rd
  have HK := Lib.hid hk
  unfold I32 at hk
  obtain ⟨hk0, hk1⟩ := hk
  have H := Lib.hid h
  have hql := h.lt
  have c2 := h.r2
  have c5 := h.r5
  have hsl := h.fit.sl
  have E := Lib.hid (fun W => effect_any 32 ⟨by omega, by omega⟩ W)
  rw [show takesC 32 = 0 from rfl, show leavesC 32 = 1 from rfl] at E
  have hrd : Rd w 1 (.slice sa s.st.length sc) s.st.length (i32s s.st.reverse) := by have := h.ops.rd; rw [hsv] at this; exact this
  obtain ⟨N, hN⟩ : ∃ N, N = s.st.length := ⟨_, rfl⟩
  obtain ⟨M, hM⟩ : ∃ M, N = M + 0 := ⟨N - 0, by skip; omega⟩
  rw [hsv] at c2
  have hMl : s.st.length - 0 = M := by omega
  have hNM : N = M := by omega
  subst hNM
  rw [← hN] at c2 hsl hnc hrd hMl
  obtain ⟨D, hD⟩ : ∃ D : Option Addr, (if sc = N then sa else Option.map (fun x => x.add N) sa) = D := ⟨_, rfl⟩
  have hx := rd_from hrd (lo := N) (by omega) hD
  have hMe : N = s.st.length - 0 := by omega
  have hxl : (i32s s.st.reverse).drop N = i32s (s.st.take 0).reverse := by rw [hMe]; exact take_rev _ _ (by omega)
  rw [hxl, show N - N = 0 by omega] at hx
  have HX := Lib.hid hx
  have HN := Lib.hid hN
  have HSV := Lib.hid hsv
  have HMe := Lib.hid hMe
  have g0 : decide ((N : Int) < 0) = false := by simp
  have g1 : ¬ (1000 : Int) < (N : Int) + 1 := by omega
  have g4 : decide ((1000 : Int) < (N : Int) + 1) = false := by simp; omega
  have m0 : (0 : Int) ≤ (N : Int) := by omega
  have m1 : (N : Int) ≤ (N : Int) := by omega
  have m2 : N ≤ N := by omega
  clear h hN hsv hx hxl hrd hMe hMl hM
  obtain ⟨ia, ic, hiv, _, _, _⟩ := rd_shape H.out.inp
  have HIV := Lib.hid hiv
  clear hiv
  obtain ⟨NI, hNI⟩ : ∃ n, n = s.inp.length := ⟨_, rfl⟩
  have HNI := Lib.hid hNI
  have hbe : s.inp.isEmpty = (((NI : Nat) : Int) == 0) := by rw [hNI]; cases s.inp <;> simp; omega
  obtain ⟨bb, hbb⟩ : ∃ b, b = (((NI : Nat) : Int) == 0) := ⟨_, rfl⟩
  have HBE := Lib.hid (hbe.trans hbb.symm)
  have eT : IntKind.i32.wrap (tell bb) = tell bb := IntWalk.i32_in _ (by cases bb <;> simp [tell])
  have HBB := Lib.hid hbb
  clear hNI hbe hbb
  simp only [codeV]
  go_enter Try.func43, Try.ntmps43
  go_wp2_with fail
  refine (E.out _).mono ?_; rintro e w1 ⟨rfl, hw1⟩
  have hM1 : SM false w1 B q F cv mv iv sv kv ov s := by rw [← hw1]; exact H.out.alloc _
  have hm1 : Mv w F F w1 := by rw [← hw1]; exact (Mv.refl w F).alloc _
  have b0 : w1.cell? ⟨w.heap.size, 0, none⟩ = some (.int .i64 32) := by rw [← hw1]; exact World.cell?_alloc_new w _ _ _
  have b1 : w1.cell? ⟨w.heap.size, 1, none⟩ = some (.int .i32 k) := by rw [← hw1]; exact World.cell?_alloc_new w _ _ _
  have c2' : w1.cell? ⟨q, 2, none⟩ = some (.slice sa N sc) := by rw [← hw1]; exact alloc_keep c2
  have hx1 : Rd w1 1 (.slice D 0 (sc - N)) 0 (i32s (s.st.take 0).reverse) := HX.out.below (B := w.heap.size) (by rw [← hw1]; exact (Below.refl _ _).alloc (Nat.le_refl _) _) (Nat.le_refl _)
  have HX1 := Lib.hid hx1
  have HM1 := Lib.hid hM1
  have Hm1 := Lib.hid hm1
  have HB0 := Lib.hid b0
  have HB1 := Lib.hid b1
  have hl1 := World.block_lt_of_cell? w1 _ b0
  have hq1 := HM1.out.lt
  clear hw1 hM1 hm1 c2 c5 hx1
  go_wp2_with (first | (at_builtin; refine app_own _ elemI32 rfl (.const (.slice none 0 0)) (.tmp 46) rfl w1.heap.size (.slice none 0 0) 0 [] rfl (World.ownsRow_nil _ _ _ _) (.slice D 0 (sc - N)) 0 (i32s (s.st.take 0).reverse) rfl HX1.out (one_i32s _) (by simp [maxLen]) (by simp) (Nat.le_refl _) ?_; intro v8 w2 ho8 hg8; simp only [Nat.zero_add, List.nil_append] at ho8; obtain ⟨xa, xc, rfl, _⟩ := owns_shape ho8; have hM2 := HM1.out.grown hg8; have hm2 := Hm1.out.grown hg8; have b0 := hg8.cell HB0.out (by simp [Value.ownBlock]); have b1 := hg8.cell HB1.out (by simp [Value.ownBlock]); have c2 := hM2.r2; rw [HSV.out, ← HN.out] at c2; have c5 := hM2.r5; have f2 := hM2.frozen 2; have f5 := hM2.frozen 5; have hq2 := hM2.lt; have hl2 := World.block_lt_of_cell? _ _ b0; have c7 := hM2.r7; rw [HIV.out, ← HNI.out] at c7; have HM2 := Lib.hid hM2; have Hm2 := Lib.hid hm2; have HO8 := Lib.hid ho8; clear hM2 hm2 ho8 hg8) | fail)
  refine (bit_any _ _).mono ?_; rintro e wt ⟨rfl, rfl⟩
  rw [← HBB.out]
  go_wp2_with (at_builtin; refine app_full _ elemI32 rfl (.tmp 432) (.tmp 433) rfl sa N (i32s (s.st.drop 0).reverse) rfl (rd_left (HM2.out) HSV.out HN.out HMe.out _) (.slice (some ⟨wt.heap.size, 0, none⟩) 1 1) 1 (i32s [tell bb]) rfl (rd_new _ (i32s [tell bb]) _ 1 1 (by simp [i32s]) (by simp [maxLen])) (one_i32s _) (by omega) (by simp only [maxLen]; omega) (by omega) ?_; intro v3 w3 ho3 hg3; obtain ⟨va, vc, rfl, _⟩ := owns_shape ho3; have hM3 := ((HM2.out).alloc (.cells (i32s [tell bb]).toArray 21)).grown hg3; have c2 := hM3.r2; have f2 := hM3.frozen 2; have c5 := hM3.r5; have f5 := hM3.frozen 5; have hq3 := hM3.lt; have HR := Lib.hid (rdo_end (o := [tell bb]) (a := 0) (iv := iv) ((HM2.out).alloc (.cells (i32s [tell bb]).toArray 21)) ((Hm2.out).alloc (.cells (i32s [tell bb]).toArray 21)) rfl (by rw [← HMe.out]; exact ho3) hg3 (by rw [← HN.out]; omega) (by intro z hz; rw [List.mem_singleton.1 hz]; exact tell_in _) (by rw [← HMe.out]; simp; omega) (s.pc + 1) (by omega) (by omega)); clear hM3 ho3 hg3)
  go_ret
  rw [HBE.out]
  exact ⟨rfl, HR.out⟩
set_option maxHeartbeats 3200000 in
theorem rdo_5 (h : SM false w B q F cv mv iv sv kv ov s) (k : Int) (hk : I32 k) (hp0 : 0 ≤ s.pc) (hp1 : s.pc ≤ 1000000) (hl : s.st.length < 1000) :
    Calls Try.prog 43 #[.pointer (some ⟨q, 0, none⟩), codeV 5 k] w fun e w' => e = .returned (.bool true) ∧ FuQ false w B q F cv mv iv { s with st := wrap32 (s.fp + k) :: s.st, pc := s.pc + 1 } w' := by
  obtain ⟨sa, sc, hsv, hnc, hcm, hnone⟩ := rd_shape h.ops.rd
  have HK := Lib.hid hk
  unfold I32 at hk
  obtain ⟨hk0, hk1⟩ := hk
  have H := Lib.hid h
  have hql := h.lt
  have c2 := h.r2
  have c5 := h.r5
  have hsl := h.fit.sl
  have E := Lib.hid (fun W => effect_any 5 ⟨by omega, by omega⟩ W)
  rw [show takesC 5 = 0 from rfl, show leavesC 5 = 1 from rfl] at E
  have hrd : Rd w 1 (.slice sa s.st.length sc) s.st.length (i32s s.st.reverse) := by have := h.ops.rd; rw [hsv] at this; exact this
  obtain ⟨N, hN⟩ : ∃ N, N = s.st.length := ⟨_, rfl⟩
  obtain ⟨M, hM⟩ : ∃ M, N = M + 0 := ⟨N - 0, by skip; omega⟩
  rw [hsv] at c2
  have hMl : s.st.length - 0 = M := by omega
  have hNM : N = M := by omega
  subst hNM
  rw [← hN] at c2 hsl hnc hrd hMl
  obtain ⟨D, hD⟩ : ∃ D : Option Addr, (if sc = N then sa else Option.map (fun x => x.add N) sa) = D := ⟨_, rfl⟩
  have hx := rd_from hrd (lo := N) (by omega) hD
  have hMe : N = s.st.length - 0 := by omega
  have hxl : (i32s s.st.reverse).drop N = i32s (s.st.take 0).reverse := by rw [hMe]; exact take_rev _ _ (by omega)
  rw [hxl, show N - N = 0 by omega] at hx
  have HX := Lib.hid hx
  have HN := Lib.hid hN
  have HSV := Lib.hid hsv
  have HMe := Lib.hid hMe
  have g0 : decide ((N : Int) < 0) = false := by simp
  have g1 : ¬ (1000 : Int) < (N : Int) + 1 := by omega
  have g4 : decide ((1000 : Int) < (N : Int) + 1) = false := by simp; omega
  have m0 : (0 : Int) ≤ (N : Int) := by omega
  have m1 : (N : Int) ≤ (N : Int) := by omega
  have m2 : N ≤ N := by omega
  clear h hN hsv hx hxl hrd hMe hMl hM
  obtain ⟨P, hP⟩ : ∃ P, P = s.fp := ⟨_, rfl⟩
  have HP := Lib.hid hP
  have f0 := H.out.fit.f0
  have f1 := H.out.fit.f1
  have fl := H.out.fit.ml
  have f2 : s.fp ≤ 1048576 := by omega
  rw [← hP] at f0 f2
  clear f1 fl hP
  have eU : IntKind.i32.wrap (IntKind.u32.wrap (IntKind.u32.wrap P + IntKind.u32.wrap k)) = wrap32 (P + k) := by simp only [IntKind.wrap_i32, IntKind.wrap_u32]; unfold wrap32; omega
  simp only [codeV]
  go_enter Try.func43, Try.ntmps43
  go_wp2_with fail
  refine (E.out _).mono ?_; rintro e w1 ⟨rfl, hw1⟩
  have hM1 : SM false w1 B q F cv mv iv sv kv ov s := by rw [← hw1]; exact H.out.alloc _
  have hm1 : Mv w F F w1 := by rw [← hw1]; exact (Mv.refl w F).alloc _
  have b0 : w1.cell? ⟨w.heap.size, 0, none⟩ = some (.int .i64 5) := by rw [← hw1]; exact World.cell?_alloc_new w _ _ _
  have b1 : w1.cell? ⟨w.heap.size, 1, none⟩ = some (.int .i32 k) := by rw [← hw1]; exact World.cell?_alloc_new w _ _ _
  have c2' : w1.cell? ⟨q, 2, none⟩ = some (.slice sa N sc) := by rw [← hw1]; exact alloc_keep c2
  have hx1 : Rd w1 1 (.slice D 0 (sc - N)) 0 (i32s (s.st.take 0).reverse) := HX.out.below (B := w.heap.size) (by rw [← hw1]; exact (Below.refl _ _).alloc (Nat.le_refl _) _) (Nat.le_refl _)
  have HX1 := Lib.hid hx1
  have HM1 := Lib.hid hM1
  have Hm1 := Lib.hid hm1
  have HB0 := Lib.hid b0
  have HB1 := Lib.hid b1
  have hl1 := World.block_lt_of_cell? w1 _ b0
  have hq1 := HM1.out.lt
  clear hw1 hM1 hm1 c2 c5 hx1
  go_wp2_with (first | (at_builtin; refine app_own _ elemI32 rfl (.const (.slice none 0 0)) (.tmp 46) rfl w1.heap.size (.slice none 0 0) 0 [] rfl (World.ownsRow_nil _ _ _ _) (.slice D 0 (sc - N)) 0 (i32s (s.st.take 0).reverse) rfl HX1.out (one_i32s _) (by simp [maxLen]) (by simp) (Nat.le_refl _) ?_; intro v8 w2 ho8 hg8; simp only [Nat.zero_add, List.nil_append] at ho8; obtain ⟨xa, xc, rfl, _⟩ := owns_shape ho8; have hM2 := HM1.out.grown hg8; have hm2 := Hm1.out.grown hg8; have b0 := hg8.cell HB0.out (by simp [Value.ownBlock]); have b1 := hg8.cell HB1.out (by simp [Value.ownBlock]); have c2 := hM2.r2; rw [HSV.out, ← HN.out] at c2; have c5 := hM2.r5; have f2 := hM2.frozen 2; have f5 := hM2.frozen 5; have hq2 := hM2.lt; have hl2 := World.block_lt_of_cell? _ _ b0; have c3 := hM2.r3; rw [← HP.out] at c3; have HM2 := Lib.hid hM2; have Hm2 := Lib.hid hm2; have HO8 := Lib.hid ho8; clear hM2 hm2 ho8 hg8) | fail)
  refine wp_region_still_tail 10 (by kernel_rfl) (by kernel_rfl) ?_
  simp only [List.take_succ_cons, List.take_zero, List.drop_succ_cons, List.drop_zero]
  repeat still_step
  refine wpStill_nil ?_
  go_wp2_with (at_builtin; refine app_full _ elemI32 rfl (.tmp 432) (.tmp 433) rfl sa N (i32s (s.st.drop 0).reverse) rfl (rd_left (HM2.out.drew) HSV.out HN.out HMe.out _) (.slice (some ⟨w2.heap.size, 0, none⟩) 1 1) 1 (i32s [wrap32 (P + k)]) rfl (rd_new _ (i32s [wrap32 (P + k)]) _ 1 1 (by simp [i32s]) (by simp [maxLen])) (one_i32s _) (by omega) (by simp only [maxLen]; omega) (by omega) ?_; intro v3 w3 ho3 hg3; obtain ⟨va, vc, rfl, _⟩ := owns_shape ho3; have hM3 := ((HM2.out.drew).alloc (.cells (i32s [wrap32 (P + k)]).toArray 21)).grown hg3; have c2 := hM3.r2; have f2 := hM3.frozen 2; have c5 := hM3.r5; have f5 := hM3.frozen 5; have hq3 := hM3.lt; have HR := Lib.hid (rdo_end (o := [wrap32 (P + k)]) (a := 0) (iv := iv) ((HM2.out.drew).alloc (.cells (i32s [wrap32 (P + k)]).toArray 21)) ((Hm2.out.drewN 1).alloc (.cells (i32s [wrap32 (P + k)]).toArray 21)) rfl (by rw [← HMe.out]; exact ho3) hg3 (by rw [← HN.out]; omega) (by intro z hz; rw [List.mem_singleton.1 hz]; exact wrap32_le _) (by rw [← HMe.out]; simp; omega) (s.pc + 1) (by omega) (by omega)); clear hM3 ho3 hg3)
  go_ret
  refine ⟨rfl, ?_⟩
  have hr := HR.out
  rw [HP.out] at hr
  exact hr
set_option maxHeartbeats 3200000 in
theorem rdo_33 (h : SM false w B q F cv mv iv sv kv ov s) (k : Int) (hk : I32 k) (hp0 : 0 ≤ s.pc) (hp1 : s.pc ≤ 1000000) {x : Int} {t : List Int} (hst : s.st = x :: t) (hol : s.out.length ≤ 1000000) :
    Calls Try.prog 43 #[.pointer (some ⟨q, 0, none⟩), codeV 33 k] w fun e w' => e = .returned (.bool true) ∧ FuQ false w B q F cv mv iv { s with st := t, out := s.out ++ [x % 256], pc := s.pc + 1 } w' := by
  obtain ⟨sa, sc, hsv, hnc, hcm, hnone⟩ := rd_shape h.ops.rd
  have HK := Lib.hid hk
  unfold I32 at hk
  obtain ⟨hk0, hk1⟩ := hk
  have HST := Lib.hid hst
  have hxi : I32 x := h.fit.st x (by rw [hst]; simp)
  have HXI := Lib.hid hxi
  unfold I32 at hxi
  obtain ⟨hxi0, hxi1⟩ := hxi
  have H := Lib.hid h
  have hql := h.lt
  have c2 := h.r2
  have c5 := h.r5
  have hsl := h.fit.sl
  have E := Lib.hid (fun W => effect_any 33 ⟨by omega, by omega⟩ W)
  rw [show takesC 33 = 1 from rfl, show leavesC 33 = 0 from rfl] at E
  have hrd : Rd w 1 (.slice sa s.st.length sc) s.st.length (i32s s.st.reverse) := by have := h.ops.rd; rw [hsv] at this; exact this
  obtain ⟨N, hN⟩ : ∃ N, N = s.st.length := ⟨_, rfl⟩
  obtain ⟨M, hM⟩ : ∃ M, N = M + 1 := ⟨N - 1, by rw [hst] at hN; simp at hN; omega⟩
  rw [hsv] at c2
  have hMl : s.st.length - 1 = M := by omega
  rw [← hN] at c2 hsl hnc hrd hMl
  obtain ⟨D, hD⟩ : ∃ D : Option Addr, Option.map (fun x => x.add M) sa = D := ⟨_, rfl⟩
  have hx := rd_from hrd (lo := M) (by omega) (show (if sc = M then sa else Option.map (fun x => x.add M) sa) = D from by rw [if_neg (by omega)]; exact hD)
  have hMe : M = s.st.length - 1 := by omega
  have hxl : (i32s s.st.reverse).drop M = i32s (s.st.take 1).reverse := by rw [hMe]; exact take_rev _ _ (by omega)
  rw [hxl, show N - M = 1 by omega] at hx
  have HX := Lib.hid hx
  have HN := Lib.hid hN
  have HSV := Lib.hid hsv
  have HMe := Lib.hid hMe
  have eN : IntKind.i64.wrap ((N : Int) - 1) = M := by rw [show (N : Int) - 1 = M by omega]; exact IntWalk.i64_in _ (by omega)
  have eNM : N - M = 1 := by omega
  have g0 : decide ((N : Int) < 1) = false := by simp; omega
  have g0' : ¬ (N : Int) < 1 := by omega
  have g1 : ¬ (1000 : Int) < (M : Int) := by omega
  have g4 : decide ((1000 : Int) < (M : Int)) = false := by simp; omega
  have m0 : (0 : Int) ≤ (M : Int) := by omega
  have m1 : (M : Int) ≤ (N : Int) := by omega
  have m2 : M ≤ N := by omega
  clear hst h hN hsv hx hxl hrd hMe hMl hM
  have HOL := Lib.hid hol
  have ex : IntKind.u8.wrap x = x % 256 := u8_mod x
  simp only [codeV]
  go_enter Try.func43, Try.ntmps43
  go_wp2_with fail
  refine (E.out _).mono ?_; rintro e w1 ⟨rfl, hw1⟩
  have hM1 : SM false w1 B q F cv mv iv sv kv ov s := by rw [← hw1]; exact H.out.alloc _
  have hm1 : Mv w F F w1 := by rw [← hw1]; exact (Mv.refl w F).alloc _
  have b0 : w1.cell? ⟨w.heap.size, 0, none⟩ = some (.int .i64 33) := by rw [← hw1]; exact World.cell?_alloc_new w _ _ _
  have b1 : w1.cell? ⟨w.heap.size, 1, none⟩ = some (.int .i32 k) := by rw [← hw1]; exact World.cell?_alloc_new w _ _ _
  have c2' : w1.cell? ⟨q, 2, none⟩ = some (.slice sa N sc) := by rw [← hw1]; exact alloc_keep c2
  have hx1 : Rd w1 1 (.slice D 1 (sc - M)) 1 (i32s (s.st.take 1).reverse) := HX.out.below (B := w.heap.size) (by rw [← hw1]; exact (Below.refl _ _).alloc (Nat.le_refl _) _) (Nat.le_refl _)
  have HX1 := Lib.hid hx1
  have HM1 := Lib.hid hM1
  have Hm1 := Lib.hid hm1
  have HB0 := Lib.hid b0
  have HB1 := Lib.hid b1
  have hl1 := World.block_lt_of_cell? w1 _ b0
  have hq1 := HM1.out.lt
  clear hw1 hM1 hm1 c2 c5 hx1
  go_wp2_with (first | (at_builtin; refine app_own _ elemI32 rfl (.const (.slice none 0 0)) (.tmp 46) rfl w1.heap.size (.slice none 0 0) 0 [] rfl (World.ownsRow_nil _ _ _ _) (.slice D 1 (sc - M)) 1 (i32s (s.st.take 1).reverse) rfl HX1.out (one_i32s _) (by simp [maxLen]) (by simp) (Nat.le_refl _) ?_; intro v8 w2 ho8 hg8; simp only [Nat.zero_add, List.nil_append] at ho8; obtain ⟨xg, xc, rfl, hxc, hxg, hcells⟩ := st_owned ho8 (by omega) (by rw [HST.out]; rfl); have hx0 : w2.cell? ⟨xg, 0, none⟩ = some (.int .i32 x) := (by have := hcells 0 (by omega); rw [HST.out] at this; simpa using this); have hlx := World.block_lt_of_cell? _ _ hx0; clear hcells; have hM2 := HM1.out.grown hg8; have hm2 := Hm1.out.grown hg8; have b0 := hg8.cell HB0.out (by simp [Value.ownBlock]); have b1 := hg8.cell HB1.out (by simp [Value.ownBlock]); have c2 := hM2.r2; rw [HSV.out, ← HN.out] at c2; have c5 := hM2.r5; have f2 := hM2.frozen 2; have f5 := hM2.frozen 5; have hq2 := hM2.lt; have hl2 := World.block_lt_of_cell? _ _ b0; have c8 := hM2.r8; have f8 := hM2.frozen 8; have HM2 := Lib.hid hM2; have Hm2 := Lib.hid hm2; have HO8 := Lib.hid ho8; clear hM2 hm2 ho8 hg8) | fail)
  have HA := Lib.hid (HM2.out.drew.alloc (.cells (byt [x % 256]).toArray 5))
  have HmA := Lib.hid ((Hm2.out.drewN 1).alloc (.cells (byt [x % 256]).toArray 5))
  go_region_law
      (refine step_app_own2 elemB rfl (.tmp 410) (.tmp 415) rfl B ov s.out.length (byt s.out) (by simp [Act.eval]) (HA.out.out) w2.heap.size 0 1 1 (byt [x % 256]) (by simp [Act.eval]) rfl (new_cells w2.drew (byt [x % 256]) 5) (one_byt _) (by omega) (by have := HOL.out; simp only [maxLen]; omega) (by have := HOL.out; omega) HA.out.Bq ?_
       intro v3 w3 ho3 hg3 hloc
       obtain ⟨i8, j8⟩ := HA.out.later hg3 HA.out.no 8
       have i8' : w3.cell? ⟨q, 8, none⟩ = some ov := i8
       obtain ⟨g3, c3, rfl, _, _, _, _⟩ := owns_some ho3 (by omega)
       clear i8)
  all_goals
    have hnew : newer (w2.drew.alloc (.cells (byt [x % 256]).toArray 5)) w3 ov (.slice (some ⟨g3, 0, none⟩) (s.out.length + 1) c3) := fun k hk => (hloc k hk).imp id fun h1 => ⟨h1, (ho3.lt k hk).2⟩
    have hfr : Fr (fun k => ov.ownBlock = some k) (w2.drew.alloc (.cells (byt [x % 256]).toArray 5)) w3 := Fr.of_grown hg3 (fun _ h => h)
    have hfit : SFit { s with out := s.out ++ [x % 256] } := HA.out.fit.outs (fun y hy => by
      rcases List.mem_append.1 hy with hy | hy
      · exact HA.out.fit.out y hy
      · rw [List.mem_singleton.1 hy]; unfold Byt; omega)
    have hno := HA.out.newO hfr (l := s.out ++ [x % 256]) (by rw [List.length_append, byt_append]; exact ho3) hnew hfit
    have hmo := HmA.out.trans (fr_also (B := B) (j := 8) hfr (fun k hk => (HA.out.fo k hk).1) HA.out.fq hnew)
    generalize (w3.setCell ⟨q, 8, none⟩ (.slice (some ⟨g3, 0, none⟩) (s.out.length + 1) c3)) = w4 at hno hmo ⊢
    have HM4 := Lib.hid hno
    have Hm4 := Lib.hid hmo
    have c2 := hno.r2
    rw [HSV.out, ← HN.out] at c2
    have c5 := hno.r5
    have f2 := hno.frozen 2
    have f5 := hno.frozen 5
    have hq4 := hno.lt
    clear hnew hfr hfit hno hmo ho3 hg3 hloc
    go_wp2_with (at_builtin; refine app_nothing elemI32 rfl (.tmp 432) (.tmp 433) rfl sa M rfl rfl (fun e => by have := hnone e; omega) ?_; have HR := Lib.hid (rdo_end0 (a := 1) (iv := iv) (rd_sv HM4.out HSV.out) Hm4.out rfl (by rw [← HN.out]; omega) (s.pc + 1) (by omega) (by omega)))
    go_ret
    refine ⟨rfl, ?_⟩
    have hr := HR.out
    rw [← HMe.out] at hr
    have e : s.st.drop 1 = t := by rw [HST.out]; rfl
    rw [e] at hr
    exact hr
set_option maxHeartbeats 3200000 in
theorem rdo_6 {g nm c : Nat} (h : SM false w B q F cv (.slice (some ⟨g, 0, none⟩) nm c) iv sv kv ov s) (hnm : nm = s.mem.length) (k : Int) (hk : I32 k) (hp0 : 0 ≤ s.pc) (hp1 : s.pc ≤ 1000000) {x : Int} {t : List Int} (hst : s.st = x :: t) {p : Nat} (hxp : x = (p : Int)) (hp : p < s.mem.length) :
    Calls Try.prog 43 #[.pointer (some ⟨q, 0, none⟩), codeV 6 k] w fun e w' => e = .returned (.bool true) ∧ FuQ false w B q F cv (.slice (some ⟨g, 0, none⟩) nm c) iv { s with st := s.mem.getD p 0 :: t, pc := s.pc + 1 } w' := by
  obtain ⟨sa, sc, hsv, hnc, hcm, hnone⟩ := rd_shape h.ops.rd
  have HK := Lib.hid hk
  unfold I32 at hk
  obtain ⟨hk0, hk1⟩ := hk
  have HST := Lib.hid hst
  have hxi : I32 x := h.fit.st x (by rw [hst]; simp)
  have HXI := Lib.hid hxi
  unfold I32 at hxi
  obtain ⟨hxi0, hxi1⟩ := hxi
  have H := Lib.hid h
  have hql := h.lt
  have c2 := h.r2
  have c5 := h.r5
  have hsl := h.fit.sl
  have E := Lib.hid (fun W => effect_any 6 ⟨by omega, by omega⟩ W)
  rw [show takesC 6 = 1 from rfl, show leavesC 6 = 1 from rfl] at E
  have hrd : Rd w 1 (.slice sa s.st.length sc) s.st.length (i32s s.st.reverse) := by have := h.ops.rd; rw [hsv] at this; exact this
  obtain ⟨N, hN⟩ : ∃ N, N = s.st.length := ⟨_, rfl⟩
  obtain ⟨M, hM⟩ : ∃ M, N = M + 1 := ⟨N - 1, by rw [hst] at hN; simp at hN; omega⟩
  rw [hsv] at c2
  have hMl : s.st.length - 1 = M := by omega
  rw [← hN] at c2 hsl hnc hrd hMl
  obtain ⟨D, hD⟩ : ∃ D : Option Addr, Option.map (fun x => x.add M) sa = D := ⟨_, rfl⟩
  have hx := rd_from hrd (lo := M) (by omega) (show (if sc = M then sa else Option.map (fun x => x.add M) sa) = D from by rw [if_neg (by omega)]; exact hD)
  have hMe : M = s.st.length - 1 := by omega
  have hxl : (i32s s.st.reverse).drop M = i32s (s.st.take 1).reverse := by rw [hMe]; exact take_rev _ _ (by omega)
  rw [hxl, show N - M = 1 by omega] at hx
  have HX := Lib.hid hx
  have HN := Lib.hid hN
  have HSV := Lib.hid hsv
  have HMe := Lib.hid hMe
  have eN : IntKind.i64.wrap ((N : Int) - 1) = M := by rw [show (N : Int) - 1 = M by omega]; exact IntWalk.i64_in _ (by omega)
  have eNM : N - M = 1 := by omega
  have g0 : decide ((N : Int) < 1) = false := by simp; omega
  have g0' : ¬ (N : Int) < 1 := by omega
  have g1 : ¬ (1000 : Int) < (M : Int) + 1 := by omega
  have g4 : decide ((1000 : Int) < (M : Int) + 1) = false := by simp; omega
  have m0 : (0 : Int) ≤ (M : Int) := by omega
  have m1 : (M : Int) ≤ (N : Int) := by omega
  have m2 : M ≤ N := by omega
  clear hst h hN hsv hx hxl hrd hMe hMl hM
  have HNM := Lib.hid hnm
  have HP := Lib.hid hp
  have hml := H.out.fit.ml
  have q1 : (0 : Int) ≤ x := by omega
  have q2 : x < (nm : Int) := by omega
  have q3 : x.toNat = p := by omega
  have q4 : p < nm := by omega
  have HOK := Lib.hid (show decide (okAt s x 1) = true from decide_eq_true ⟨by omega, by omega, by omega⟩)
  have HXp := Lib.hid hxp
  have HV := Lib.hid (getD_in H.out.fit p hp)
  have hgq := Lib.hid (H.out.fm g rfl).2
  clear hml hnm hp hxp
  simp only [codeV]
  go_enter Try.func43, Try.ntmps43
  go_wp2_with fail
  refine (E.out _).mono ?_; rintro e w1 ⟨rfl, hw1⟩
  have hM1 : SM false w1 B q F cv (.slice (some ⟨g, 0, none⟩) nm c) iv sv kv ov s := by rw [← hw1]; exact H.out.alloc _
  have hm1 : Mv w F F w1 := by rw [← hw1]; exact (Mv.refl w F).alloc _
  have b0 : w1.cell? ⟨w.heap.size, 0, none⟩ = some (.int .i64 6) := by rw [← hw1]; exact World.cell?_alloc_new w _ _ _
  have b1 : w1.cell? ⟨w.heap.size, 1, none⟩ = some (.int .i32 k) := by rw [← hw1]; exact World.cell?_alloc_new w _ _ _
  have c2' : w1.cell? ⟨q, 2, none⟩ = some (.slice sa N sc) := by rw [← hw1]; exact alloc_keep c2
  have hx1 : Rd w1 1 (.slice D 1 (sc - M)) 1 (i32s (s.st.take 1).reverse) := HX.out.below (B := w.heap.size) (by rw [← hw1]; exact (Below.refl _ _).alloc (Nat.le_refl _) _) (Nat.le_refl _)
  have HX1 := Lib.hid hx1
  have HM1 := Lib.hid hM1
  have Hm1 := Lib.hid hm1
  have HB0 := Lib.hid b0
  have HB1 := Lib.hid b1
  have hl1 := World.block_lt_of_cell? w1 _ b0
  have hq1 := HM1.out.lt
  clear hw1 hM1 hm1 c2 c5 hx1
  go_wp2_with (first | (at_builtin; refine app_own _ elemI32 rfl (.const (.slice none 0 0)) (.tmp 46) rfl w1.heap.size (.slice none 0 0) 0 [] rfl (World.ownsRow_nil _ _ _ _) (.slice D 1 (sc - M)) 1 (i32s (s.st.take 1).reverse) rfl HX1.out (one_i32s _) (by simp [maxLen]) (by simp) (Nat.le_refl _) ?_; intro v8 w2 ho8 hg8; simp only [Nat.zero_add, List.nil_append] at ho8; obtain ⟨xg, xc, rfl, hxc, hxg, hcells⟩ := st_owned ho8 (by omega) (by rw [HST.out]; rfl); have hx0 : w2.cell? ⟨xg, 0, none⟩ = some (.int .i32 x) := (by have := hcells 0 (by omega); rw [HST.out] at this; simpa using this); have hlx := World.block_lt_of_cell? _ _ hx0; clear hcells; have hM2 := HM1.out.grown hg8; have hm2 := Hm1.out.grown hg8; have b0 := hg8.cell HB0.out (by simp [Value.ownBlock]); have b1 := hg8.cell HB1.out (by simp [Value.ownBlock]); have c2 := hM2.r2; rw [HSV.out, ← HN.out] at c2; have c5 := hM2.r5; have f2 := hM2.frozen 2; have f5 := hM2.frozen 5; have hq2 := hM2.lt; have hl2 := World.block_lt_of_cell? _ _ b0; have c1 := hM2.r1; have hc1 := hM2.wordAt HNM.out p HP.out; have hm1f := hM2.memFz p; have HM2 := Lib.hid hM2; have Hm2 := Lib.hid hm2; have HO8 := Lib.hid ho8; clear hM2 hm2 ho8 hg8) | fail)
  refine (rplace_any HM2.out x 1 HXI.out (by unfold I32; omega)).mono ?_; rintro e wt ⟨rfl, rfl⟩
  rw [HOK.out]
  go_wp2_with fail
  refine wp_region_still_tail 9 (by kernel_rfl) (by kernel_rfl) ?_
  simp only [List.take_succ_cons, List.take_zero, List.drop_succ_cons, List.drop_zero]
  repeat still_step
  refine wpStill_nil ?_
  go_wp2_with (at_builtin; refine app_full _ elemI32 rfl (.tmp 432) (.tmp 433) rfl sa M (i32s (s.st.drop 1).reverse) rfl (rd_left (HM2.out.drew) HSV.out HN.out HMe.out _) (.slice (some ⟨wt.heap.size, 0, none⟩) 1 1) 1 (i32s [s.mem.getD p 0]) rfl (rd_new _ (i32s [s.mem.getD p 0]) _ 1 1 (by simp [i32s]) (by simp [maxLen])) (one_i32s _) (by omega) (by simp only [maxLen]; omega) (by omega) ?_; intro v3 w3 ho3 hg3; obtain ⟨va, vc, rfl, _⟩ := owns_shape ho3; have hM3 := ((HM2.out.drew).alloc (.cells (i32s [s.mem.getD p 0]).toArray 21)).grown hg3; have c2 := hM3.r2; have f2 := hM3.frozen 2; have c5 := hM3.r5; have f5 := hM3.frozen 5; have hq3 := hM3.lt; have HR := Lib.hid (rdo_end (o := [s.mem.getD p 0]) (a := 1) (iv := iv) ((HM2.out.drew).alloc (.cells (i32s [s.mem.getD p 0]).toArray 21)) ((Hm2.out.drewN 1).alloc (.cells (i32s [s.mem.getD p 0]).toArray 21)) rfl (by rw [← HMe.out]; exact ho3) hg3 (by rw [← HN.out]; omega) (by intro z hz; rw [List.mem_singleton.1 hz]; exact HV.out) (by rw [← HMe.out]; simp; omega) (s.pc + 1) (by omega) (by omega)); clear hM3 ho3 hg3)
  go_ret
  refine ⟨rfl, ?_⟩
  have hr := HR.out
  have e : s.st.drop 1 = t := by rw [HST.out]; rfl
  rw [e] at hr
  exact hr
set_option maxHeartbeats 3200000 in
theorem rdo_6no (h : SM false w B q F cv mv iv sv kv ov s) (k : Int) (hk : I32 k) (hp0 : 0 ≤ s.pc) (hp1 : s.pc ≤ 1000000) {x : Int} {t : List Int} (hst : s.st = x :: t) (hno : ¬ okAt s x 1) :
    Calls Try.prog 43 #[.pointer (some ⟨q, 0, none⟩), codeV 6 k] w fun e w' => e = .returned (.bool false) ∧ FuQ false w B q F cv mv iv s w' := by
  obtain ⟨sa, sc, hsv, hnc, hcm, hnone⟩ := rd_shape h.ops.rd
  have HK := Lib.hid hk
  unfold I32 at hk
  obtain ⟨hk0, hk1⟩ := hk
  have HST := Lib.hid hst
  have hxi : I32 x := h.fit.st x (by rw [hst]; simp)
  have HXI := Lib.hid hxi
  unfold I32 at hxi
  obtain ⟨hxi0, hxi1⟩ := hxi
  have H := Lib.hid h
  have hql := h.lt
  have c2 := h.r2
  have c5 := h.r5
  have hsl := h.fit.sl
  have E := Lib.hid (fun W => effect_any 6 ⟨by omega, by omega⟩ W)
  rw [show takesC 6 = 1 from rfl, show leavesC 6 = 1 from rfl] at E
  have hrd : Rd w 1 (.slice sa s.st.length sc) s.st.length (i32s s.st.reverse) := by have := h.ops.rd; rw [hsv] at this; exact this
  obtain ⟨N, hN⟩ : ∃ N, N = s.st.length := ⟨_, rfl⟩
  obtain ⟨M, hM⟩ : ∃ M, N = M + 1 := ⟨N - 1, by rw [hst] at hN; simp at hN; omega⟩
  rw [hsv] at c2
  have hMl : s.st.length - 1 = M := by omega
  rw [← hN] at c2 hsl hnc hrd hMl
  obtain ⟨D, hD⟩ : ∃ D : Option Addr, Option.map (fun x => x.add M) sa = D := ⟨_, rfl⟩
  have hx := rd_from hrd (lo := M) (by omega) (show (if sc = M then sa else Option.map (fun x => x.add M) sa) = D from by rw [if_neg (by omega)]; exact hD)
  have hMe : M = s.st.length - 1 := by omega
  have hxl : (i32s s.st.reverse).drop M = i32s (s.st.take 1).reverse := by rw [hMe]; exact take_rev _ _ (by omega)
  rw [hxl, show N - M = 1 by omega] at hx
  have HX := Lib.hid hx
  have HN := Lib.hid hN
  have HSV := Lib.hid hsv
  have HMe := Lib.hid hMe
  have eN : IntKind.i64.wrap ((N : Int) - 1) = M := by rw [show (N : Int) - 1 = M by omega]; exact IntWalk.i64_in _ (by omega)
  have eNM : N - M = 1 := by omega
  have g0 : decide ((N : Int) < 1) = false := by simp; omega
  have g0' : ¬ (N : Int) < 1 := by omega
  have g1 : ¬ (1000 : Int) < (M : Int) + 1 := by omega
  have g4 : decide ((1000 : Int) < (M : Int) + 1) = false := by simp; omega
  have m0 : (0 : Int) ≤ (M : Int) := by omega
  have m1 : (M : Int) ≤ (N : Int) := by omega
  have m2 : M ≤ N := by omega
  clear hst h hN hsv hx hxl hrd hMe hMl hM
  have HOK := Lib.hid (show decide (okAt s x 1) = false from decide_eq_false hno)
  clear hno
  simp only [codeV]
  go_enter Try.func43, Try.ntmps43
  go_wp2_with fail
  refine (E.out _).mono ?_; rintro e w1 ⟨rfl, hw1⟩
  have hM1 : SM false w1 B q F cv mv iv sv kv ov s := by rw [← hw1]; exact H.out.alloc _
  have hm1 : Mv w F F w1 := by rw [← hw1]; exact (Mv.refl w F).alloc _
  have b0 : w1.cell? ⟨w.heap.size, 0, none⟩ = some (.int .i64 6) := by rw [← hw1]; exact World.cell?_alloc_new w _ _ _
  have b1 : w1.cell? ⟨w.heap.size, 1, none⟩ = some (.int .i32 k) := by rw [← hw1]; exact World.cell?_alloc_new w _ _ _
  have c2' : w1.cell? ⟨q, 2, none⟩ = some (.slice sa N sc) := by rw [← hw1]; exact alloc_keep c2
  have hx1 : Rd w1 1 (.slice D 1 (sc - M)) 1 (i32s (s.st.take 1).reverse) := HX.out.below (B := w.heap.size) (by rw [← hw1]; exact (Below.refl _ _).alloc (Nat.le_refl _) _) (Nat.le_refl _)
  have HX1 := Lib.hid hx1
  have HM1 := Lib.hid hM1
  have Hm1 := Lib.hid hm1
  have HB0 := Lib.hid b0
  have HB1 := Lib.hid b1
  have hl1 := World.block_lt_of_cell? w1 _ b0
  have hq1 := HM1.out.lt
  clear hw1 hM1 hm1 c2 c5 hx1
  go_wp2_with (first | (at_builtin; refine app_own _ elemI32 rfl (.const (.slice none 0 0)) (.tmp 46) rfl w1.heap.size (.slice none 0 0) 0 [] rfl (World.ownsRow_nil _ _ _ _) (.slice D 1 (sc - M)) 1 (i32s (s.st.take 1).reverse) rfl HX1.out (one_i32s _) (by simp [maxLen]) (by simp) (Nat.le_refl _) ?_; intro v8 w2 ho8 hg8; simp only [Nat.zero_add, List.nil_append] at ho8; obtain ⟨xg, xc, rfl, hxc, hxg, hcells⟩ := st_owned ho8 (by omega) (by rw [HST.out]; rfl); have hx0 : w2.cell? ⟨xg, 0, none⟩ = some (.int .i32 x) := (by have := hcells 0 (by omega); rw [HST.out] at this; simpa using this); have hlx := World.block_lt_of_cell? _ _ hx0; clear hcells; have hM2 := HM1.out.grown hg8; have hm2 := Hm1.out.grown hg8; have b0 := hg8.cell HB0.out (by simp [Value.ownBlock]); have b1 := hg8.cell HB1.out (by simp [Value.ownBlock]); have c2 := hM2.r2; rw [HSV.out, ← HN.out] at c2; have c5 := hM2.r5; have f2 := hM2.frozen 2; have f5 := hM2.frozen 5; have hq2 := hM2.lt; have hl2 := World.block_lt_of_cell? _ _ b0; have HM2 := Lib.hid hM2; have Hm2 := Lib.hid hm2; have HO8 := Lib.hid ho8; clear hM2 hm2 ho8 hg8) | fail)
  refine (rplace_any HM2.out x 1 HXI.out (by unfold I32; omega)).mono ?_; rintro e wt ⟨rfl, rfl⟩
  rw [HOK.out]
  go_wp2_with fail
  go_ret
  exact ⟨rfl, HM2.out.fuq Hm2.out⟩
set_option maxHeartbeats 3200000 in
theorem rdo_7no (h : SM false w B q F cv mv iv sv kv ov s) (k : Int) (hk : I32 k) (hp0 : 0 ≤ s.pc) (hp1 : s.pc ≤ 1000000) {x y : Int} {t : List Int} (hst : s.st = y :: x :: t) (hno : ¬ okAt s x 1) :
    Calls Try.prog 43 #[.pointer (some ⟨q, 0, none⟩), codeV 7 k] w fun e w' => e = .returned (.bool false) ∧ FuQ false w B q F cv mv iv s w' := by
  obtain ⟨sa, sc, hsv, hnc, hcm, hnone⟩ := rd_shape h.ops.rd
  have HK := Lib.hid hk
  unfold I32 at hk
  obtain ⟨hk0, hk1⟩ := hk
  have HST := Lib.hid hst
  have hxi : I32 x := h.fit.st x (by rw [hst]; simp)
  have HXI := Lib.hid hxi
  unfold I32 at hxi
  obtain ⟨hxi0, hxi1⟩ := hxi
  have hyi : I32 y := h.fit.st y (by rw [hst]; simp)
  have HYI := Lib.hid hyi
  unfold I32 at hyi
  obtain ⟨hyi0, hyi1⟩ := hyi
  have H := Lib.hid h
  have hql := h.lt
  have c2 := h.r2
  have c5 := h.r5
  have hsl := h.fit.sl
  have E := Lib.hid (fun W => effect_any 7 ⟨by omega, by omega⟩ W)
  rw [show takesC 7 = 2 from rfl, show leavesC 7 = 0 from rfl] at E
  have hrd : Rd w 1 (.slice sa s.st.length sc) s.st.length (i32s s.st.reverse) := by have := h.ops.rd; rw [hsv] at this; exact this
  obtain ⟨N, hN⟩ : ∃ N, N = s.st.length := ⟨_, rfl⟩
  obtain ⟨M, hM⟩ : ∃ M, N = M + 2 := ⟨N - 2, by rw [hst] at hN; simp at hN; omega⟩
  rw [hsv] at c2
  have hMl : s.st.length - 2 = M := by omega
  rw [← hN] at c2 hsl hnc hrd hMl
  obtain ⟨D, hD⟩ : ∃ D : Option Addr, Option.map (fun x => x.add M) sa = D := ⟨_, rfl⟩
  have hx := rd_from hrd (lo := M) (by omega) (show (if sc = M then sa else Option.map (fun x => x.add M) sa) = D from by rw [if_neg (by omega)]; exact hD)
  have hMe : M = s.st.length - 2 := by omega
  have hxl : (i32s s.st.reverse).drop M = i32s (s.st.take 2).reverse := by rw [hMe]; exact take_rev _ _ (by omega)
  rw [hxl, show N - M = 2 by omega] at hx
  have HX := Lib.hid hx
  have HN := Lib.hid hN
  have HSV := Lib.hid hsv
  have HMe := Lib.hid hMe
  have eN : IntKind.i64.wrap ((N : Int) - 2) = M := by rw [show (N : Int) - 2 = M by omega]; exact IntWalk.i64_in _ (by omega)
  have eNM : N - M = 2 := by omega
  have g0 : decide ((N : Int) < 2) = false := by simp; omega
  have g0' : ¬ (N : Int) < 2 := by omega
  have g1 : ¬ (1000 : Int) < (M : Int) := by omega
  have g4 : decide ((1000 : Int) < (M : Int)) = false := by simp; omega
  have m0 : (0 : Int) ≤ (M : Int) := by omega
  have m1 : (M : Int) ≤ (N : Int) := by omega
  have m2 : M ≤ N := by omega
  clear hst h hN hsv hx hxl hrd hMe hMl hM
  have HOK := Lib.hid (show decide (okAt s x 1) = false from decide_eq_false hno)
  clear hno
  simp only [codeV]
  go_enter Try.func43, Try.ntmps43
  go_wp2_with fail
  refine (E.out _).mono ?_; rintro e w1 ⟨rfl, hw1⟩
  have hM1 : SM false w1 B q F cv mv iv sv kv ov s := by rw [← hw1]; exact H.out.alloc _
  have hm1 : Mv w F F w1 := by rw [← hw1]; exact (Mv.refl w F).alloc _
  have b0 : w1.cell? ⟨w.heap.size, 0, none⟩ = some (.int .i64 7) := by rw [← hw1]; exact World.cell?_alloc_new w _ _ _
  have b1 : w1.cell? ⟨w.heap.size, 1, none⟩ = some (.int .i32 k) := by rw [← hw1]; exact World.cell?_alloc_new w _ _ _
  have c2' : w1.cell? ⟨q, 2, none⟩ = some (.slice sa N sc) := by rw [← hw1]; exact alloc_keep c2
  have hx1 : Rd w1 1 (.slice D 2 (sc - M)) 2 (i32s (s.st.take 2).reverse) := HX.out.below (B := w.heap.size) (by rw [← hw1]; exact (Below.refl _ _).alloc (Nat.le_refl _) _) (Nat.le_refl _)
  have HX1 := Lib.hid hx1
  have HM1 := Lib.hid hM1
  have Hm1 := Lib.hid hm1
  have HB0 := Lib.hid b0
  have HB1 := Lib.hid b1
  have hl1 := World.block_lt_of_cell? w1 _ b0
  have hq1 := HM1.out.lt
  clear hw1 hM1 hm1 c2 c5 hx1
  go_wp2_with (first | (at_builtin; refine app_own _ elemI32 rfl (.const (.slice none 0 0)) (.tmp 46) rfl w1.heap.size (.slice none 0 0) 0 [] rfl (World.ownsRow_nil _ _ _ _) (.slice D 2 (sc - M)) 2 (i32s (s.st.take 2).reverse) rfl HX1.out (one_i32s _) (by simp [maxLen]) (by simp) (Nat.le_refl _) ?_; intro v8 w2 ho8 hg8; simp only [Nat.zero_add, List.nil_append] at ho8; obtain ⟨xg, xc, rfl, hxc, hxg, hcells⟩ := st_owned ho8 (by omega) (by rw [HST.out]; rfl); have hx0 : w2.cell? ⟨xg, 0, none⟩ = some (.int .i32 x) := (by have := hcells 0 (by omega); rw [HST.out] at this; simpa using this); have hx1 : w2.cell? ⟨xg, 1, none⟩ = some (.int .i32 y) := (by have := hcells 1 (by omega); rw [HST.out] at this; simpa using this); have hlx := World.block_lt_of_cell? _ _ hx0; clear hcells; have hM2 := HM1.out.grown hg8; have hm2 := Hm1.out.grown hg8; have b0 := hg8.cell HB0.out (by simp [Value.ownBlock]); have b1 := hg8.cell HB1.out (by simp [Value.ownBlock]); have c2 := hM2.r2; rw [HSV.out, ← HN.out] at c2; have c5 := hM2.r5; have f2 := hM2.frozen 2; have f5 := hM2.frozen 5; have hq2 := hM2.lt; have hl2 := World.block_lt_of_cell? _ _ b0; have HM2 := Lib.hid hM2; have Hm2 := Lib.hid hm2; have HO8 := Lib.hid ho8; clear hM2 hm2 ho8 hg8) | fail)
  refine (rplace_any HM2.out x 1 HXI.out (by unfold I32; omega)).mono ?_; rintro e wt ⟨rfl, rfl⟩
  rw [HOK.out]
  go_wp2_with fail
  go_ret
  exact ⟨rfl, HM2.out.fuq Hm2.out⟩
end
end Go.Proofs.Ytgkdphnhfjjepaa
