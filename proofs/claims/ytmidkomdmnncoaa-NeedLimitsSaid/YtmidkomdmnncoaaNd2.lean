/- Need: a walk through all expressions, all statements, with what is told of each kept in a state. -/
import Derived.Test.YtmidkomdmnncoaaNd1
namespace Go.Proofs.Ytmidkomdmnncoaa
open Go.RowKit Go.Waf
set_option maxRecDepth 100000
set_option linter.unusedVariables false
set_option linter.unusedSimpArgs false

def unitE : Ending := .returned (.tuple #[])
/-- What may turn: the blocks from b0 on, below b1. -/
def FF (b0 b1 k : Nat) : Prop := b0 ≤ k ∧ k < b1
def iter {σ : Type} (g : Nat → σ → σ) : Nat → σ → σ
  | 0, s => s
  | k + 1, s => g k (iter g k s)
def runEx {σ : Type} (u : Ex → σ → σ) : Ex → σ → σ
  | .none, s => s
  | .mk op t i z k x, s => iter (fun j => runEx u (x j)) k (u (.mk op t i z k x) s)
theorem iter_ok {σ : Type} {ok : σ → Prop} {g : Nat → σ → σ} : ∀ {k : Nat}, (∀ j, j < k → ∀ s, ok (g j s) → ok s) → ∀ {j : Nat}, j ≤ k → ∀ {s : σ}, ok (iter g k s) → ok (iter g j s)
  | 0, _, j, hj, s, h => by obtain rfl : j = 0 := by omega
                            exact h
  | k + 1, hg, j, hj, s, h => by
    by_cases e : j = k + 1
    · subst e; exact h
    · exact iter_ok (k := k) (fun j hj => hg j (by omega)) (by omega) (hg k (by omega) _ h)
theorem runEx_ok {σ : Type} {ok : σ → Prop} {u : Ex → σ → σ} (hu : ∀ e s, ok (u e s) → ok s) : ∀ e s, ok (runEx u e s) → ok s
  | .none, s, h => h
  | .mk op t i z k x, s, h => hu _ s (iter_ok (j := 0) (fun j hj s => runEx_ok hu (x j) s) (by omega) h)
def runSt {σ : Type} (ue : Ex → σ → σ) (us : St → σ → σ) : St → σ → σ
  | .none, s => s
  | .mk op nx x nb bl b ni is, s => iter (fun j => iter (fun i => runSt ue us (b j i)) (bl j)) nb (iter (fun j => runEx ue (x j)) nx (us (.mk op nx x nb bl b ni is) s))
def runSts {σ : Type} (ue : Ex → σ → σ) (us : St → σ → σ) (n : Nat) (f : Nat → St) : σ → σ := iter (fun i => runSt ue us (f i)) n
theorem runSt_eq {σ : Type} (ue : Ex → σ → σ) (us : St → σ → σ) {w : World} {st : St} {xv bv iv : Value} (h : StOk w st xv bv iv) (s : σ) : runSt ue us st s = iter (fun j => runSts ue us (st.bl j) (st.b j)) st.nb (iter (fun j => runEx ue (st.x j)) st.nx (us st s)) := by
  cases st with
  | none => exact h.elim
  | mk op nx x nb bl b ni is => rfl
theorem runSt_ok {σ : Type} {ok : σ → Prop} {ue : Ex → σ → σ} {us : St → σ → σ} (hu : ∀ e s, ok (ue e s) → ok s) (hs : ∀ e s, ok (us e s) → ok s) : ∀ e s, ok (runSt ue us e s) → ok s
  | .none, s, h => h
  | .mk op nx x nb bl b ni is, s, h => hs _ s (iter_ok (j := 0) (fun j hj s => runEx_ok hu (x j) s) (by omega) (iter_ok (j := 0) (fun j hj s h => iter_ok (j := 0) (fun i hi s => runSt_ok hu hs (b j i) s) (by omega) h) (by omega) h))
section
variable {σ : Type} (w0 : World) (B1 : Nat) (Iv : σ → World → Prop) (ok : σ → Prop)
/-- What a function does to the state, of each expression. -/
def ExCb (fid : Nat) (ce : Array Value) (u : Ex → σ → σ) : Prop := ∀ (W : World) (e : Ex) (tv xv : Value) (s : σ), ExOk w0 e tv xv → Below w0.heap.size w0 W → B1 ≤ W.heap.size → Iv s W → ok (u e s) →
  Calls Try.prog fid (#[exV e tv xv] ++ ce) W fun en W' => en = unitE ∧ Fr (FF w0.heap.size B1) W W' ∧ Iv (u e s) W'
def WalkExP (fid : Nat) (ce : Array Value) (u : Ex → σ → σ) (e : Ex) : Prop := ∀ (W : World) (tv xv : Value) (s : σ), ExOk w0 e tv xv → Below w0.heap.size w0 W → B1 ≤ W.heap.size → Iv s W → ok (runEx u e s) →
  Calls Try.prog 26 #[exV e tv xv, .func (.func fid) #[] ce] W fun en W' => en = unitE ∧ Fr (FF w0.heap.size B1) W W' ∧ Iv (runEx u e s) W'
theorem Fr.old {w0 W W' : World} {b1 : Nat} (hb : Below w0.heap.size w0 W) (hf : Fr (FF w0.heap.size b1) W W') : Below w0.heap.size w0 W' :=
  hb.trans (hf.below hb.size fun i hi h => by have := h.1; omega)
set_option maxHeartbeats 3200000 in
theorem walkExpr_prog (fid : Nat) (ce : Array Value) (u : Ex → σ → σ) (hIv : ∀ s W W', Iv s W → Below W.heap.size W W' → Iv s W') (hu : ∀ e s, ok (u e s) → ok s) (hcb : ExCb w0 B1 Iv ok fid ce u)
    (eg : ∀ args w, (callFunc fid args).run Try.prog w = .ok (.enter fid args) w) : ∀ e, WalkExP w0 B1 Iv ok fid ce u e := by
  intro e
  induction e with
  | none => intro W tv xv s h; exact h.elim
  | mk op t i z k x ih =>
  intro W tv xv s hok hb hB hs hk
  obtain ⟨G, hG⟩ : ∃ G : Nat → σ → σ, G = fun j => runEx u (x j) := ⟨_, rfl⟩
  obtain ⟨s1, hs1⟩ : ∃ s1, s1 = u (.mk op t i z k x) s := ⟨_, rfl⟩
  have HR := Lib.hid (show runEx u (.mk op t i z k x) s = iter G k s1 from by rw [hG, hs1]; rfl)
  rw [HR.out] at hk ⊢
  have HK := Lib.hid (show ∀ j, j ≤ k → ok (iter G j s1) from fun j hj => iter_ok (fun j _ s => by rw [hG]; exact runEx_ok hu (x j) s) hj hk)
  have HGS := Lib.hid (show ∀ j, iter G (j + 1) s1 = G j (iter G j s1) from fun j => rfl)
  have HI := Lib.hid (show ∀ j W tu xu s, ExOk w0 (x j) tu xu → Below w0.heap.size w0 W → B1 ≤ W.heap.size → Iv s W → ok (G j s) → Calls Try.prog 26 #[exV (x j) tu xu, .func (.func fid) #[] ce] W fun en W' => en = unitE ∧ Fr (FF w0.heap.size B1) W W' ∧ Iv (G j s) W' from fun j W tu xu s h1 h2 h3 h4 h5 => by
    rw [hG] at h5 ⊢; exact ih j W tu xu s h1 h2 h3 h4 h5)
  have HCB := Lib.hid (fun W h2 h3 h4 => hcb W (.mk op t i z k x) tv xv s hok h2 h3 h4 (by rw [← hs1]; exact HK.out 0 (by omega)))
  rw [← hs1] at HCB
  obtain ⟨hty, a, c, rfl, h1, h2, hx⟩ := hok
  obtain ⟨ta, tc, rfl, _, _⟩ := hty.shape
  have HX := Lib.hid (show ExsAt w0 a k x from hx)
  have HIV := Lib.hid hIv
  unfold exV at HCB ⊢
  have HB := Lib.hid hb
  have HS := Lib.hid hs
  clear hty hx ih hk hcb hu hIv hG hs1 hb hs
  go_enter Try.func26, Try.ntmps26
  go_wp2_with fail
  have hal : Below W.heap.size W (W.alloc (.cells #[.int .i64 (Ex.mk op t i z k x).op, .int .i64 (Ex.mk op t i z k x).t.form, .int .i64 (Ex.mk op t i z k x).t.num, .string (Ex.mk op t i z k x).t.name, .slice ta t.k tc, .int .i32 (Ex.mk op t i z k x).i, .string (Ex.mk op t i z k x).s, .slice a k c] 36)) := (Below.refl _ _).alloc (Nat.le_refl _) _
  obtain ⟨W1, hW1⟩ : ∃ W1 : World, W1 = W.alloc (.cells #[.int .i64 (Ex.mk op t i z k x).op, .int .i64 (Ex.mk op t i z k x).t.form, .int .i64 (Ex.mk op t i z k x).t.num, .string (Ex.mk op t i z k x).t.name, .slice ta t.k tc, .int .i32 (Ex.mk op t i z k x).i, .string (Ex.mk op t i z k x).s, .slice a k c] 36) := ⟨_, rfl⟩
  rw [← hW1] at hal ⊢
  have hsz := hal.size
  refine (HCB.out W1 (HB.out.trans (hal.mono HB.out.size)) (by omega) (HIV.out _ _ _ HS.out hal)).mono ?_
  rintro en W2 ⟨rfl, hf2, hs2⟩
  have c7 : W2.cell? ⟨W.heap.size, 7, none⟩ = some (.slice a k c) := by
    have e1 : W1.cell? ⟨W.heap.size, 7, none⟩ = some (.slice a k c) := rowC (by rw [hW1]; exact heap_alloc_new W _) 7 _
    rw [hf2.cell (p := ⟨W.heap.size, 7, none⟩) (World.block_lt_of_cell? _ _ e1) (fun h => by have := h.2; simp at this; omega)]
    exact e1
  have HF := Lib.hid (show Fr (FF w0.heap.size B1) W W2 from (Fr.of_new hal).trans hf2 (fun i _ h => h))
  have HB2 := Lib.hid (Fr.old HB.out HF.out)
  have HS2 := Lib.hid hs2
  clear hal hf2 hs2 hW1 hsz
  unfold unitE
  go_wp2_with fail
  have hz2 : B1 ≤ W2.heap.size := Nat.le_trans hB HF.out.size
  go_loopw [12] (fun y wr => ∃ j : Nat, j ≤ k ∧ y = .int .i64 (j : Int) ∧ Iv (iter G j s1) wr ∧ Fr (FF w0.heap.size B1) W wr) (fun y _ => k - (intOf y).toNat)
  case atStart => exact ⟨0, by omega, rfl, HS2.out, HF.out⟩
  case round =>
    obtain ⟨j, hj, rfl, hs, hf⟩ := hrel
    obtain ⟨wo, rfl⟩ : ∃ wo : World, wo = wr := ⟨_, rfl⟩
    have hbo := Fr.old HB.out hf
    by_cases hlt : j < k
    · obtain ⟨b, o, rfl, hc⟩ := HX.out (by omega)
      obtain ⟨tu, xu, hok, hcc⟩ := hc j hlt
      obtain ⟨d0, d1, d2, d3, d4, d5, d6, d7⟩ := hcc.below hbo (Nat.le_refl _)
      obtain ⟨ua, uc, rfl, _, _⟩ := hok.ty.shape
      obtain ⟨va, vc, rfl, _, _, _⟩ := hok.shape
      have HC := Lib.hid (fun W h2 h3 h4 => HI.out j W _ _ (iter G j s1) hok h2 h3 h4 (by rw [← HGS.out j]; exact HK.out (j + 1) (by omega)))
      obtain ⟨E, hE⟩ : ∃ E, E = x j := ⟨_, rfl⟩
      rw [← hE] at HC d0 d1 d2 d3 d4 d5 d6 d7
      unfold exV at HC
      have HSJ := Lib.hid hs
      have HFJ := Lib.hid hf
      have HBO := Lib.hid hbo
      have hzo : B1 ≤ wo.heap.size := Nat.le_trans hB hf.size
      clear hc hok hcc hbo hf hs hE
      go_wp2_with fail
      refine (HC.out _ (HBO.out.alloc HBO.out.size _) (by simp; omega) (HIV.out _ _ _ HSJ.out ((Below.refl _ _).alloc (Nat.le_refl _) _))).mono ?_
      rintro en W3 ⟨rfl, hf3, hs3⟩
      have HF3 := Lib.hid (show Fr (FF w0.heap.size B1) W W3 from (HFJ.out.trans (F' := FF w0.heap.size B1) (Fr.of_new ((Below.refl _ _).alloc (Nat.le_refl _) _)) (fun i _ h => h)).trans hf3 (fun i _ h => h))
      have HS3 := Lib.hid hs3
      clear hf3 hs3
      unfold unitE
      go_wp2_with fail
      go_roundw
      case rel => exact ⟨j + 1, by omega, by go_num, by rw [HGS.out j]; exact HS3.out, HF3.out⟩
      case measure => simp [intOf]; omega
    · obtain rfl : j = k := by omega
      have HSJ := Lib.hid hs
      have HFJ := Lib.hid hf
      clear hs hf hbo
      go_wp2_with fail
      refine bodyPost_end (results_none rfl _ _ _) rfl ?_
      exact ⟨rfl, HFJ.out, HSJ.out⟩
/-- What a function does to the state, of each statement. -/
def StCb (fid : Nat) (cs : Array Value) (us : St → σ → σ) : Prop := ∀ (W : World) (e : St) (xv bv iv : Value) (s : σ), StOk w0 e xv bv iv → Below w0.heap.size w0 W → B1 ≤ W.heap.size → Iv s W → ok (us e s) →
  Calls Try.prog fid (#[stV e xv bv iv] ++ cs) W fun en W' => en = unitE ∧ Fr (FF w0.heap.size B1) W W' ∧ Iv (us e s) W'
def WalkP (fs : Nat) (cs : Array Value) (us : St → σ → σ) (fe : Nat) (ce : Array Value) (ue : Ex → σ → σ) (n : Nat) (f : Nat → St) : Prop := ∀ (W : World) (a : Option Addr) (c : Nat) (s : σ), n ≤ c → c ≤ 9223372036854775807 → StsAt w0 a n f → Below w0.heap.size w0 W → B1 ≤ W.heap.size → Iv s W → ok (runSts ue us n f s) →
  Calls Try.prog 17 #[.slice a n c, .func (.func fs) #[] cs, .func (.func fe) #[] ce] W fun en W' => en = unitE ∧ Fr (FF w0.heap.size B1) W W' ∧ Iv (runSts ue us n f s) W'
set_option maxHeartbeats 6400000 in
theorem walk_prog (fs : Nat) (cs : Array Value) (us : St → σ → σ) (fe : Nat) (ce : Array Value) (ue : Ex → σ → σ) (hIv : ∀ s W W', Iv s W → Below W.heap.size W W' → Iv s W') (hue : ∀ e s, ok (ue e s) → ok s) (hus : ∀ e s, ok (us e s) → ok s) (hce : ExCb w0 B1 Iv ok fe ce ue) (hcs : StCb w0 B1 Iv ok fs cs us)
    (ege : ∀ args w, (callFunc fe args).run Try.prog w = .ok (.enter fe args) w) (egs : ∀ args w, (callFunc fs args).run Try.prog w = .ok (.enter fs args) w) : ∀ d n f, nestS n f < d → WalkP w0 B1 Iv ok fs cs us fe ce ue n f := by
  intro d
  induction d with
  | zero => intro n f h; exact absurd h (by omega)
  | succ d ih =>
  intro n f hn W a c s h1 h2 hx hb hB hs hk
  obtain ⟨G, hG⟩ : ∃ G : Nat → σ → σ, G = fun i => runSt ue us (f i) := ⟨_, rfl⟩
  have HR := Lib.hid (show runSts ue us n f s = iter G n s from by rw [hG]; rfl)
  rw [HR.out] at hk ⊢
  have HK := Lib.hid (show ∀ j, j ≤ n → ok (iter G j s) from fun j hj => iter_ok (fun j _ s => by rw [hG]; exact runSt_ok hue hus (f j) s) hj hk)
  have HGS := Lib.hid (show ∀ j, iter G (j + 1) s = G j (iter G j s) from fun j => rfl)
  have HGJ := Lib.hid (show ∀ j, G j = runSt ue us (f j) from fun j => by rw [hG])
  have HN := Lib.hid (show ∀ i, i < n → (f i).nest ≤ d from fun i hi => by have := maxN_le (f := fun i => (f i).nest) hi; have hn : maxN (fun i => (f i).nest) n < d + 1 := hn; omega)
  have HI := Lib.hid ih
  have HX := Lib.hid hx
  have HIV := Lib.hid hIv
  have HUE := Lib.hid hue
  have HUS := Lib.hid hus
  have HCS := Lib.hid hcs
  have HWE := Lib.hid (walkExpr_prog w0 B1 Iv ok fe ce ue hIv hue hce ege)
  have HB := Lib.hid hb
  have HS := Lib.hid hs
  clear hk hG hx ih hIv hue hus hcs hce hb hs hn ege
  go_enter Try.func17, Try.ntmps17
  go_wp2_with fail
  go_loopw [14] (fun y wr => ∃ j : Nat, j ≤ n ∧ y = .int .i64 (j : Int) ∧ Iv (iter G j s) wr ∧ Fr (FF w0.heap.size B1) W wr) (fun y _ => n - (intOf y).toNat)
  case atStart => exact ⟨0, by omega, rfl, HS.out, Fr.refl _ _⟩
  case round =>
    obtain ⟨i, hi, rfl, hs, hf⟩ := hrel
    obtain ⟨wo, rfl⟩ : ∃ wo : World, wo = wr := ⟨_, rfl⟩
    have hbo := Fr.old HB.out hf
    by_cases hlt : i < n
    · obtain ⟨b, o, rfl, hc⟩ := HX.out (by omega)
      obtain ⟨xu, bu, iu, hok, hcc⟩ := hc i hlt
      have hse := St.nest_eq hok
      have hnn := HN.out i hlt
      have hrs := runSt_eq ue us hok
      have hgs := HGS.out i
      have hgj := HGJ.out i
      have HC := Lib.hid (fun W => HCS.out W (f i) _ _ _ (iter G i s) hok)
      have HD := Lib.hid (fun W (hbw : Below w0.heap.size w0 W) => hcc.below hbw (Nat.le_refl _))
      obtain ⟨⟨xa, xc, rfl, x1, x2, hxs⟩, ⟨ia, ic, rfl, i1, i2, _⟩, ba, bc, rfl, q1, q2, hbs⟩ := hok.open
      obtain ⟨d0, d1, d2, d3⟩ := HD.out wo hbo
      obtain ⟨S, hS⟩ : ∃ S, S = f i := ⟨_, rfl⟩
      rw [← hS] at hse d0 d1 d2 d3 hbs q1 x1 i1 hxs hnn hrs hgj HC
      obtain ⟨s1, hs1⟩ : ∃ s1, s1 = us S (iter G i s) := ⟨_, rfl⟩
      obtain ⟨GX, hGX⟩ : ∃ g : Nat → σ → σ, g = fun j => runEx ue (S.x j) := ⟨_, rfl⟩
      obtain ⟨GB, hGB⟩ : ∃ g : Nat → σ → σ, g = fun j => runSts ue us (S.bl j) (S.b j) := ⟨_, rfl⟩
      rw [hgj, hrs, ← hs1, ← hGX, ← hGB] at hgs
      have hkk : ok (iter GB S.nb (iter GX S.nx s1)) := by rw [← hgs]; exact HK.out (i + 1) (by omega)
      have hkb : ∀ j, j ≤ S.nb → ok (iter GB j (iter GX S.nx s1)) := fun j hj => iter_ok (fun j _ s h => by rw [hGB] at h; exact iter_ok (j := 0) (fun i _ s => runSt_ok HUE.out HUS.out (S.b j i) s) (by omega) h) hj hkk
      have hkx : ∀ j, j ≤ S.nx → ok (iter GX j s1) := fun j hj => iter_ok (fun j _ s => by rw [hGX]; exact runEx_ok HUE.out (S.x j) s) hj (hkb 0 (by omega))
      have HKB := Lib.hid hkb
      have HKX := Lib.hid hkx
      have HGXS := Lib.hid (show ∀ j, iter GX (j + 1) s1 = GX j (iter GX j s1) from fun j => rfl)
      have HGBS := Lib.hid (show ∀ j, iter GB (j + 1) (iter GX S.nx s1) = GB j (iter GB j (iter GX S.nx s1)) from fun j => rfl)
      have HCX := Lib.hid (show ∀ j W tu xu s, ExOk w0 (S.x j) tu xu → Below w0.heap.size w0 W → B1 ≤ W.heap.size → Iv s W → ok (GX j s) → Calls Try.prog 26 #[exV (S.x j) tu xu, .func (.func fe) #[] ce] W fun en W' => en = unitE ∧ Fr (FF w0.heap.size B1) W W' ∧ Iv (GX j s) W' from fun j W tu xu s k1 k2 k3 k4 k5 => by
        rw [hGX] at k5 ⊢; exact HWE.out (S.x j) W tu xu s k1 k2 k3 k4 k5)
      have HCB := Lib.hid (show ∀ j, j < S.nb → ∀ W ja jc s, S.bl j ≤ jc → jc ≤ 9223372036854775807 → StsAt w0 ja (S.bl j) (S.b j) → Below w0.heap.size w0 W → B1 ≤ W.heap.size → Iv s W → ok (GB j s) → Calls Try.prog 17 #[.slice ja (S.bl j) jc, .func (.func fs) #[] cs, .func (.func fe) #[] ce] W fun en W' => en = unitE ∧ Fr (FF w0.heap.size B1) W W' ∧ Iv (GB j s) W' from fun j hj W ja jc s k1 k2 k3 k4 k5 k6 k7 => by
        rw [hGB] at k7 ⊢
        exact HI.out (S.bl j) (S.b j) (by have := maxN_le (f := fun j => nestS (S.bl j) (S.b j)) hj; have : nestS (S.bl j) (S.b j) ≤ maxN (fun j => nestS (S.bl j) (S.b j)) S.nb := this; omega) W ja jc s k1 k2 k3 k4 k5 k6 k7)
      rw [← hs1] at HC
      obtain ⟨NX, hNX⟩ : ∃ k, k = S.nx := ⟨_, rfl⟩
      obtain ⟨NB, hNB⟩ : ∃ k, k = S.nb := ⟨_, rfl⟩
      obtain ⟨NI, hNI⟩ : ∃ k, k = S.ni := ⟨_, rfl⟩
      obtain ⟨op, hop⟩ : ∃ k, k = S.op := ⟨_, rfl⟩
      rw [← hNX, ← hNB] at HKB
      rw [← hNX] at HKX HGBS d1 hxs x1
      rw [← hNB] at HCB d2 hbs q1
      rw [← hNI] at d3
      rw [← hop] at d0
      unfold stV at HC
      rw [← hNX, ← hNB, ← hNI, ← hop] at HC
      rw [← hNX, ← hNB] at hgs
      have HGS1 := Lib.hid hgs
      have HXS := Lib.hid hxs
      have HBS := Lib.hid hbs
      have HSI := Lib.hid hs
      have HFI := Lib.hid hf
      have HBO := Lib.hid hbo
      have hzo : B1 ≤ wo.heap.size := Nat.le_trans hB hf.size
      have hk1 := HKX.out 0 (by omega)
      have HK1 := Lib.hid (show ok s1 from hk1)
      clear hc hok hcc hbo hf hs hS hse hnn hrs hgj hs1 hGX hGB hgs hkk hkb hkx hNX hNB hNI hop hxs hbs hk1
      go_wp2_with fail
      obtain ⟨w3, hw3⟩ : ∃ w3 : World, w3 = wo.alloc (.cells #[.int .i64 op, .slice xa NX xc, .slice ba NB bc, .slice ia NI ic] 40) := ⟨_, rfl⟩
      rw [← hw3]
      have hb3 : Below wo.heap.size wo w3 := by rw [hw3]; exact (Below.refl _ _).alloc (Nat.le_refl _) _
      have hz3 : B1 ≤ w3.heap.size := Nat.le_trans hzo hb3.size
      have HZ := Lib.hid (show ∀ V, Fr (FF w0.heap.size B1) w3 V → V.cell? ⟨wo.heap.size, 1, none⟩ = some (.slice xa NX xc) ∧ V.cell? ⟨wo.heap.size, 2, none⟩ = some (.slice ba NB bc) from fun V hv => by
        have e1 : w3.cell? ⟨wo.heap.size, 1, none⟩ = some (.slice xa NX xc) := rowC (by rw [hw3]; exact heap_alloc_new wo _) 1 _
        have e2 : w3.cell? ⟨wo.heap.size, 2, none⟩ = some (.slice ba NB bc) := rowC (by rw [hw3]; exact heap_alloc_new wo _) 2 _
        have hl := World.block_lt_of_cell? _ _ e1
        exact ⟨(hv.cell (p := ⟨wo.heap.size, 1, none⟩) hl (fun h => by have := h.2; simp at this; omega)).trans e1, (hv.cell (p := ⟨wo.heap.size, 2, none⟩) hl (fun h => by have := h.2; simp at this; omega)).trans e2⟩)
      have HB3 := Lib.hid (show Below w0.heap.size w0 w3 from HBO.out.trans (hb3.mono HBO.out.size))
      have HF3 := Lib.hid (show Fr (FF w0.heap.size B1) W w3 from HFI.out.trans (F' := FF w0.heap.size B1) (Fr.of_new hb3) (fun i _ h => h))
      refine (HC.out w3 HB3.out hz3 (HIV.out _ _ _ HSI.out hb3) HK1.out).mono ?_
      rintro en w4 ⟨rfl, hf4, hs4⟩
      have HF4 := Lib.hid hf4
      have HS4 := Lib.hid hs4
      obtain ⟨f1, f2⟩ := HZ.out w4 hf4
      clear hf4 hs4 hb3 hw3
      unfold unitE
      go_wp2_with fail
      clear f1 f2
      go_loopw [24] (fun y wr => ∃ j : Nat, j ≤ NX ∧ y = .int .i64 (j : Int) ∧ Iv (iter GX j s1) wr ∧ Fr (FF w0.heap.size B1) w3 wr) (fun y _ => NX - (intOf y).toNat)
      case atStart => exact ⟨0, by omega, rfl, HS4.out, HF4.out⟩
      case round =>
        obtain ⟨j, hj, rfl, hs, hf⟩ := hrel
        obtain ⟨wi, rfl⟩ : ∃ wi : World, wi = wr := ⟨_, rfl⟩
        have hbi := Fr.old HB3.out hf
        obtain ⟨f1, f2⟩ := HZ.out wi hf
        have hzi : B1 ≤ wi.heap.size := Nat.le_trans hz3 hf.size
        by_cases hl2 : j < NX
        · obtain ⟨b2, o2, rfl, hc⟩ := HXS.out (by omega)
          obtain ⟨tu, xu, hok, hcc⟩ := hc j hl2
          obtain ⟨g0, g1, g2, g3, g4, g5, g6, g7⟩ := hcc.below hbi (Nat.le_refl _)
          obtain ⟨ua, uc, rfl, _, _⟩ := hok.ty.shape
          obtain ⟨va, vc, rfl, _, _, _⟩ := hok.shape
          have HCJ := Lib.hid (fun W h2 h3 h4 => HCX.out j W _ _ (iter GX j s1) hok h2 h3 h4 (by rw [← HGXS.out j]; exact HKX.out (j + 1) (by omega)))
          obtain ⟨E, hE⟩ : ∃ E, E = S.x j := ⟨_, rfl⟩
          rw [← hE] at HCJ g0 g1 g2 g3 g4 g5 g6 g7
          unfold exV at HCJ
          have HSJ := Lib.hid hs
          have HFJ := Lib.hid hf
          have HBJ := Lib.hid hbi
          clear hc hok hcc hbi hf hs hE
          go_wp2_with fail
          refine (HCJ.out _ (HBJ.out.alloc HBJ.out.size _) (by simp; omega) (HIV.out _ _ _ HSJ.out ((Below.refl _ _).alloc (Nat.le_refl _) _))).mono ?_
          rintro en W5 ⟨rfl, hf5, hs5⟩
          have HF5 := Lib.hid (show Fr (FF w0.heap.size B1) w3 W5 from (HFJ.out.trans (F' := FF w0.heap.size B1) (Fr.of_new ((Below.refl _ _).alloc (Nat.le_refl _) _)) (fun i _ h => h)).trans hf5 (fun i _ h => h))
          have HS5 := Lib.hid hs5
          clear hf5 hs5
          unfold unitE
          go_wp2_with fail
          go_roundw
          case rel => exact ⟨j + 1, by omega, by go_num, by rw [HGXS.out j]; exact HS5.out, HF5.out⟩
          case measure => simp [intOf]; omega
        · obtain rfl : j = NX := by omega
          have HSJ := Lib.hid hs
          have HFJ := Lib.hid hf
          clear hs hf hbi
          go_wp2_with fail
          clear f1 f2
          go_loopw [35] (fun y wr => ∃ j2 : Nat, j2 ≤ NB ∧ y = .int .i64 (j2 : Int) ∧ Iv (iter GB j2 (iter GX j s1)) wr ∧ Fr (FF w0.heap.size B1) w3 wr) (fun y _ => NB - (intOf y).toNat)
          case atStart => exact ⟨0, by omega, rfl, HSJ.out, HFJ.out⟩
          case round =>
            obtain ⟨m, hm, rfl, hs, hf⟩ := hrel
            obtain ⟨wi, rfl⟩ : ∃ wi : World, wi = wr := ⟨_, rfl⟩
            have hbi := Fr.old HB3.out hf
            have hzi : B1 ≤ wi.heap.size := Nat.le_trans hz3 hf.size
            by_cases hl3 : m < NB
            · obtain ⟨b2, o2, rfl, hc2⟩ := HBS.out (by omega)
              obtain ⟨ja, jc, k1, k2, k3, k4⟩ := hc2 m hl3
              have e0 := cell_below hbi (Nat.le_refl _) k1
              have HCM := Lib.hid (HCB.out m hl3 wi ja jc (iter GB m (iter GX j s1)) k2 k3 k4 hbi hzi hs (by rw [← HGBS.out m]; exact HKB.out (m + 1) (by omega)))
              obtain ⟨BL, hBL⟩ : ∃ k, k = S.bl m := ⟨_, rfl⟩
              rw [← hBL] at HCM e0
              have HFM := Lib.hid hf
              clear hc2 k1 k4 k2 k3 hbi hBL hf hs
              go_wp2_with fail
              refine HCM.out.mono ?_
              rintro en W5 ⟨rfl, hf5, hs5⟩
              have HF5 := Lib.hid (show Fr (FF w0.heap.size B1) w3 W5 from HFM.out.trans hf5 (fun i _ h => h))
              have HS5 := Lib.hid hs5
              clear hf5 hs5
              unfold unitE
              go_wp2_with fail
              go_roundw
              case rel => exact ⟨m + 1, by omega, by go_num, by rw [HGBS.out m]; exact HS5.out, HF5.out⟩
              case measure => simp [intOf]; omega
            · obtain rfl : m = NB := by omega
              have HSM := Lib.hid hs
              have HFM := Lib.hid (show Fr (FF w0.heap.size B1) W wi from HF3.out.trans hf (fun i _ h => h))
              clear hs hf hbi
              go_wp2_with fail
              go_roundw
              case rel => exact ⟨i + 1, by omega, by go_num, by rw [HGS1.out]; exact HSM.out, HFM.out⟩
              case measure => simp [intOf]; omega
    · obtain rfl : i = n := by omega
      have HSJ := Lib.hid hs
      have HFJ := Lib.hid hf
      clear hs hf hbo
      go_wp2_with fail
      refine bodyPost_end (results_none rfl _ _ _) rfl ?_
      exact ⟨rfl, HFJ.out, HSJ.out⟩
end
end Go.Proofs.Ytmidkomdmnncoaa
