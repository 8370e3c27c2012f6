/- The contracts of New and NewRISC. -/
import Derived.Test.YtflinbfobadheaaRisc15
import Derived.Deep.RegionWith
import Derived.WalkLawsBesides
import Derived.Deep.RegionHeld3
namespace Go.Proofs.Ytflinbfobadheaa
open Go.RowKit Go.Waf
set_option maxRecDepth 100000
set_option linter.unusedVariables false

def zeros (n : Nat) : List Int := List.replicate n 0
def zeroCells (n : Nat) : Array Value := madeCells (Value.int .u32 0).cells (n * 1)
theorem zeroCells_list (n : Nat) : (zeroCells n).toList = u32s (zeros n) := by
  apply List.ext_getElem?
  intro i
  simp [zeroCells, madeCells, Value.cells, u32s, zeros]
  by_cases h : i < n
  · simp [h, Nat.mod_one]
  · simp [h]
theorem infoU : ∃ i : TypeInfo, Try.prog.info? 37 = some i ∧ i.zero = some (.int .u32 0) ∧ i.size = 1 ∧ i.bytes = 4 := by
  have h : (Try.prog.info? 37).map (fun i => (i.zero, i.size, i.bytes)) = some (some (.int .u32 0), 1, 4) := by kernel_rfl
  cases hi : Try.prog.info? 37 with
  | none => rw [hi] at h; simp at h
  | some i =>
    rw [hi] at h
    simp only [Option.map_some, Option.some.injEq, Prod.mk.injEq] at h
    exact ⟨i, rfl, h.1, h.2.1, h.2.2⟩
theorem make_eq (N : Nat) (hN : N ≤ 1048576) (w : World) : (Instr.makeSlice 24 (.int .i64 (N : Int)) (.int .i64 (N : Int))).run Try.prog w = .ok (.slice (some ⟨w.heap.size, 0, none⟩) N N) (w.alloc (.cells (zeroCells N) 37)) := by
  obtain ⟨i, hi, hz, hsi, hby⟩ := infoU
  have hr := run_make (P := Try.prog) w 24 37 i (.int .u32 0) Try.underlying24 hi hz .i64 .i64 N N (by omega) (Int.le_refl _) (by rw [hby]; omega) (by omega)
  simp only [Int.toNat_natCast] at hr
  rw [hr, hsi]; rfl
theorem wordsf_any (n : Int) (N : Nat) (h : n = N ∨ (n < 0 ∧ N = 0)) (hN : N ≤ 1048576) (w : World) : Calls Try.prog 38 #[.int .i64 n] w fun e w' => e = .returned (.int .i64 (N : Int)) ∧ w = w' := by
  rcases h with rfl | ⟨h, rfl⟩
  · have h1 : ¬ (N : Int) < 0 := by omega
    have h2 : ¬ 1048576 < (N : Int) := by omega
    go_enter Try.func38, Try.ntmps38
    go_wp2_with fail
    go_ret
    exact ⟨rfl, rfl⟩
  · go_enter Try.func38, Try.ntmps38
    go_wp2_with fail
    go_ret
    exact ⟨rfl, rfl⟩

def St.new (code : List Int) (N : Nat) (inp : List Int) : St := ⟨code, zeros N, inp, zeros 16, 0, false, false, false, false, 0, [], 0, 0⟩
theorem zeros_all (n : Nat) : ∀ x ∈ zeros n, W32 x := fun x hx => by
  obtain ⟨_, rfl⟩ := List.mem_replicate.1 hx
  unfold W32; omega
theorem fit_new {code inp : List Int} {N : Nat} (hk : ∀ x ∈ code, W32 x) (hkl : code.length ≤ 1000) (hi : ∀ x ∈ inp, Byte x) (hN : N ≤ 1048576) : Fit (St.new code N inp) :=
  ⟨by simp [St.new, zeros], zeros_all 16, by simp [St.new, zeros]; exact hN, zeros_all N, hi, (fun x hx => nomatch hx), hk, hkl, ⟨Int.le_refl _, (by show (0 : Int) < 4294967296; decide)⟩, Int.le_refl _, (by show (0 : Int) ≤ 1048576; decide)⟩
theorem mach_new {p : Bool} {w' : World} {B q g N : Nat} {cv iv : Value} {code inp : List Int} (hk : ∀ x ∈ code, W32 x) (hkl : code.length ≤ 1000) (hi : ∀ x ∈ inp, Byte x) (hN : N ≤ 1048576)
    (hq : w'.heap[q]? = some (.cells (cellsM p (St.new code N inp) cv (.slice (some ⟨g, 0, none⟩) N N) iv (.slice none 0 0)).toArray (typeM p) (0, 0)))
    (hg : w'.heap[g]? = some (.cells (zeroCells N) 37 (0, 0))) (hc : Rd w' 1 cv code.length (u32s code)) (hin : Rd w' 1 iv inp.length (byt inp)) (hqB : B ≤ q) (hgB : B ≤ g) (hgq : g ≠ q)
    (hcq : ∀ k, cv.ownBlock = some k → 0 < code.length → k ≠ q ∧ k ≠ g) (hiq : ∀ k, iv.ownBlock = some k → 0 < inp.length → k ≠ q ∧ k ≠ g) :
    Mach p w' B q (fun k => k = q ∨ k = g) cv (.slice (some ⟨g, 0, none⟩) N N) iv (.slice none 0 0) (St.new code N inp) := by
  have hml : (St.new code N inp).mem.length = N := by simp [St.new, zeros]
  refine ⟨fit_new hk hkl hi hN, hq, hc, ?_, hin, ?_, .inl rfl, ?_, ?_, ?_, ?_, ?_⟩
  · rw [hml]
    refine ⟨by simp [St.new, u32s, zeros], .inr ⟨g, N, _, rfl, hgB, hg, Nat.le_refl _, by simp only [maxLen]; omega, by simp [zeroCells, madeCells], ?_⟩⟩
    show List.take _ (zeroCells N).toList = u32s (zeros N)
    rw [zeroCells_list, List.take_of_length_le (by simp [u32s, zeros])]
  · exact World.ownsRow_nil _ _ _ _
  · intro k hk
    have : k = g := by simpa [Value.ownBlock] using hk.symm
    subst this; exact ⟨.inr rfl, hgq⟩
  · intro k hk; simp [Value.ownBlock] at hk
  · rintro k (rfl | rfl)
    · exact ⟨hqB, (Array.getElem?_eq_some_iff.1 hq).1⟩
    · exact ⟨hgB, (Array.getElem?_eq_some_iff.1 hg).1⟩
  · intro k hk hn; have := hcq k hk hn; rintro (h | h)
    · exact this.1 h
    · exact this.2 h
  · intro k hk hn; have := hiq k hk hn; rintro (h | h)
    · exact this.1 h
    · exact this.2 h
def NewPost (p : Bool) (w : World) (code : List Int) (N : Nat) (inp : List Int) (cb ib : Nat → Prop) (e : Ending) (w' : World) : Prop :=
  ∃ q F cv mv iv, e = .returned (.pointer (some ⟨q, 0, none⟩)) ∧ Mach p w' w.heap.size q F cv mv iv (.slice none 0 0) (St.new code N inp) ∧ (∀ k, cv.ownBlock = some k → 0 < code.length → cb k) ∧ (∀ k, iv.ownBlock = some k → 0 < inp.length → ib k) ∧ Below w.heap.size w w'
theorem rd_block {w : World} {size n : Nat} {v : Value} {cs : List Value} (h : Rd w size v n cs) (hs : 0 < size) (hn : 0 < n) {k : Nat} (hk : v.ownBlock = some k) : k < w.heap.size := by
  obtain ⟨hl, a, cap, rfl, _, _, _, h4⟩ := h
  obtain ⟨b, off, rfl, hc⟩ := h4 hn
  have e : b = k := by simpa [Value.ownBlock] using hk
  subst e
  have hlen : 0 < cs.length := by rw [hl]; exact Nat.mul_pos hn hs
  exact World.block_lt_of_cell? w ⟨b, off + 0, none⟩ (hc 0 _ (List.getElem?_eq_getElem hlen))
set_option maxHeartbeats 1600000 in
theorem rnew_any (w : World) (cv iv : Value) (n : Int) (N : Nat) (code inp : List Int) (hk : ∀ x ∈ code, W32 x) (hkl : code.length ≤ 1000) (hi : ∀ x ∈ inp, Byte x) (h : n = N ∨ (n < 0 ∧ N = 0)) (hN : N ≤ 1048576)
    (hc : Rd w 1 cv code.length (u32s code)) (hin : Rd w 1 iv inp.length (byt inp)) :
    Calls Try.prog 24 #[cv, .int .i64 n, iv] w (NewPost false w code N inp (fun k => cv.ownBlock = some k) (fun k => iv.ownBlock = some k)) := by
  have hw := fun W => wordsf_any n N h hN W
  have hm := fun W => make_eq N hN W
  have hcb := fun k (hk : cv.ownBlock = some k) (hn : 0 < code.length) => rd_block hc (by decide) hn hk
  have hib := fun k (hk : iv.ownBlock = some k) (hn : 0 < inp.length) => rd_block hin (by decide) hn hk
  obtain ⟨ca, cc, rfl, _, _, _⟩ := rd_shape hc
  obtain ⟨ia, ic, rfl, _, _, _⟩ := rd_shape hin
  have HW := Lib.hid hw
  have HC := Lib.hid hc
  have HI := Lib.hid hin
  have HCB := Lib.hid hcb
  have HIB := Lib.hid hib
  have hz : N = (zeroCells N).size := by simp [zeroCells, madeCells]
  have HZ := Lib.hid hz
  have HB := Lib.hid (show ∀ O : Obj, Below w.heap.size w ((w.alloc (.cells (zeroCells N) 37)).alloc O) from fun O => (((Below.refl w.heap.size w).alloc (Nat.le_refl _) _).alloc (by simp) O))
  clear h hw hc hin hcb hib hz
  go_enter Try.func24, Try.ntmps24
  go_wp2_with (go_at_call 38; refine (HW.out _).mono ?_; rintro e w' ⟨rfl, rfl⟩)
  go_ret
  refine ⟨w.heap.size + 1, _, _, _, _, rfl, mach_new (p := false) (g := w.heap.size) hk hkl hi hN ?_ ?_ (HC.out.below (HB.out _) (Nat.le_refl _)) (HI.out.below (HB.out _) (Nat.le_refl _)) (by omega) (Nat.le_refl _) (by omega) (fun k h hn => ?_) (fun k h hn => ?_), fun k h _ => h, fun k h _ => h, HB.out _⟩
  · have h := heap_alloc_new (w.alloc (.cells (zeroCells N) 37)) (.cells (cellsM false (St.new code N inp) (.slice ca code.length cc) (.slice (some ⟨w.heap.size, 0, none⟩) N N) (.slice ia inp.length ic) (.slice none 0 0)).toArray (typeM false) (0, 0))
    rw [World.size_alloc] at h
    exact h
  · exact blk_alloc (heap_alloc_new w _) _
  · have := HCB.out k h hn; omega
  · have := HIB.out k h hn; omega

theorem new_core {w X : World} {v1 v2 : Value} {g N : Nat} {code inp : List Int} (hk : ∀ x ∈ code, W32 x) (hkl : code.length ≤ 1000) (hi : ∀ x ∈ inp, Byte x) (hN : N ≤ 1048576)
    (hg : X.heap[g]? = some (.cells (zeroCells N) 37 (0, 0))) (h1 : Rd X 1 v1 code.length (u32s code)) (h2 : Rd X 1 v2 inp.length (byt inp)) (hb : Below w.heap.size w X) (hgB : w.heap.size ≤ g)
    (k1 : ∀ k, v1.ownBlock = some k → w.heap.size ≤ k ∧ k < X.heap.size ∧ k ≠ g) (k2 : ∀ k, v2.ownBlock = some k → w.heap.size ≤ k ∧ k < X.heap.size ∧ k ≠ g) :
    NewPost true w code N inp (fun k => w.heap.size ≤ k) (fun k => w.heap.size ≤ k) (.returned (.pointer (some ⟨X.heap.size, 0, none⟩)))
      (X.alloc (.cells (cellsM true (St.new code N inp) v1 (.slice (some ⟨g, 0, none⟩) N N) v2 (.slice none 0 0)).toArray (typeM true) (0, 0))) := by
  have hgl := (Array.getElem?_eq_some_iff.1 hg).1
  have hA : ∀ O : Obj, Below X.heap.size X (X.alloc O) := fun O => (Below.refl _ _).alloc (Nat.le_refl _) O
  refine ⟨X.heap.size, _, _, _, _, rfl, mach_new (p := true) (g := g) hk hkl hi hN (heap_alloc_new X _) (blk_alloc hg _) (h1.below (hA _) (Nat.le_refl _)) (h2.below (hA _) (Nat.le_refl _)) hb.size hgB (by omega) (fun k h _ => ?_) (fun k h _ => ?_), fun k h _ => (k1 k h).1, fun k h _ => (k2 k h).1, hb.alloc hb.size _⟩
  · have := k1 k h; omega
  · have := k2 k h; omega
section
variable {w X w1 w2 : World} {v1 v2 : Value} {N : Nat} {code inp : List Int}
def pbox (code : List Int) (N : Nat) (inp : List Int) (v1 v2 : Value) (g : Nat) : Obj := .cells (cellsM true (St.new code N inp) v1 (.slice (some ⟨g, 0, none⟩) N N) v2 (.slice none 0 0)).toArray (typeM true) (0, 0)
theorem fin_a (hk : ∀ x ∈ code, W32 x) (hkl : code.length ≤ 1000) (hi : ∀ x ∈ inp, Byte x) (hN : N ≤ 1048576) (hX : Below w.heap.size w X) (ho1 : w1.ownsRow X.heap.size 37 1 v1 code.length (u32s code)) (b1 : Below X.heap.size X w1)
    (ho2 : w2.ownsRow (w1.alloc (.cells (zeroCells N) 37)).heap.size 5 1 v2 inp.length (byt inp)) (b2 : Below (w1.alloc (.cells (zeroCells N) 37)).heap.size (w1.alloc (.cells (zeroCells N) 37)) w2) :
    NewPost true w code N inp (fun k => w.heap.size ≤ k) (fun k => w.heap.size ≤ k) (.returned (.pointer (some ⟨w2.heap.size, 0, none⟩))) (w2.alloc (pbox code N inp v1 v2 w1.heap.size)) := by
  have hs1 := b1.size
  have hs0 := hX.size
  have hs2 := b2.size
  rw [World.size_alloc] at hs2 ho2
  have hb1 : Below w.heap.size w w1 := hX.trans (b1.mono hs0)
  have hb2 : Below w1.heap.size w1 w2 := ((Below.refl _ _).alloc (Nat.le_refl _) _).trans (b2.mono (by simp))
  refine new_core hk hkl hi hN ?_ ((rd_of_owns ho1).below hb2 (Nat.le_refl _)) (rd_of_owns ho2) (hb1.trans (hb2.mono hb1.size)) hb1.size (fun k h => ?_) (fun k h => ?_)
  · rw [b2.block _ (by simp)]; exact heap_alloc_new _ _
  · have := ho1.lt k h; omega
  · have := ho2.lt k h; omega
theorem fin_b (hk : ∀ x ∈ code, W32 x) (hkl : code.length ≤ 1000) (hi : ∀ x ∈ inp, Byte x) (hN : N ≤ 1048576) (hX : Below w.heap.size w X) (ho1 : w1.ownsRow X.heap.size 37 1 v1 code.length (u32s code)) (b1 : Below X.heap.size X w1)
    (ho2 : w2.ownsRow w1.heap.size 5 1 v2 inp.length (byt inp)) (b2 : Below w1.heap.size w1 w2) :
    NewPost true w code N inp (fun k => w.heap.size ≤ k) (fun k => w.heap.size ≤ k) (.returned (.pointer (some ⟨w2.heap.size + 1, 0, none⟩))) ((w2.alloc (.cells (zeroCells N) 37)).alloc (pbox code N inp v1 v2 w2.heap.size)) := by
  have hs1 := b1.size
  have hs0 := hX.size
  have hs2 := b2.size
  have hA : ∀ O : Obj, Below w2.heap.size w2 (w2.alloc O) := fun O => (Below.refl _ _).alloc (Nat.le_refl _) O
  have hb1 : Below w.heap.size w w1 := hX.trans (b1.mono hs0)
  have hb2 : Below w.heap.size w w2 := hb1.trans (b2.mono hb1.size)
  have hc := new_core (w := w) (X := w2.alloc (.cells (zeroCells N) 37)) (v1 := v1) (v2 := v2) (g := w2.heap.size) hk hkl hi hN (heap_alloc_new _ _) (((rd_of_owns ho1).below b2 (Nat.le_refl _)).below (hA _) (Nat.le_refl _)) ((rd_of_owns ho2).below (hA _) (Nat.le_refl _)) (hb2.alloc hb2.size _) hb2.size (fun k h => by have := ho1.lt k h; simp; omega) (fun k h => by have := ho2.lt k h; simp; omega)
  rw [World.size_alloc] at hc
  exact hc
theorem fin_e (hk : ∀ x ∈ code, W32 x) (hkl : code.length ≤ 1000) (hi : ∀ x ∈ inp, Byte x) (hN : N ≤ 1048576) (hX : Below w.heap.size w X) (ho1 : w1.ownsRow (X.alloc (.cells (zeroCells N) 37)).heap.size 37 1 v1 code.length (u32s code)) (b1 : Below (X.alloc (.cells (zeroCells N) 37)).heap.size (X.alloc (.cells (zeroCells N) 37)) w1)
    (ho2 : w2.ownsRow w1.heap.size 5 1 v2 inp.length (byt inp)) (b2 : Below w1.heap.size w1 w2) :
    NewPost true w code N inp (fun k => w.heap.size ≤ k) (fun k => w.heap.size ≤ k) (.returned (.pointer (some ⟨w2.heap.size, 0, none⟩))) (w2.alloc (pbox code N inp v1 v2 X.heap.size)) := by
  have hs1 := b1.size
  have hs0 := hX.size
  have hs2 := b2.size
  rw [World.size_alloc] at hs1 ho1
  have hb1 : Below w.heap.size w w1 := (hX.alloc hs0 _).trans (b1.mono (by simp; omega))
  have hb2 : Below w.heap.size w w2 := hb1.trans (b2.mono hb1.size)
  refine new_core hk hkl hi hN ?_ ((rd_of_owns ho1).below b2 (Nat.le_refl _)) (rd_of_owns ho2) hb2 hs0 (fun k h => ?_) (fun k h => ?_)
  · rw [b2.block _ (by omega), b1.block _ (by simp)]; exact heap_alloc_new _ _
  · have := ho1.lt k h; omega
  · have := ho2.lt k h; omega
theorem fin_e' (hk : ∀ x ∈ code, W32 x) (hkl : code.length ≤ 1000) (hi : ∀ x ∈ inp, Byte x) (hN : N ≤ 1048576) (ho1 : w1.ownsRow (w.alloc (.cells (zeroCells N) 37)).drew.heap.size 37 1 v1 code.length (u32s code)) (b1 : Below (w.alloc (.cells (zeroCells N) 37)).drew.heap.size (w.alloc (.cells (zeroCells N) 37)).drew w1)
    (ho2 : w2.ownsRow w1.heap.size 5 1 v2 inp.length (byt inp)) (b2 : Below w1.heap.size w1 w2) :
    NewPost true w code N inp (fun k => w.heap.size ≤ k) (fun k => w.heap.size ≤ k) (.returned (.pointer (some ⟨w2.heap.size, 0, none⟩))) (w2.alloc (pbox code N inp v1 v2 w.heap.size)) :=
  fin_e (X := w) hk hkl hi hN (Below.refl _ _) ho1 ⟨b1.os, b1.tape, b1.output, b1.size, b1.block⟩ ho2 b2
end
theorem bl_1 (w : World) : Below w.heap.size w w.drew := (Below.refl _ _).drew
theorem bl_2 (w : World) (O : Obj) : Below w.heap.size w (w.alloc O).drew := ((Below.refl _ _).alloc (Nat.le_refl _) O).drew
theorem bl_3 {w w1 : World} (b : Below w.drew.heap.size w.drew w1) : Below w.heap.size w w1 := ((Below.refl _ _).drew).trans b
theorem bl_4 {w w1 : World} {O : Obj} (b : Below w.drew.heap.size w.drew w1) : Below w.heap.size w (w1.alloc O) := (bl_3 b).alloc (bl_3 b).size O
theorem bl_5 {w w1 : World} {O : Obj} (b : Below (w.alloc O).drew.heap.size (w.alloc O).drew w1) : Below w.heap.size w w1 := (bl_2 w O).trans (b.mono (bl_2 w O).size)
set_option maxHeartbeats 6400000 in
theorem pnew_n (w : World) (cv iv : Value) (N : Nat) (n : Int) (hn : n = N ∨ (n < 0 ∧ N = 0)) (code inp : List Int) (hk : ∀ x ∈ code, W32 x) (hkl : code.length ≤ 1000) (hi : ∀ x ∈ inp, Byte x) (hil : inp.length ≤ 1000000) (hN : N ≤ 1048576)
    (hc : Rd w 1 cv code.length (u32s code)) (hin : Rd w 1 iv inp.length (byt inp)) :
    Calls Try.prog 13 #[cv, .int .i64 n, iv] w (NewPost true w code N inp (fun k => w.heap.size ≤ k) (fun k => w.heap.size ≤ k)) := by
  have hm := fun W => make_eq N hN W
  obtain ⟨ca, cc, rfl, _, _, _⟩ := rd_shape hc
  obtain ⟨ia, ic, rfl, _, _, _⟩ := rd_shape hin
  have HC := Lib.hid hc
  have HI := Lib.hid hin
  clear hc hin
  rcases hn with rfl | ⟨hn0, rfl⟩
  · have h1 : ¬ (N : Int) < 0 := by omega
    have h2 : ¬ 1048576 < (N : Int) := by omega
    go_enter Try.func13, Try.ntmps13
    go_wp2_with fail
    go_region_held3 (fun _ => True) (trivial) ((first
      | (go_at_call 29; refine ownRet_mono (cloneU_any _ _ _ code (HC.out.below (by with_reducible first | exact bl_1 w | exact bl_2 w _) (Nat.le_refl _)) (by omega)) _ ?_; intro v1 w1 ho1 b1; obtain ⟨a1, c1, rfl, _, _, _⟩ := owns_shape ho1)
      | (go_at_call 30; refine ownRet_mono (cloneB_any _ _ _ inp (HI.out.below (by with_reducible first | exact bl_3 b1 | exact bl_4 b1 | exact bl_5 b1) (Nat.le_refl _)) (by omega)) _ ?_; intro v2 w2 ho2 b2; obtain ⟨a2, c2, rfl, _, _, _⟩ := owns_shape ho2)))
    all_goals (go_wp2_with fail)
    all_goals go_ret
    all_goals first
      | exact fin_a hk hkl hi hN (bl_1 w) ho1 b1 ho2 b2
      | exact fin_b hk hkl hi hN (bl_1 w) ho1 b1 ho2 b2
      | exact fin_e' hk hkl hi hN ho1 b1 ho2 b2
  · simp only [Int.ofNat_zero] at hm
    have hm' : ∀ W : World, (Instr.makeSlice 24 (.int .i64 0) (.int .i64 0)).run Try.prog W = .ok (.slice (some ⟨W.heap.size, 0, none⟩) 0 0) (W.alloc (.cells (zeroCells 0) 37)) := fun W => make_eq 0 (by omega) W
    clear hm
    go_enter Try.func13, Try.ntmps13
    go_wp2_with fail
    go_region_held3 (fun _ => True) (trivial) ((first
      | (go_at_call 29; refine ownRet_mono (cloneU_any _ _ _ code (HC.out.below (by with_reducible first | exact bl_1 w | exact bl_2 w _) (Nat.le_refl _)) (by omega)) _ ?_; intro v1 w1 ho1 b1; obtain ⟨a1, c1, rfl, _, _, _⟩ := owns_shape ho1)
      | (go_at_call 30; refine ownRet_mono (cloneB_any _ _ _ inp (HI.out.below (by with_reducible first | exact bl_3 b1 | exact bl_4 b1 | exact bl_5 b1) (Nat.le_refl _)) (by omega)) _ ?_; intro v2 w2 ho2 b2; obtain ⟨a2, c2, rfl, _, _, _⟩ := owns_shape ho2)))
    all_goals (go_wp2_with fail)
    all_goals go_ret
    all_goals first
      | exact fin_a hk hkl hi hN (bl_1 w) ho1 b1 ho2 b2
      | exact fin_b hk hkl hi hN (bl_1 w) ho1 b1 ho2 b2
      | exact fin_e' hk hkl hi hN ho1 b1 ho2 b2
end Go.Proofs.Ytflinbfobadheaa
