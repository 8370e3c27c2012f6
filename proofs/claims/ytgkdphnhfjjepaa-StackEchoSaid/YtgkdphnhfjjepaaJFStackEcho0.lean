/- The walks and the plain lemmas of the statement, joined: part 8. No condition. -/
import Derived.Test.YtgkdphnhfjjepaaJStk427
import Derived.Test.YtgkdphnhfjjepaaJStk420

/- The contract of StackEcho. -/
namespace Go.Proofs.Ytgkdphnhfjjepaa
open Go.RowKit Go.Waf
set_option maxRecDepth 100000
set_option linter.unusedVariables false
set_option linter.unusedSimpArgs false

def ecode : List (Int × Int) := [(32, 0), (26, 3), (0, 0), (31, 0), (33, 0), (25, 0)]
def ech (inp out : List Int) : SSt := ⟨ecode, [], inp, [], 0, 0, [], 0, out, 0, 0⟩
theorem ech_five (x : Int) (t out : List Int) : (ech (x :: t) out).stepN 5 = ech t (out ++ [x % 256]) := by kernel_rfl
theorem ech_end (out : List Int) : ((ech [] out).stepN 3).fin = 1 ∧ ((ech [] out).stepN 3).out = out ∧ ((ech [] out).stepN 3).trap = 0 := ⟨by kernel_rfl, by kernel_rfl, by kernel_rfl⟩
theorem ech_all : ∀ (inp out : List Int), (∀ x ∈ inp, Byt x) → (ech inp out).stepN (5 * inp.length) = ech [] (out ++ inp)
  | [], out, _ => by simp [SSt.stepN]
  | x :: t, out, h => by
    have hx := h x (List.mem_cons_self ..)
    unfold Byt at hx
    have e : 5 * (x :: t).length = 5 + 5 * t.length := by simp; omega
    have e2 : x % 256 = x := Int.emod_eq_of_lt hx.1 (by omega)
    rw [e, SSt.stepN_add, ech_five, e2, ech_all t (out ++ [x]) (fun y hy => h y (List.mem_cons_of_mem _ hy))]
    simp
theorem ecode_ok : CodeOk ecode := by
  intro c hc
  unfold I32
  simp [ecode] at hc
  rcases hc with rfl | rfl | rfl | rfl | rfl | rfl <;> simp
set_option maxHeartbeats 3200000 in
theorem stackEcho_any (a0 : Option Addr) (len0 cap0 : Nat) (z0 : List Int) (w : World) (w0 : RowOf .u8 w a0 len0 cap0 z0) :
    Calls Try.prog 5 #[.slice a0 len0 cap0] w fun e w' => e = .returned (.bool true) ∧ Below w.heap.size w w' := by
  obtain ⟨l0, l1⟩ := w0.bounds
  have KN := Lib.hid (fun W => known_any W)
  by_cases hbig : 60 < len0
  · clear w0
    go_enter Try.func5, Try.ntmps5
    go_wp2_with (go_at_call 11; refine (KN.out _).mono ?_; rintro e w1 ⟨rfl, hb1⟩)
    go_ret
    exact ⟨rfl, hb1⟩
  · have ri := w0.rd
    have hi := byt_of_row w0
    have hil := w0.len
    obtain ⟨inp, hinp⟩ : ∃ c, c = z0.take len0 := ⟨_, rfl⟩
    rw [← hinp] at ri hi hil
    have hl0 : len0 ≤ 60 := by omega
    have ri' : Rd w 1 (.slice a0 len0 cap0) inp.length (byt inp) := by rw [hil]; exact ri
    have RI := Lib.hid ri'
    have HI := Lib.hid hi
    have HL := Lib.hid hil
    have hil' : inp.length ≤ 60 := by omega
    have e5 : IntKind.i64.wrap (5 * (len0 : Int)) = 5 * len0 := IntWalk.i64_in _ (by omega)
    have e53 : IntKind.i64.wrap (5 * (len0 : Int) + 3) = 5 * len0 + 3 := IntWalk.i64_in _ (by omega)
    have hfin : (ech inp []).stepN (5 * (len0 : Int) + 3).toNat = (ech [] inp).stepN 3 := by
      rw [show (5 * (len0 : Int) + 3).toNat = 5 * inp.length + 3 by omega, SSt.stepN_add, ech_all inp [] hi]
      simp
    have HFIN := Lib.hid hfin
    clear w0 ri hi hinp ri' hil hfin
    go_enter Try.func5, Try.ntmps5
    go_wp2_with (go_at_call 11; refine (KN.out _).mono ?_; rintro e wc ⟨rfl, hbc⟩)
    have HBC := Lib.hid hbc
    clear hbc
    have hrc : Rd (wc.alloc (.cells #[.int .i64 32, .int .i32 0, .int .i64 26, .int .i32 3, .int .i64 0, .int .i32 0, .int .i64 31, .int .i32 0, .int .i64 33, .int .i32 0, .int .i64 25, .int .i32 0] 25)) 2 (.slice (some ⟨wc.heap.size, 0, none⟩) 6 6) 6 (codeCells ecode) := rd_new wc (codeCells ecode) 25 6 2 rfl (by decide)
    have HBA := Lib.hid (HBC.out.alloc HBC.out.size (.cells #[.int .i64 32, .int .i32 0, .int .i64 26, .int .i32 3, .int .i64 0, .int .i32 0, .int .i64 31, .int .i32 0, .int .i64 33, .int .i32 0, .int .i64 25, .int .i32 0] 25))
    refine (pnew_any _ _ _ 0 0 0 (.inl rfl) ecode inp ecode_ok (by decide) HI.out (by omega) (by omega) hrc (RI.out.below HBA.out (Nat.le_refl _))).mono ?_
    rintro e w5 ⟨q, F, cv, mv, iv, rfl, hM, _, _, hb5⟩
    have HM := Lib.hid (show SM true w5 _ q F cv mv iv (.slice none 0 0) (.slice none 0 0) (.slice none 0 0) (ech inp []) from hM)
    have HB5 := Lib.hid (HBA.out.trans (hb5.mono HBA.out.size))
    clear hM hb5 hrc
    go_wp2_with fail
    refine (prun_any HM.out (5 * (len0 : Int) + 3) (by omega) (by omega) (by simp [ech])).mono ?_
    rintro e w6 ⟨v, he, ho, F', iv', sv', kv', ov', hM6, _, hmv⟩
    rw [HFIN.out] at he ho
    obtain ⟨f1, f2, f3⟩ := ech_end inp
    rw [f1, f3] at he
    rw [f2] at ho
    subst he
    obtain ⟨va, vc, rfl, _, _, _⟩ := owns_shape ho
    have hb6 : Below w.heap.size w w6 := HB5.out.trans (HM.out.fr_below HBA.out.size hmv)
    have HB6 := Lib.hid hb6
    have kc := fun O : Obj => conv_box _ (.slice va inp.length vc) inp ((rd_of_owns ho).below ((Below.refl _ _).alloc (Nat.le_refl _) O) (Nat.le_refl _))
    have ki := fun O : Obj => conv_box _ (.slice a0 len0 cap0) inp (RI.out.below (HB6.out.alloc HB6.out.size O) (Nat.le_refl _))
    clear ho hM6 hmv hb6
    go_wp2_with fail
    go_ret
    exact ⟨rfl, HB6.out.alloc HB6.out.size _⟩
end Go.Proofs.Ytgkdphnhfjjepaa
