/- Need: a region that draws, its slots filled by number; append onto a row of one's own as one of its steps. -/
import Derived.Test.YtmidkomdmnncoaaNd22
namespace Go.Proofs.Ytmidkomdmnncoaa
open Go.RowKit Go.Waf
set_option maxRecDepth 100000
set_option linter.unusedVariables false
set_option linter.unusedSimpArgs false

theorem put_self (a : Act) (d : Nat) : a.put (some d) (a.tmps.getD d undef) = a := by
  unfold Act.put
  simp only
  congr 1
  unfold Array.setIfInBounds
  by_cases hh : d < a.tmps.size
  · rw [dif_pos hh, show a.tmps.getD d undef = a.tmps[d] from by simp [Array.getD, hh]]
    exact Array.set_getElem_self hh
  · rw [dif_neg hh]
/-- Slots filled, one behind the other. -/
def putL : List Nat → Nat → (Nat → Value) → Act → Act
  | [], _, _, a => a
  | d :: ds, k, x, a => putL ds (k + 1) x (a.put (some d) (x k))
theorem putL_self (x : Nat → Value) (a : Act) : ∀ (ds : List Nat) (k : Nat), (∀ i, i < ds.length → x (k + i) = a.tmps.getD (ds.getD i 0) undef) → putL ds k x a = a
  | [], _, _ => rfl
  | d :: ds, k, h => by
    unfold putL
    have h0 : x k = a.tmps.getD d undef := h 0 (by simp)
    rw [h0, put_self]
    exact putL_self x a ds (k + 1) fun i hi => by
      have := h (i + 1) (by simpa using hi)
      rw [show k + 1 + i = k + (i + 1) from by omega]; exact this
section
variable {P : Program} {ops : Array Oper} {Q : Exit → Act → World → Prop}
theorem drawn_slots {N id : Nat} {a : Act} {w : World} {I : Array Bool → World → Prop} {R : Nat → World → World → Prop} (ds : List Nat) (hI : ∀ L j W W', L.size = N + 1 → j < N → L.getD j false = false → I L W → R j W W' → I (L.setIfInBounds j true) W') (h0 : I (Array.replicate (N + 1) false) w.drew) (hm : P.follows .mixedOrders = true) (ψ : Nat → Value → World → Prop) (hz : ops.size = N + 1) (hl : lowOk ops = true) (ha : allWait .any ops N = true)
    (hst : ∀ i j v W W', i ≠ j → ψ i v W → R j W W' → ψ i v W')
    (hstep : ∀ j, j < N → ∀ L x W K, L.getD j false = false → I L W → (∀ p, waits .any ops j p = true → ψ p (x p) W) → (∀ v W', ψ j v W' → R j W W' → K (putL ds 0 (upd x j v) a) W') → wpOp P ops Q j K (putL ds 0 x a) W)
    (hlast : ∀ L x W K, I L W → (∀ p, p < N → ψ p (x p) W) → (∀ a' W', Q .normal a' W' → K a' W') → wpOp P ops Q N K (putL ds 0 x a) W) :
    (Code.region id ops true).wp P Q a w :=
  drawn_ops hI h0 hm (fun x => putL ds 0 x a) (fun i => a.tmps.getD (ds.getD i 0) undef) ψ hz hl ha (putL_self _ a ds 0 fun i hi => by rw [Nat.zero_add]).symm hst hstep hlast
/-- append onto a row of one's own, as one step of a region that draws its order. -/
theorem step_app_own {o : Oper} {a : Act} {w : World} {K : Act → World → Prop} {X : Prop} {t e size bytes : Nat} (E : Elem P t e size bytes) (hgd : o.guard = none) (s x : Operand)
    (ho : o.op = .call { callee := .builtin .append, args := #[s, x], argTypes := #[t, t] })
    (base : Nat) (v : Value) (n : Nat) (xs : List Value) (hs : a.eval s = v) (hown : w.ownsRow base e size v n xs)
    (ad : Addr) (m cap : Nat) (news : List Value) (hx : a.eval x = .slice (some ad) m cap) (hr : Rd w size (.slice (some ad) m cap) m news) (hm : 0 < m) (h1 : ∀ u ∈ news, u.oneCell' = true)
    (h63 : n + m ≤ maxLen) (hbytes : (n + m) * bytes ≤ 140737488355328) (hbase : base ≤ w.heap.size)
    (hK : ∀ v' w', w'.ownsRow base e size v' (n + m) (xs ++ news) → w.grownBy w' v.ownBlock → K (a.put o.dst v') w') :
    if Region.wanted o (yielded ops a.tmps) = true then Oper.wp P o a w K Q else X := by
  have hw : Region.wanted o (yielded ops a.tmps) = true := by simp [Region.wanted, hgd]
  rw [if_pos hw]
  obtain ⟨i, z, hi, hz, hsi, hb, hzs⟩ := E.info
  obtain ⟨hl, ad', cap', e', c1, c2, c3, c4⟩ := hr
  cases e'
  refine wp_append_own w s x t ho base e i z size bytes E.und hi hz hsi hb hzs E.pos v n xs hs hown ad m cap news hx hl ?_ h1 h63 hbytes hbase fun v' w' h2 h3 _ => hK v' w' h2 h3
  intro j u hu
  obtain ⟨b, off, e1, hc⟩ := c4 hm
  cases e1
  rw [Addr.add_lit]; exact hc j u hu
end
theorem elemVar : Elem Try.prog 25 47 6 80 := Elem.mk' (z := .agg #[.string ByteArray.empty, .bool false, .int .i64 0, .int .i64 0, .string ByteArray.empty, .slice none 0 0]) Try.underlying25 (by kernel_rfl) rfl (by decide)
end Go.Proofs.Ytmidkomdmnncoaa
