/- The machine of layer 6, in plain Lean, and how it lies in memory. -/
import Derived.Test.YtflinbfobadheaaRisc3
import Derived.Test.YtflinbfobadheaaMem2
import Derived.Laws.OwnMore
namespace Go.Proofs.Ytflinbfobadheaa
open Go.RowKit Go.Waf
set_option maxRecDepth 100000
set_option linter.unusedVariables false

structure St where
  code : List Int
  mem : List Int
  inp : List Int
  r : List Int
  h : Int
  n : Bool
  z : Bool
  c : Bool
  v : Bool
  pc : Int
  out : List Int
  fin : Int
  trap : Int

def cut32 (x : Int) : Int := x % 4294967296
def St.rg (s : St) (a : Int) : Int := s.r.getD a.toNat 0
def St.told (s : St) (a x : Int) : St := { s with r := s.r.set a.toNat x, n := decide (2147483648 ≤ x), z := x == 0 }
def St.carry (s : St) (i : Ins) : Int := if i.u && s.c then 1 else 0
def St.second (s : St) (i : Ins) : Int := if i.f = 1 then (if i.v then cut32 (i.imm - 65536) else i.imm) else s.rg i.c
def over (t : Int) : Bool := t != wrap32 t
def opVal (s : St) (i : Ins) (b n : Int) : Option (Int × St) :=
  if i.op = 0 then some (if i.u then (if i.f = 1 then cut32 (i.imm * 65536) else s.h) else n, s)
  else if i.op = 1 then some (cut32 (wrap32 (wrap32 b * 2 ^ (wrap32 n % 32).toNat)), s)
  else if i.op = 2 then some (cut32 (wrap32 b / 2 ^ (wrap32 n % 32).toNat), s)
  else if i.op = 3 then some (cut32 (ror (wrap32 b) (wrap32 n)), s)
  else if i.op = 4 then some (bits .and .u32 b n, s)
  else if i.op = 5 then some (bits .andNot .u32 b n, s)
  else if i.op = 6 then some (bits .or .u32 b n, s)
  else if i.op = 7 then some (bits .xor .u32 b n, s)
  else if i.op = 8 then some (cut32 (b + n + s.carry i), { s with c := decide (4294967296 ≤ b + n + s.carry i), v := over (wrap32 b + wrap32 n + s.carry i) })
  else if i.op = 9 then some (cut32 (b - n - s.carry i), { s with c := decide (b < n + s.carry i), v := over (wrap32 b - wrap32 n - s.carry i) })
  else if i.op = 10 then some (cut32 (if i.u then b * n else wrap32 b * wrap32 n), { s with h := cut32 ((if i.u then b * n else wrap32 b * wrap32 n) / 4294967296) })
  else if i.op = 11 then (if 1 ≤ wrap32 n then some (cut32 (wrap32 b / wrap32 n), { s with h := cut32 (wrap32 b % wrap32 n) }) else none)
  else none
def St.operate (s : St) (i : Ins) : Option St := (opVal s i (s.rg i.b) (s.second i)).map fun p => p.2.told i.a p.1
def St.place (s : St) (i : Ins) : Int := cut32 (s.rg i.b + i.imm)
def St.move (s : St) (i : Ins) : Option St :=
  if i.v then none
  else if s.place i = 4294967232 then
    (if i.u then some { s with out := s.out ++ [s.rg i.a % 256] } else some ({ s with inp := s.inp.tail }.told i.a (s.inp.headD 0)))
  else if s.place i = 4294967236 ∧ i.u = false then some (s.told i.a (if s.inp = [] then 1 else 0))
  else if s.place i % 4 ≠ 0 ∨ (s.mem.length : Int) ≤ s.place i / 4 then none
  else if i.u then some { s with mem := s.mem.set (s.place i / 4).toNat (s.rg i.a) }
  else some (s.told i.a (s.mem.getD (s.place i / 4).toNat 0))
def St.base (s : St) (a : Int) : Bool :=
  if a % 8 = 0 then s.n else if a % 8 = 1 then s.z else if a % 8 = 2 then s.c else if a % 8 = 3 then s.v
  else if a % 8 = 4 then s.c || s.z else if a % 8 = 5 then s.n != s.v else if a % 8 = 6 then (s.n != s.v) || s.z else true
def St.holds (s : St) (a : Int) : Bool := s.base a == decide (a < 8)
def St.branch (s : St) (i : Ins) : Option (Int × St) :=
  if s.holds i.a = false then some (s.pc + 1, s)
  else if i.u = false ∧ i.v = true ∧ i.c = 12 then some (s.pc + 1, if i.imm = 0 then { s with fin := 1 } else { s with fin := 2, trap := i.imm })
  else if (if i.u then s.pc + 1 + i.imm else s.rg i.c) < 0 ∨ 1048576 < (if i.u then s.pc + 1 + i.imm else s.rg i.c) then none
  else some (if i.u then s.pc + 1 + i.imm else s.rg i.c, if i.v then { s with r := s.r.set 15 (cut32 (s.pc + 1)) } else s)
def St.fault (s : St) : St := { s with fin := 2, trap := 15 }
def St.exec (s : St) (i : Ins) : St :=
  if i.f < 2 then (match s.operate i with | none => s.fault | some s' => { s' with pc := s.pc + 1 })
  else if i.f = 2 then (match s.move i with | none => s.fault | some s' => { s' with pc := s.pc + 1 })
  else (match s.branch i with | none => s.fault | some (t, s') => if s'.fin = 0 then { s' with pc := t } else s')
def St.step1 (s : St) : St :=
  if s.pc < 0 ∨ (s.code.length : Int) ≤ s.pc then s.fault
  else if decOk (s.code.getD s.pc.toNat 0) = false then s.fault
  else s.exec (decI (s.code.getD s.pc.toNat 0))
def St.step (s : St) : St := if s.fin = 0 then s.step1 else s

def W32 (x : Int) : Prop := 0 ≤ x ∧ x < 4294967296
def Byte (x : Int) : Prop := 0 ≤ x ∧ x ≤ 255
structure Fit (s : St) : Prop where
  rl : s.r.length = 16
  r : ∀ x ∈ s.r, W32 x
  ml : s.mem.length ≤ 1048576
  m : ∀ x ∈ s.mem, W32 x
  i : ∀ x ∈ s.inp, Byte x
  o : ∀ x ∈ s.out, Byte x
  k : ∀ x ∈ s.code, W32 x
  kl : s.code.length ≤ 1000
  h : W32 s.h
  p0 : 0 ≤ s.pc
  p1 : s.pc ≤ 1048576

def u32s (l : List Int) : List Value := l.map (Value.int .u32)
theorem u32s_length (l : List Int) : (u32s l).length = l.length := List.length_map ..
theorem u32s_get (xs : List Int) (j : Nat) (h : j < xs.length) : (u32s xs)[j]? = some (.int .u32 (xs.getD j 0)) := by simp [u32s, h]
theorem u32s_set (xs : List Int) (j : Nat) (u : Int) : (u32s xs).set j (.int .u32 u) = u32s (xs.set j u) := by simp [u32s, List.map_set]
def cellsP (s : St) (cv mv iv ov : Value) : List Value := [cv, mv, iv] ++ u32s s.r ++ [.int .u32 s.h, .bool s.n, .bool s.z, .bool s.c, .bool s.v, .int .i64 s.pc, ov, .int .i64 s.fin, .int .i64 s.trap]
def cellsR (s : St) (cv mv iv ov : Value) : List Value := [cv, mv] ++ u32s s.r ++ [.int .u32 s.h, .bool s.n, .bool s.z, .bool s.c, .bool s.v, .int .i64 s.pc, iv, ov, .int .i64 s.fin, .int .i64 s.trap]
def cellsM (p : Bool) (s : St) (cv mv iv ov : Value) : List Value := if p then cellsP s cv mv iv ov else cellsR s cv mv iv ov
def typeM (p : Bool) : TypeId := if p then 67 else 77

/-- A machine at block q; it may write the blocks of F. -/
structure Mach (p : Bool) (w : World) (B q : Nat) (F : Nat → Prop) (cv mv iv ov : Value) (s : St) : Prop where
  fit : Fit s
  blk : w.heap[q]? = some (.cells (cellsM p s cv mv iv ov).toArray (typeM p) (0, 0))
  code : Rd w 1 cv s.code.length (u32s s.code)
  mem : w.ownsRow B 37 1 mv s.mem.length (u32s s.mem)
  inp : Rd w 1 iv s.inp.length (byt s.inp)
  out : w.ownsRow B 5 1 ov s.out.length (byt s.out)
  fq : F q
  fm : ∀ k, mv.ownBlock = some k → F k ∧ k ≠ q
  fo : ∀ k, ov.ownBlock = some k → F k ∧ k ≠ q ∧ mv.ownBlock ≠ some k
  fb : ∀ k, F k → B ≤ k ∧ k < w.heap.size
  fc : ∀ k, cv.ownBlock = some k → 0 < s.code.length → ¬ F k
  fi : ∀ k, iv.ownBlock = some k → 0 < s.inp.length → ¬ F k

section
variable {p : Bool} {w : World} {B q : Nat} {F : Nat → Prop} {cv mv iv ov : Value} {s : St}
theorem Mach.cell (h : Mach p w B q F cv mv iv ov s) (j : Nat) : w.cell? ⟨q, j, none⟩ = (cellsM p s cv mv iv ov)[j]? := by
  rw [cell_of_row w q j _ _ _ h.blk]; simp
theorem Mach.frozen (h : Mach p w B q F cv mv iv ov s) (j : Nat) : w.frozen? ⟨q, j, none⟩ = false := frozen_of_row w q j _ _ h.blk
theorem Rd_keep {w w' : World} {F : Nat → Prop} {size n : Nat} {v : Value} {cs : List Value} (h : Rd w size v n cs) (hf : Fr F w w') (hv : ∀ k, v.ownBlock = some k → 0 < n → ¬ F k) : Rd w' size v n cs := by
  obtain ⟨hl, a, cap, rfl, h1, h2, h3, h4⟩ := h
  refine ⟨hl, a, cap, rfl, h1, h2, h3, fun hn => ?_⟩
  obtain ⟨b, off, rfl, hc⟩ := h4 hn
  refine ⟨b, off, rfl, fun j u hu => ?_⟩
  rw [hf.cell (World.block_lt_of_cell? w _ (hc j u hu)) (hv b rfl hn)]
  exact hc j u hu
/-- What others write leaves a machine as it is. -/
theorem Mach.keep {w' : World} {G : Nat → Prop} (h : Mach p w B q F cv mv iv ov s) (hf : Fr G w w') (h1 : ∀ k, F k → ¬ G k) (h2 : ∀ k, cv.ownBlock = some k → 0 < s.code.length → ¬ G k) (h3 : ∀ k, iv.ownBlock = some k → 0 < s.inp.length → ¬ G k) : Mach p w' B q F cv mv iv ov s := by
  refine ⟨h.fit, ?_, Rd_keep h.code hf h2, hf.owns h.mem fun k hk => h1 k (h.fm k hk).1, Rd_keep h.inp hf h3, hf.owns h.out fun k hk => h1 k (h.fo k hk).1, h.fq, h.fm, h.fo, fun k hk => ⟨(h.fb k hk).1, Nat.lt_of_lt_of_le (h.fb k hk).2 hf.size⟩, h.fc, h.fi⟩
  rw [hf.block q (Array.getElem?_eq_some_iff.1 h.blk).1 (h1 q h.fq)]; exact h.blk
theorem Mach.below {w' : World} (h : Mach p w B q F cv mv iv ov s) (hb : Below w.heap.size w w') : Mach p w' B q F cv mv iv ov s :=
  h.keep (G := fun _ => False) (Fr.of_new hb) (fun _ _ h => h) (fun _ _ _ h => h) (fun _ _ _ h => h)
theorem Mach.alloc (h : Mach p w B q F cv mv iv ov s) (o : Obj) : Mach p (w.alloc o) B q F cv mv iv ov s := h.below ((Below.refl _ _).alloc (Nat.le_refl _) _)
theorem Mach.drewN (h : Mach p w B q F cv mv iv ov s) (n : Nat) : Mach p (w.drewN n) B q F cv mv iv ov s := ⟨h.fit, h.blk, h.code, h.mem, h.inp, h.out, h.fq, h.fm, h.fo, h.fb, h.fc, h.fi⟩
/-- A cell of the machine's own block is written: no slice. -/
theorem Mach.put (h : Mach p w B q F cv mv iv ov s) (j : Nat) (u : Value) (s' : St) (hfit : Fit s') (e1 : s'.code = s.code) (e2 : s'.mem = s.mem) (e3 : s'.inp = s.inp) (e4 : s'.out = s.out)
    (hc : (cellsM p s cv mv iv ov).set j u = cellsM p s' cv mv iv ov) : Mach p (w.setCell ⟨q, j, none⟩ u) B q F cv mv iv ov s' := by
  have hf : Fr (fun k => k = q) w (w.setCell ⟨q, j, none⟩ u) := (Fr.refl (fun k => k = q) w).setCell (p := ⟨q, j, none⟩) (.inr rfl) u
  refine ⟨hfit, ?_, ?_, ?_, ?_, ?_, h.fq, h.fm, h.fo, fun k hk => ⟨(h.fb k hk).1, Nat.lt_of_lt_of_le (h.fb k hk).2 hf.size⟩, by rw [e1]; exact h.fc, by rw [e3]; exact h.fi⟩
  · rw [heap_setCell_same w q j _ _ _ h.blk, ← hc]; simp
  · rw [e1]; exact Rd_keep h.code hf fun k hk hn e => h.fc k hk hn (by rw [e]; exact h.fq)
  · rw [e2]; exact hf.owns h.mem fun k hk e => (h.fm k hk).2 e
  · rw [e3]; exact Rd_keep h.inp hf fun k hk hn e => h.fi k hk hn (by rw [e]; exact h.fq)
  · rw [e4]; exact hf.owns h.out fun k hk e => (h.fo k hk).2.1 e
theorem Mach.fr (h : Mach p w B q F cv mv iv ov s) (j : Nat) (u : Value) : Fr F w (w.setCell ⟨q, j, none⟩ u) := (Fr.refl F w).setCell (p := ⟨q, j, none⟩) (.inr h.fq) u
end
theorem getP_cv (s : St) (cv mv iv ov : Value) (hr : s.r.length = 16) : (cellsP s cv mv iv ov)[0]? = some (cv) := by simp [cellsP, u32s_length, hr]
theorem getP_mv (s : St) (cv mv iv ov : Value) (hr : s.r.length = 16) : (cellsP s cv mv iv ov)[1]? = some (mv) := by simp [cellsP, u32s_length, hr]
theorem getP_iv (s : St) (cv mv iv ov : Value) (hr : s.r.length = 16) : (cellsP s cv mv iv ov)[2]? = some (iv) := by simp [cellsP, u32s_length, hr]
theorem getP_h (s : St) (cv mv iv ov : Value) (hr : s.r.length = 16) : (cellsP s cv mv iv ov)[19]? = some (.int .u32 s.h) := by simp [cellsP, u32s_length, hr]
theorem getP_n (s : St) (cv mv iv ov : Value) (hr : s.r.length = 16) : (cellsP s cv mv iv ov)[20]? = some (.bool s.n) := by simp [cellsP, u32s_length, hr]
theorem getP_z (s : St) (cv mv iv ov : Value) (hr : s.r.length = 16) : (cellsP s cv mv iv ov)[21]? = some (.bool s.z) := by simp [cellsP, u32s_length, hr]
theorem getP_c (s : St) (cv mv iv ov : Value) (hr : s.r.length = 16) : (cellsP s cv mv iv ov)[22]? = some (.bool s.c) := by simp [cellsP, u32s_length, hr]
theorem getP_v (s : St) (cv mv iv ov : Value) (hr : s.r.length = 16) : (cellsP s cv mv iv ov)[23]? = some (.bool s.v) := by simp [cellsP, u32s_length, hr]
theorem getP_pc (s : St) (cv mv iv ov : Value) (hr : s.r.length = 16) : (cellsP s cv mv iv ov)[24]? = some (.int .i64 s.pc) := by simp [cellsP, u32s_length, hr]
theorem getP_ov (s : St) (cv mv iv ov : Value) (hr : s.r.length = 16) : (cellsP s cv mv iv ov)[25]? = some (ov) := by simp [cellsP, u32s_length, hr]
theorem getP_fin (s : St) (cv mv iv ov : Value) (hr : s.r.length = 16) : (cellsP s cv mv iv ov)[26]? = some (.int .i64 s.fin) := by simp [cellsP, u32s_length, hr]
theorem getP_trap (s : St) (cv mv iv ov : Value) (hr : s.r.length = 16) : (cellsP s cv mv iv ov)[27]? = some (.int .i64 s.trap) := by simp [cellsP, u32s_length, hr]
theorem getP_r (s : St) (cv mv iv ov : Value) (hr : s.r.length = 16) (a : Nat) (ha : a < 16) : (cellsP s cv mv iv ov)[3 + a]? = some (.int .u32 (s.r.getD a 0)) := by
  have e : cellsP s cv mv iv ov = [cv, mv, iv] ++ (u32s s.r ++ (cellsP s cv mv iv ov).drop 19) := by simp [cellsP, u32s_length, hr]
  rw [e, List.getElem?_append_right (by simp), List.getElem?_append_left (by simp [u32s_length, hr]; omega), show 3 + a - [cv, mv, iv].length = a by simp, u32s_get _ _ (by omega)]
theorem setP_h (s : St) (cv mv iv ov : Value) (hr : s.r.length = 16) (x : Int) : (cellsP s cv mv iv ov).set 19 (.int .u32 x) = cellsP { s with h := x } cv mv iv ov := by simp [cellsP, u32s_length, hr]
theorem setP_n (s : St) (cv mv iv ov : Value) (hr : s.r.length = 16) (x : Bool) : (cellsP s cv mv iv ov).set 20 (.bool x) = cellsP { s with n := x } cv mv iv ov := by simp [cellsP, u32s_length, hr]
theorem setP_z (s : St) (cv mv iv ov : Value) (hr : s.r.length = 16) (x : Bool) : (cellsP s cv mv iv ov).set 21 (.bool x) = cellsP { s with z := x } cv mv iv ov := by simp [cellsP, u32s_length, hr]
theorem setP_c (s : St) (cv mv iv ov : Value) (hr : s.r.length = 16) (x : Bool) : (cellsP s cv mv iv ov).set 22 (.bool x) = cellsP { s with c := x } cv mv iv ov := by simp [cellsP, u32s_length, hr]
theorem setP_v (s : St) (cv mv iv ov : Value) (hr : s.r.length = 16) (x : Bool) : (cellsP s cv mv iv ov).set 23 (.bool x) = cellsP { s with v := x } cv mv iv ov := by simp [cellsP, u32s_length, hr]
theorem setP_pc (s : St) (cv mv iv ov : Value) (hr : s.r.length = 16) (x : Int) : (cellsP s cv mv iv ov).set 24 (.int .i64 x) = cellsP { s with pc := x } cv mv iv ov := by simp [cellsP, u32s_length, hr]
theorem setP_fin (s : St) (cv mv iv ov : Value) (hr : s.r.length = 16) (x : Int) : (cellsP s cv mv iv ov).set 26 (.int .i64 x) = cellsP { s with fin := x } cv mv iv ov := by simp [cellsP, u32s_length, hr]
theorem setP_trap (s : St) (cv mv iv ov : Value) (hr : s.r.length = 16) (x : Int) : (cellsP s cv mv iv ov).set 27 (.int .i64 x) = cellsP { s with trap := x } cv mv iv ov := by simp [cellsP, u32s_length, hr]
theorem setP_iv (s : St) (cv mv iv ov x : Value) (hr : s.r.length = 16) : (cellsP s cv mv iv ov).set 2 x = cellsP s cv mv x ov := by simp [cellsP]
theorem setP_ov (s : St) (cv mv iv ov x : Value) (hr : s.r.length = 16) : (cellsP s cv mv iv ov).set 25 x = cellsP s cv mv iv x := by simp [cellsP, u32s_length, hr]
theorem setP_r (s : St) (cv mv iv ov : Value) (hr : s.r.length = 16) (a : Nat) (ha : a < 16) (x : Int) : (cellsP s cv mv iv ov).set (3 + a) (.int .u32 x) = cellsP { s with r := s.r.set a x } cv mv iv ov := by
  unfold cellsP
  rw [List.append_assoc, List.set_append_right _ _ (by simp), show 3 + a - [cv, mv, iv].length = a by simp, List.set_append_left _ _ (by simp [u32s_length, hr]; omega), u32s_set, ← List.append_assoc]
theorem getR_cv (s : St) (cv mv iv ov : Value) (hr : s.r.length = 16) : (cellsR s cv mv iv ov)[0]? = some (cv) := by simp [cellsR, u32s_length, hr]
theorem getR_mv (s : St) (cv mv iv ov : Value) (hr : s.r.length = 16) : (cellsR s cv mv iv ov)[1]? = some (mv) := by simp [cellsR, u32s_length, hr]
theorem getR_h (s : St) (cv mv iv ov : Value) (hr : s.r.length = 16) : (cellsR s cv mv iv ov)[18]? = some (.int .u32 s.h) := by simp [cellsR, u32s_length, hr]
theorem getR_n (s : St) (cv mv iv ov : Value) (hr : s.r.length = 16) : (cellsR s cv mv iv ov)[19]? = some (.bool s.n) := by simp [cellsR, u32s_length, hr]
theorem getR_z (s : St) (cv mv iv ov : Value) (hr : s.r.length = 16) : (cellsR s cv mv iv ov)[20]? = some (.bool s.z) := by simp [cellsR, u32s_length, hr]
theorem getR_c (s : St) (cv mv iv ov : Value) (hr : s.r.length = 16) : (cellsR s cv mv iv ov)[21]? = some (.bool s.c) := by simp [cellsR, u32s_length, hr]
theorem getR_v (s : St) (cv mv iv ov : Value) (hr : s.r.length = 16) : (cellsR s cv mv iv ov)[22]? = some (.bool s.v) := by simp [cellsR, u32s_length, hr]
theorem getR_pc (s : St) (cv mv iv ov : Value) (hr : s.r.length = 16) : (cellsR s cv mv iv ov)[23]? = some (.int .i64 s.pc) := by simp [cellsR, u32s_length, hr]
theorem getR_iv (s : St) (cv mv iv ov : Value) (hr : s.r.length = 16) : (cellsR s cv mv iv ov)[24]? = some (iv) := by simp [cellsR, u32s_length, hr]
theorem getR_ov (s : St) (cv mv iv ov : Value) (hr : s.r.length = 16) : (cellsR s cv mv iv ov)[25]? = some (ov) := by simp [cellsR, u32s_length, hr]
theorem getR_fin (s : St) (cv mv iv ov : Value) (hr : s.r.length = 16) : (cellsR s cv mv iv ov)[26]? = some (.int .i64 s.fin) := by simp [cellsR, u32s_length, hr]
theorem getR_trap (s : St) (cv mv iv ov : Value) (hr : s.r.length = 16) : (cellsR s cv mv iv ov)[27]? = some (.int .i64 s.trap) := by simp [cellsR, u32s_length, hr]
theorem getR_r (s : St) (cv mv iv ov : Value) (hr : s.r.length = 16) (a : Nat) (ha : a < 16) : (cellsR s cv mv iv ov)[2 + a]? = some (.int .u32 (s.r.getD a 0)) := by
  have e : cellsR s cv mv iv ov = [cv, mv] ++ (u32s s.r ++ (cellsR s cv mv iv ov).drop 18) := by simp [cellsR, u32s_length, hr]
  rw [e, List.getElem?_append_right (by simp), List.getElem?_append_left (by simp [u32s_length, hr]; omega), show 2 + a - [cv, mv].length = a by simp, u32s_get _ _ (by omega)]
theorem setR_h (s : St) (cv mv iv ov : Value) (hr : s.r.length = 16) (x : Int) : (cellsR s cv mv iv ov).set 18 (.int .u32 x) = cellsR { s with h := x } cv mv iv ov := by simp [cellsR, u32s_length, hr]
theorem setR_n (s : St) (cv mv iv ov : Value) (hr : s.r.length = 16) (x : Bool) : (cellsR s cv mv iv ov).set 19 (.bool x) = cellsR { s with n := x } cv mv iv ov := by simp [cellsR, u32s_length, hr]
theorem setR_z (s : St) (cv mv iv ov : Value) (hr : s.r.length = 16) (x : Bool) : (cellsR s cv mv iv ov).set 20 (.bool x) = cellsR { s with z := x } cv mv iv ov := by simp [cellsR, u32s_length, hr]
theorem setR_c (s : St) (cv mv iv ov : Value) (hr : s.r.length = 16) (x : Bool) : (cellsR s cv mv iv ov).set 21 (.bool x) = cellsR { s with c := x } cv mv iv ov := by simp [cellsR, u32s_length, hr]
theorem setR_v (s : St) (cv mv iv ov : Value) (hr : s.r.length = 16) (x : Bool) : (cellsR s cv mv iv ov).set 22 (.bool x) = cellsR { s with v := x } cv mv iv ov := by simp [cellsR, u32s_length, hr]
theorem setR_pc (s : St) (cv mv iv ov : Value) (hr : s.r.length = 16) (x : Int) : (cellsR s cv mv iv ov).set 23 (.int .i64 x) = cellsR { s with pc := x } cv mv iv ov := by simp [cellsR, u32s_length, hr]
theorem setR_fin (s : St) (cv mv iv ov : Value) (hr : s.r.length = 16) (x : Int) : (cellsR s cv mv iv ov).set 26 (.int .i64 x) = cellsR { s with fin := x } cv mv iv ov := by simp [cellsR, u32s_length, hr]
theorem setR_trap (s : St) (cv mv iv ov : Value) (hr : s.r.length = 16) (x : Int) : (cellsR s cv mv iv ov).set 27 (.int .i64 x) = cellsR { s with trap := x } cv mv iv ov := by simp [cellsR, u32s_length, hr]
theorem setR_iv (s : St) (cv mv iv ov x : Value) (hr : s.r.length = 16) : (cellsR s cv mv iv ov).set 24 x = cellsR s cv mv x ov := by simp [cellsR, u32s_length, hr]
theorem setR_ov (s : St) (cv mv iv ov x : Value) (hr : s.r.length = 16) : (cellsR s cv mv iv ov).set 25 x = cellsR s cv mv iv x := by simp [cellsR, u32s_length, hr]
theorem setR_r (s : St) (cv mv iv ov : Value) (hr : s.r.length = 16) (a : Nat) (ha : a < 16) (x : Int) : (cellsR s cv mv iv ov).set (2 + a) (.int .u32 x) = cellsR { s with r := s.r.set a x } cv mv iv ov := by
  unfold cellsR
  rw [List.append_assoc, List.set_append_right _ _ (by simp), show 2 + a - [cv, mv].length = a by simp, List.set_append_left _ _ (by simp [u32s_length, hr]; omega), u32s_set, ← List.append_assoc]
theorem getD_mem (l : List Int) (a : Nat) (h : a < l.length) : l.getD a 0 ∈ l := by
  rw [List.getD_eq_getElem?_getD, List.getElem?_eq_getElem h]; simp
theorem Fit.rg {s : St} (h : Fit s) (a : Int) (ha : nib a) : W32 (s.rg a) := h.r _ (getD_mem _ _ (by rw [h.rl]; unfold nib at ha; omega))
theorem u32_in (x : Int) : W32 (cut32 x) := by unfold W32 cut32; omega
theorem set_all {P : Int → Prop} {l : List Int} (h : ∀ x ∈ l, P x) (a : Nat) {x : Int} (hx : P x) : ∀ y ∈ l.set a x, P y := fun y hy => by
  rcases List.mem_or_eq_of_mem_set hy with h1 | h1
  · exact h y h1
  · rw [h1]; exact hx
theorem Fit.told {s : St} (h : Fit s) (a x : Int) (hx : W32 x) : Fit (s.told a x) :=
  ⟨by simp [St.told, h.rl], set_all h.r _ hx, h.ml, h.m, h.i, h.o, h.k, h.kl, h.h, h.p0, h.p1⟩
theorem Fit.fault {s : St} (h : Fit s) : Fit s.fault := ⟨h.rl, h.r, h.ml, h.m, h.i, h.o, h.k, h.kl, h.h, h.p0, h.p1⟩
end Go.Proofs.Ytflinbfobadheaa
