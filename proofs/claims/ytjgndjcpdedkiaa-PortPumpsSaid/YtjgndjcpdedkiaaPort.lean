/- Contracts of package port: a port, its channel. -/
import Derived.Test.YtjgndjcpdedkiaaChecked
import Derived.Test.YtjgndjcpdedkiaaLib
import Derived.Test.YtjgndjcpdedkiaaMem3
import Derived.Conc.LoneSelect
import Derived.Conc.LoneSelectN
import Derived.KernelRfl
import Derived.Laws.Rows
import Derived.Deep.DeepCutAuto
import Derived.ChangeAlike
import Derived.RegionTactic
import Derived.BigRegion
import Derived.Deep.QuietTactic
import Derived.BigQuiet
namespace Go.Proofs.Ytjgndjcpdedkiaa
open Go.RowKit Go.Waf Go.Conc
set_option maxRecDepth 100000
set_option linter.unusedVariables false

/-- A port at block g, its channel at block h: its room, the bytes in it, whether it is closed. -/
structure PortAt (w : World) (B g h cap : Nat) (q : List Int) (shut : Bool) : Prop where
  blk : w.heap[g]? = some (.cells #[.chan (some h), .bool shut] 74 (0, 0))
  chn : ∃ s r, w.heap[h]? = some (.chan cap (byt q).toArray false s r false)
  base : B ≤ g ∧ B ≤ h
  ne : g ≠ h
  le : q.length ≤ cap
theorem PortAt.fr {F : Nat → Prop} {w w' : World} {B g h cap : Nat} {q : List Int} {shut : Bool} (hp : PortAt w B g h cap q shut) (hf : Fr F w w') (h1 : ¬ F g) (h2 : ¬ F h) : PortAt w' B g h cap q shut := by
  obtain ⟨s, r, hc⟩ := hp.chn
  exact ⟨by rw [hf.block g (Array.getElem?_eq_some_iff.1 hp.blk).1 h1]; exact hp.blk, ⟨s, r, by rw [hf.block h (Array.getElem?_eq_some_iff.1 hc).1 h2]; exact hc⟩, hp.base, hp.ne, hp.le⟩
theorem PortAt.keep {w w' : World} {B g h cap C : Nat} {q : List Int} {shut : Bool} (hp : PortAt w B g h cap q shut) (hb : Below C w w') (hC : w.heap.size ≤ C) : PortAt w' B g h cap q shut :=
  hp.fr (F := fun _ => False) (Fr.of_new (hb.mono hC)) (fun h => h) (fun h => h)
theorem PortAt.lt {w : World} {B g h cap : Nat} {q : List Int} {shut : Bool} (hp : PortAt w B g h cap q shut) : g < w.heap.size ∧ h < w.heap.size := by
  obtain ⟨s, r, hc⟩ := hp.chn
  exact ⟨(Array.getElem?_eq_some_iff.1 hp.blk).1, (Array.getElem?_eq_some_iff.1 hc).1⟩
theorem fr_setChan (w : World) (c cap : Nat) (buf : Array Value) (cl : Bool) (s r : Nat) (tm : Bool) : Fr (fun k => k = c) w (w.setChan c cap buf cl s r tm) :=
  ⟨rfl, rfl, rfl, by rw [size_setChan]; exact Nat.le_refl _, fun k hk hne => by simp only [World.setChan]; rw [Array.getElem?_setIfInBounds_ne (fun e => hne e.symm)]⟩

theorem poffer_shut (w : World) (B g h cap : Nat) (q : List Int) (hp : PortAt w B g h cap q true) (c : Int) :
    Calls Try.prog 21 #[.pointer (some ⟨g, 0, none⟩), .int .u8 c] w fun e w' => e = .returned (.bool false) ∧ w = w' := by
  have c1 : w.cell? ⟨g, 1, none⟩ = some (.bool true) := by rw [cell_of_row w g 1 _ _ _ hp.blk]; rfl
  clear hp
  go_enter Try.func21, Try.ntmps21
  go_wp2_with fail
  go_ret
  exact ⟨rfl, rfl⟩

theorem poffer_room (w : World) (B g h cap : Nat) (q : List Int) (hp : PortAt w B g h cap q false) (c : Int) (hr : q.length < cap) :
    Calls Try.prog 21 #[.pointer (some ⟨g, 0, none⟩), .int .u8 c] w fun e w' => e = .returned (.bool true) ∧ PortAt w' B g h cap (q ++ [c]) false ∧ Fr (fun k => k = h) w w' := by
  have c0 : w.cell? ⟨g, 0, none⟩ = some (.chan (some h)) := by rw [cell_of_row w g 0 _ _ _ hp.blk]; rfl
  have c1 : w.cell? ⟨g, 1, none⟩ = some (.bool false) := by rw [cell_of_row w g 1 _ _ _ hp.blk]; rfl
  obtain ⟨s, r, hc⟩ := hp.chn
  have HP := Lib.hid hp
  have HC := Lib.hid hc
  clear hp hc
  refine calls_of_loneTo fun cs => ?_
  have e : Frame.enter Try.prog 21 #[.pointer (some ⟨g, 0, none⟩), .int .u8 c] .normal = (base 21).at ⟨#[.pointer (some ⟨g, 0, none⟩), .int .u8 c, undef, undef, undef, undef, undef, undef, undef, undef, undef, undef, undef, undef, undef, undef, undef], []⟩ [.code (Try.f21.body.getD .skip)] := by
    simp [Frame.enter, Frame.at, Try.func21, base, Try.f21]
  rw [e]
  refine LoneTo.goes (n := 27) ?_
  simp only [Try.f21, Option.getD_some]
  s_c stepG_seq
  s_reg
  s_op
  s_c stepG_region_end
  s_c stepG_seq
  s_c stepG_seq
  s_reg
  s_op
  s_op
  s_op
  s_op
  s_c stepG_region_end
  s_cond false
  s_c stepG_skip
  s_c stepG_seq
  s_c stepG_seq
  s_reg
  s_op
  s_op
  s_op
  s_op
  s_c stepG_region_end
  s_reg
  s_op
  s_c stepG_region_end
  s_c stepG_seq
  s_reg
  s_stop
  refine LoneTo.step (step_lone_select_send_room (c := h) (cap := cap) (buf := (byt q).toArray) (s := s) (r := r) (tm := false) (stepG_comm (cases := #[scase h (.int .u8 c) (.int .u8 0)]) (blocking := false) (shape := .select) (w' := w) rfl rfl (by decide) (by simp [go_sem, execOp, scase, Act.eval])) HC.out (by simpa [byt] using hr)) ?_
  rw [Frame.finish_at]
  walk_nrm
  refine LoneTo.goes (n := 10) ?_
  s_op
  s_op
  s_c stepG_region_end
  s_c stepG_block
  s_cond true
  s_c stepG_seq
  s_reg
  s_op
  s_c stepG_region_end
  s_c stepG_ret'
  s_stop
  refine LoneTo.done ⟨.returned (.bool true), _, rfl, ⟨rfl, ?_, fr_setChan _ _ _ _ _ _ _ _⟩, rfl, rfl, rfl, rfl, _, Try.func21, by simp [results, Try.f21, Frame.at]⟩
  have hlt := HP.out.lt
  refine ⟨?_, ⟨s + 1, r, ?_⟩, HP.out.base, HP.out.ne, by simp; omega⟩
  · rw [(fr_setChan w h cap _ false (s + 1) r false).block g hlt.1 HP.out.ne]; exact HP.out.blk
  · rw [heap_setChan _ _ _ _ _ _ _ _ hlt.2]; simp [byt]

theorem poffer_full (w : World) (B g h cap : Nat) (q : List Int) (hp : PortAt w B g h cap q false) (c : Int) (hr : cap ≤ q.length) :
    Calls Try.prog 21 #[.pointer (some ⟨g, 0, none⟩), .int .u8 c] w fun e w' => e = .returned (.bool false) ∧ w = w' := by
  have c0 : w.cell? ⟨g, 0, none⟩ = some (.chan (some h)) := by rw [cell_of_row w g 0 _ _ _ hp.blk]; rfl
  have c1 : w.cell? ⟨g, 1, none⟩ = some (.bool false) := by rw [cell_of_row w g 1 _ _ _ hp.blk]; rfl
  obtain ⟨s, r, hc⟩ := hp.chn
  have HP := Lib.hid hp
  have HC := Lib.hid hc
  clear hp hc
  refine calls_of_loneTo fun cs => ?_
  have e : Frame.enter Try.prog 21 #[.pointer (some ⟨g, 0, none⟩), .int .u8 c] .normal = (base 21).at ⟨#[.pointer (some ⟨g, 0, none⟩), .int .u8 c, undef, undef, undef, undef, undef, undef, undef, undef, undef, undef, undef, undef, undef, undef, undef], []⟩ [.code (Try.f21.body.getD .skip)] := by
    simp [Frame.enter, Frame.at, Try.func21, base, Try.f21]
  rw [e]
  refine LoneTo.goes (n := 27) ?_
  simp only [Try.f21, Option.getD_some]
  s_c stepG_seq
  s_reg
  s_op
  s_c stepG_region_end
  s_c stepG_seq
  s_c stepG_seq
  s_reg
  s_op
  s_op
  s_op
  s_op
  s_c stepG_region_end
  s_cond false
  s_c stepG_skip
  s_c stepG_seq
  s_c stepG_seq
  s_reg
  s_op
  s_op
  s_op
  s_op
  s_c stepG_region_end
  s_reg
  s_op
  s_c stepG_region_end
  s_c stepG_seq
  s_reg
  s_stop
  refine LoneTo.step (step_lone_select_send_full (c := h) (cap := cap) (buf := (byt q).toArray) (s := s) (r := r) (tm := false) (stepG_comm (cases := #[scase h (.int .u8 c) (.int .u8 0)]) (blocking := false) (shape := .select) (w' := w) rfl rfl (by decide) (by simp [go_sem, execOp, scase, Act.eval])) HC.out (by simpa [byt] using hr)) ?_
  rw [Frame.finish_at]
  walk_nrm
  refine LoneTo.goes (n := 10) ?_
  s_op
  s_op
  s_c stepG_region_end
  s_c stepG_block
  s_cond false
  s_c stepG_seq
  s_reg
  s_op
  s_c stepG_region_end
  s_c stepG_ret'
  s_stop
  exact LoneTo.done ⟨.returned (.bool false), _, rfl, ⟨rfl, rfl⟩, rfl, rfl, rfl, rfl, _, Try.func21, by simp [results, Try.f21, Frame.at]⟩

theorem ppoll_some (w : World) (B g h cap : Nat) (c : Int) (q : List Int) (shut : Bool) (hp : PortAt w B g h cap (c :: q) shut) :
    Calls Try.prog 19 #[.pointer (some ⟨g, 0, none⟩)] w fun e w' => e = .returned (.tuple #[.int .u8 c, .bool true]) ∧ PortAt w' B g h cap q shut ∧ Fr (fun k => k = h) w w' := by
  have c0 : w.cell? ⟨g, 0, none⟩ = some (.chan (some h)) := by rw [cell_of_row w g 0 _ _ _ hp.blk]; rfl
  obtain ⟨s, r, hc⟩ := hp.chn
  have HP := Lib.hid hp
  have HC := Lib.hid hc
  clear hp hc
  refine calls_of_loneTo fun cs => ?_
  have e : Frame.enter Try.prog 19 #[.pointer (some ⟨g, 0, none⟩)] .normal = (base 19).at ⟨#[.pointer (some ⟨g, 0, none⟩), undef, undef, undef, undef, undef, undef, undef, undef, undef, undef, undef, undef, undef], []⟩ [.code (Try.f19.body.getD .skip)] := by
    simp [Frame.enter, Frame.at, Try.func19, base, Try.f19]
    try rfl
  rw [e]
  refine LoneTo.goes (n := 14) ?_
  simp only [Try.f19, Option.getD_some]
  s_c stepG_seq
  s_reg
  s_op
  s_op
  s_c stepG_region_end
  s_c stepG_seq
  s_reg
  s_op
  s_op
  s_op
  s_op
  s_c stepG_region_end
  s_c stepG_seq
  s_reg
  s_stop
  refine LoneTo.step (step_lone_select_recv_buf (c := h) (z := .int .u8 0) (cap := cap) (buf := (byt (c :: q)).toArray) (closed := false) (s := s) (r := r) (tm := false) (stepG_comm (cases := #[rcase h (.int .u8 0)]) (blocking := false) (shape := .select) (w' := w) rfl rfl (by decide) (by simp [go_sem, execOp, rcase, Act.eval])) HC.out (by simp [byt])) ?_
  rw [Frame.finish_at]
  walk_nrm
  refine LoneTo.goes (n := 17) ?_
  s_op
  s_op
  s_c stepG_region_end
  s_c stepG_block
  s_cond true
  s_c stepG_seq
  s_reg
  s_op
  s_op
  s_c stepG_region_end
  s_c stepG_seq
  s_reg
  s_op
  s_op
  s_op
  s_c stepG_region_end
  s_c stepG_ret'
  s_stop
  refine LoneTo.done ⟨.returned (.tuple #[.int .u8 c, .bool true]), _, rfl, ⟨rfl, ?_, fr_setChan _ _ _ _ _ _ _ _⟩, rfl, rfl, rfl, rfl, _, Try.func19, by simp [results, Try.f19, Frame.at, byt]⟩
  have hlt := HP.out.lt
  have hle := HP.out.le
  refine ⟨?_, ⟨s, r + 1, ?_⟩, HP.out.base, HP.out.ne, by simp at hle; omega⟩
  · rw [(fr_setChan w h cap _ false s (r + 1) false).block g hlt.1 HP.out.ne]; exact HP.out.blk
  · rw [heap_setChan _ _ _ _ _ _ _ _ hlt.2]; simp [byt, List.take_of_length_le]

theorem ppoll_none (w : World) (B g h cap : Nat) (shut : Bool) (hp : PortAt w B g h cap [] shut) :
    Calls Try.prog 19 #[.pointer (some ⟨g, 0, none⟩)] w fun e w' => e = .returned (.tuple #[.int .u8 0, .bool false]) ∧ w = w' := by
  have c0 : w.cell? ⟨g, 0, none⟩ = some (.chan (some h)) := by rw [cell_of_row w g 0 _ _ _ hp.blk]; rfl
  obtain ⟨s, r, hc⟩ := hp.chn
  have HP := Lib.hid hp
  have HC := Lib.hid hc
  clear hp hc
  refine calls_of_loneTo fun cs => ?_
  have e : Frame.enter Try.prog 19 #[.pointer (some ⟨g, 0, none⟩)] .normal = (base 19).at ⟨#[.pointer (some ⟨g, 0, none⟩), undef, undef, undef, undef, undef, undef, undef, undef, undef, undef, undef, undef, undef], []⟩ [.code (Try.f19.body.getD .skip)] := by
    simp [Frame.enter, Frame.at, Try.func19, base, Try.f19]
    try rfl
  rw [e]
  refine LoneTo.goes (n := 14) ?_
  simp only [Try.f19, Option.getD_some]
  s_c stepG_seq
  s_reg
  s_op
  s_op
  s_c stepG_region_end
  s_c stepG_seq
  s_reg
  s_op
  s_op
  s_op
  s_op
  s_c stepG_region_end
  s_c stepG_seq
  s_reg
  s_stop
  refine LoneTo.step (step_lone_select_default (c := h) (z := .int .u8 0) (cap := cap) (s := s) (r := r) (tm := false) (stepG_comm (cases := #[rcase h (.int .u8 0)]) (blocking := false) (shape := .select) (w' := w) rfl rfl (by decide) (by simp [go_sem, execOp, rcase, Act.eval])) HC.out) ?_
  rw [Frame.finish_at]
  walk_nrm
  refine LoneTo.goes (n := 11) ?_
  s_op
  s_op
  s_c stepG_region_end
  s_c stepG_block
  s_cond false
  s_c stepG_seq
  s_reg
  s_op
  s_op
  s_c stepG_region_end
  s_c stepG_ret'
  s_stop
  exact LoneTo.done ⟨.returned (.tuple #[.int .u8 0, .bool false]), _, rfl, ⟨rfl, rfl⟩, rfl, rfl, rfl, rfl, _, Try.func19, by simp [results, Try.f19, Frame.at]⟩

theorem pclose_any (w : World) (B g h cap : Nat) (q : List Int) (shut : Bool) (hp : PortAt w B g h cap q shut) :
    Calls Try.prog 20 #[.pointer (some ⟨g, 0, none⟩)] w fun e w' => e = .returned (.tuple #[]) ∧ PortAt w' B g h cap q true ∧ Fr (fun k => k = g) w w' := by
  have c1 : w.cell? ⟨g, 1, none⟩ = some (.bool shut) := by rw [cell_of_row w g 1 _ _ _ hp.blk]; rfl
  have f1 := frozen_of_row w g 1 _ _ hp.blk
  obtain ⟨s, r, hc⟩ := hp.chn
  have HP := Lib.hid hp
  have HC := Lib.hid hc
  clear hp hc
  go_enter Try.func20, Try.ntmps20
  go_wp2_with fail
  refine bodyPost_end (results_none rfl _ _ _) rfl ?_
  have hlt := HP.out.lt
  refine ⟨rfl, ⟨?_, ⟨s, r, ?_⟩, HP.out.base, HP.out.ne, HP.out.le⟩, (Fr.refl (fun k => k = g) w).setCell (.inr rfl) _⟩
  · rw [heap_setCell_same w g 1 _ _ _ HP.out.blk]; rfl
  · rw [Below.heap_setCell w _ _ _ (fun e => HP.out.ne e.symm)]; exact HC.out
theorem pstate_any (w : World) (B g h cap : Nat) (q : List Int) (shut : Bool) (hp : PortAt w B g h cap q shut) :
    Calls Try.prog 22 #[.pointer (some ⟨g, 0, none⟩)] w fun e w' => e = .returned (.tuple #[.int .i64 (q.length : Nat), .bool shut]) ∧ ∃ m, w' = w.drewN m := by
  have c0 : w.cell? ⟨g, 0, none⟩ = some (.chan (some h)) := by rw [cell_of_row w g 0 _ _ _ hp.blk]; rfl
  have c1 : w.cell? ⟨g, 1, none⟩ = some (.bool shut) := by rw [cell_of_row w g 1 _ _ _ hp.blk]; rfl
  obtain ⟨s, r, hc⟩ := hp.chn
  have hl : (byt q).length = q.length := byt_length q
  obtain ⟨bb, hbb⟩ : ∃ bb, bb = (byt q).toArray := ⟨_, rfl⟩
  have hbs : bb.size = q.length := by rw [hbb]; simpa using hl
  rw [← hbb] at hc
  have hlen : ∀ m ty, (Builtin.len_ #[72] ty #[.chan (some h)]).run Try.prog (w.drewN m) = .ok (.int .i64 (q.length : Nat)) (w.drewN m) := fun m ty => by
    have := run_len_chan (P := Try.prog) (w := w.drewN m) 72 ty Try.underlying72 hc
    rw [hbs] at this; exact this
  have hcap : ∀ m ty, (Builtin.cap_ #[72] ty #[.chan (some h)]).run Try.prog (w.drewN m) = .ok (.int .i64 (cap : Nat)) (w.drewN m) := fun m ty =>
    run_cap_chan (P := Try.prog) (w := w.drewN m) 72 ty Try.underlying72 hc
  clear hp hl hbb hbs hc
  go_enter Try.func22, Try.ntmps22
  go_wp2_with fail
  go_quiet (fail)
  go_wp2_with fail
  go_ret2
  exact ⟨rfl, _, rfl⟩
theorem proom_any (w : World) (B g h cap : Nat) (q : List Int) (shut : Bool) (hp : PortAt w B g h cap q shut) :
    Calls Try.prog 59 #[.pointer (some ⟨g, 0, none⟩)] w fun e w' => e = .returned (.bool (!shut && decide (q.length < cap))) ∧ ∃ m, w' = w.drewN m := by
  have c0 : w.cell? ⟨g, 0, none⟩ = some (.chan (some h)) := by rw [cell_of_row w g 0 _ _ _ hp.blk]; rfl
  have c1 : w.cell? ⟨g, 1, none⟩ = some (.bool shut) := by rw [cell_of_row w g 1 _ _ _ hp.blk]; rfl
  obtain ⟨s, r, hc⟩ := hp.chn
  have hl : (byt q).length = q.length := byt_length q
  obtain ⟨bb, hbb⟩ : ∃ bb, bb = (byt q).toArray := ⟨_, rfl⟩
  have hbs : bb.size = q.length := by rw [hbb]; simpa using hl
  rw [← hbb] at hc
  have hlen : ∀ m ty, (Builtin.len_ #[72] ty #[.chan (some h)]).run Try.prog (w.drewN m) = .ok (.int .i64 (q.length : Nat)) (w.drewN m) := fun m ty => by
    have := run_len_chan (P := Try.prog) (w := w.drewN m) 72 ty Try.underlying72 hc
    rw [hbs] at this; exact this
  have hcap : ∀ m ty, (Builtin.cap_ #[72] ty #[.chan (some h)]).run Try.prog (w.drewN m) = .ok (.int .i64 (cap : Nat)) (w.drewN m) := fun m ty =>
    run_cap_chan (P := Try.prog) (w := w.drewN m) 72 ty Try.underlying72 hc
  clear hp hl hbb hbs hc
  cases shut with
  | true =>
    go_enter Try.func59, Try.ntmps59
    go_wp2_with fail
    go_quiet (fail)
    go_wp2_with fail
    go_ret
    exact ⟨rfl, _, rfl⟩
  | false =>
    go_enter Try.func59, Try.ntmps59
    go_wp2_with fail
    go_quiet (fail)
    go_wp2_with fail
    go_ret
    exact ⟨by simp, _, rfl⟩
theorem pnew_any (w : World) (room : Int) (N : Nat) (hN : (room < 1 ∧ N = 1) ∨ (room = N ∧ 1 ≤ N ∧ N ≤ 4096) ∨ (4096 < room ∧ N = 4096)) :
    Calls Try.prog 18 #[.int .i64 room] w fun e w' => ∃ g h, e = .returned (.pointer (some ⟨g, 0, none⟩)) ∧ PortAt w' w.heap.size g h N [] false ∧ Below w.heap.size w w' := by
  have hi : ∃ i, Try.prog.info? 5 = some i ∧ i.bytes = 1 := by
    have h : (Try.prog.info? 5).map (·.bytes) = some 1 := by kernel_rfl
    obtain ⟨i, hi, hb⟩ := Option.map_eq_some_iff.1 h
    exact ⟨i, hi, hb⟩
  obtain ⟨i, hi, hb⟩ := hi
  have mk : ∀ (W : World) (n : Nat), n ≤ 4096 → (Instr.makeChan 72 (.int .i64 (n : Int))).run Try.prog W = .ok (.chan (some W.heap.size)) (W.alloc (.chan n #[] false 0 0 false)) := fun W n hn => by
    simpa using run_makeChan (P := Try.prog) (w := W) Try.underlying72 hi .i64 n (by omega) (by rw [hb]; omega)
  have mkN := mk w N (by omega)
  have key : PortAt ((w.alloc (.chan N #[] false 0 0 false)).alloc (.cells #[.chan (some w.heap.size), .bool false] 74)) w.heap.size (w.heap.size + 1) w.heap.size N [] false ∧ Below w.heap.size w ((w.alloc (.chan N #[] false 0 0 false)).alloc (.cells #[.chan (some w.heap.size), .bool false] 74)) := by
    refine ⟨⟨?_, ⟨0, 0, ?_⟩, by omega, by omega, by simp⟩, ((Below.refl _ _).alloc (Nat.le_refl _) _).alloc (by simp) _⟩
    · have := heap_alloc_new (w.alloc (.chan N #[] false 0 0 false)) (.cells #[.chan (some w.heap.size), .bool false] 74)
      rwa [World.size_alloc] at this
    · rw [heap_alloc_old _ _ (by simp)]; exact heap_alloc_new w _
  have KEY := Lib.hid key
  clear key mk hi hb
  rcases hN with ⟨h, rfl⟩ | ⟨rfl, h1, h2⟩ | ⟨h, rfl⟩
  · have mk1 : (Instr.makeChan 72 (.int .i64 1)).run Try.prog w = .ok (.chan (some w.heap.size)) (w.alloc (.chan 1 #[] false 0 0 false)) := mkN
    go_enter Try.func18, Try.ntmps18
    go_wp2_with fail
    go_ret
    exact ⟨_, _, rfl, KEY.out⟩
  · go_enter Try.func18, Try.ntmps18
    go_wp2_with fail
    go_ret
    exact ⟨_, _, rfl, KEY.out⟩
  · have mk1 : (Instr.makeChan 72 (.int .i64 4096)).run Try.prog w = .ok (.chan (some w.heap.size)) (w.alloc (.chan 4096 #[] false 0 0 false)) := mkN
    go_enter Try.func18, Try.ntmps18
    go_wp2_with fail
    go_ret
    exact ⟨_, _, rfl, KEY.out⟩
end Go.Proofs.Ytjgndjcpdedkiaa
