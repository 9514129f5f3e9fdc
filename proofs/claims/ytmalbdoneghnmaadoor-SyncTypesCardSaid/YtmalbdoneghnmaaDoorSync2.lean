/-
  What goroutines share: an element by its address; the small calls.
-/
import Derived.Test.YtmalbdoneghnmaaDoorSync1
import Derived.Test.YtmalbdoneghnmaaDoorVal
import Derived.Deep.RegionHeld3
import Derived.Deep.QuietTactic
import Derived.Deep.DrawnRows
namespace Go.Proofs.YtmalbdoneghnmaaDoor
open Go.RowKit Go.Stk
attribute [local go_sem ↓] Go.wp_at_zero Go.wp_at_succ

def errV (a : Addr) : Value := .iface 127 (.pointer (some a))
/-- The two errors of a state's calls. -/
structure Errs (w : World) (er et : Addr) : Prop where
  r : w.cell? ⟨0, 0, none⟩ = some (.iface 127 (.pointer (some er)))
  t : w.cell? ⟨4, 0, none⟩ = some (.iface 127 (.pointer (some et)))
theorem Errs.later {w w' : World} {er et : Addr} (h : Errs w er et) (hb : Below w.heap.size w w') : Errs w' er et := ⟨cell_later hb h.r, cell_later hb h.t⟩
theorem Errs.kept {w w' : World} {er et : Addr} (h : Errs w er et) {fp : List Nat} (hk : Kept fp w w') (hr : 0 ∉ fp) (ht : 4 ∉ fp) : Errs w' er et := ⟨hk.cell h.r hr, hk.cell h.t ht⟩
/-- No such index. -/
def Out (i : Int) (n : Nat) : Prop := i < 0 ∨ (n : Int) ≤ i
theorem lt_of_cap {i n : Nat} (_ : i < n) (hn : n ≤ maxLen) : (n : Int) ≤ 9223372036854775807 := by simp only [maxLen] at hn; omega
theorem below_drewN0 (w : World) (n : Nat) : Below w.heap.size w (w.drewN n) := ⟨rfl, rfl, rfl, Nat.le_refl _, fun _ _ => rfl⟩
theorem below_drew0 (w : World) : Below w.heap.size w w.drew := ⟨rfl, rfl, rfl, Nat.le_refl _, fun _ _ => rfl⟩

theorem at_bool_in (g n c i : Nat) (w : World) (hi : i < n) (hn : n ≤ maxLen) : Calls Tryd.prog 39 #[.slice (some ⟨g, 0, none⟩) n c, .int .i64 i] w fun e w' => e = .returned (.tuple #[.pointer (some ⟨g, i, none⟩), .nilIface]) ∧ w = w' := by
  have h64 := lt_of_cap hi hn
  go_enter Tryd.func39, Tryd.ntmps39
  go_wp2
  go_ret2
  exact ⟨rfl, rfl⟩
theorem at_bool_out (A : Option Addr) (n c : Nat) (i : Int) (w : World) (er et : Addr) (hE : Errs w er et) (hi : Out i n) : Calls Tryd.prog 39 #[.slice A n c, .int .i64 i] w (Ret w (.tuple #[.pointer none, errV er])) := by
  have hr := hE.r
  by_cases h0 : i < 0
  · go_enter Tryd.func39, Tryd.ntmps39
    go_wp2_with fail
    go_quiet (fail)
    go_wp2_with fail
    go_ret2
    exact ⟨rfl, below_drewN0 _ _⟩
  · have h1 : decide (i < 0) = false := decide_eq_false h0
    have h2 : decide ((n : Int) ≤ i) = true := decide_eq_true (by rcases hi with h | h; exact absurd h h0; exact h)
    go_enter Tryd.func39, Tryd.ntmps39
    go_wp2_with fail
    go_quiet (fail)
    go_wp2_with fail
    go_ret2
    exact ⟨rfl, below_drewN0 _ _⟩
theorem at_queue_in (g n c i : Nat) (w : World) (hi : i < n) (hn : n ≤ maxLen) : Calls Tryd.prog 35 #[.slice (some ⟨g, 0, none⟩) n c, .int .i64 i] w fun e w' => e = .returned (.tuple #[.pointer (some ⟨g, i * 3, none⟩), .nilIface]) ∧ w = w' := by
  have h64 := lt_of_cap hi hn
  go_enter Tryd.func35, Tryd.ntmps35
  go_wp2
  go_ret2
  exact ⟨rfl, rfl⟩
theorem at_queue_out (A : Option Addr) (n c : Nat) (i : Int) (w : World) (er et : Addr) (hE : Errs w er et) (hi : Out i n) : Calls Tryd.prog 35 #[.slice A n c, .int .i64 i] w (Ret w (.tuple #[.pointer none, errV er])) := by
  have hr := hE.r
  by_cases h0 : i < 0
  · go_enter Tryd.func35, Tryd.ntmps35
    go_wp2_with fail
    go_quiet (fail)
    go_wp2_with fail
    go_ret2
    exact ⟨rfl, below_drewN0 _ _⟩
  · have h1 : decide (i < 0) = false := decide_eq_false h0
    have h2 : decide ((n : Int) ≤ i) = true := decide_eq_true (by rcases hi with h | h; exact absurd h h0; exact h)
    go_enter Tryd.func35, Tryd.ntmps35
    go_wp2_with fail
    go_quiet (fail)
    go_wp2_with fail
    go_ret2
    exact ⟨rfl, below_drewN0 _ _⟩
theorem at_int_in (g n c i : Nat) (w : World) (hi : i < n) (hn : n ≤ maxLen) : Calls Tryd.prog 40 #[.slice (some ⟨g, 0, none⟩) n c, .int .i64 i] w fun e w' => e = .returned (.tuple #[.pointer (some ⟨g, i, none⟩), .nilIface]) ∧ w = w' := by
  have h64 := lt_of_cap hi hn
  go_enter Tryd.func40, Tryd.ntmps40
  go_wp2
  go_ret2
  exact ⟨rfl, rfl⟩
theorem at_int_out (A : Option Addr) (n c : Nat) (i : Int) (w : World) (er et : Addr) (hE : Errs w er et) (hi : Out i n) : Calls Tryd.prog 40 #[.slice A n c, .int .i64 i] w (Ret w (.tuple #[.pointer none, errV er])) := by
  have hr := hE.r
  by_cases h0 : i < 0
  · go_enter Tryd.func40, Tryd.ntmps40
    go_wp2_with fail
    go_quiet (fail)
    go_wp2_with fail
    go_ret2
    exact ⟨rfl, below_drewN0 _ _⟩
  · have h1 : decide (i < 0) = false := decide_eq_false h0
    have h2 : decide ((n : Int) ≤ i) = true := decide_eq_true (by rcases hi with h | h; exact absurd h h0; exact h)
    go_enter Tryd.func40, Tryd.ntmps40
    go_wp2_with fail
    go_quiet (fail)
    go_wp2_with fail
    go_ret2
    exact ⟨rfl, below_drewN0 _ _⟩
theorem at_val_in (g n c i : Nat) (w : World) (hi : i < n) (hn : n ≤ maxLen) : Calls Tryd.prog 41 #[.slice (some ⟨g, 0, none⟩) n c, .int .i64 i] w fun e w' => e = .returned (.tuple #[.pointer (some ⟨g, i * 3, none⟩), .nilIface]) ∧ w = w' := by
  have h64 := lt_of_cap hi hn
  go_enter Tryd.func41, Tryd.ntmps41
  go_wp2
  go_ret2
  exact ⟨rfl, rfl⟩
theorem at_val_out (A : Option Addr) (n c : Nat) (i : Int) (w : World) (er et : Addr) (hE : Errs w er et) (hi : Out i n) : Calls Tryd.prog 41 #[.slice A n c, .int .i64 i] w (Ret w (.tuple #[.pointer none, errV er])) := by
  have hr := hE.r
  by_cases h0 : i < 0
  · go_enter Tryd.func41, Tryd.ntmps41
    go_wp2_with fail
    go_quiet (fail)
    go_wp2_with fail
    go_ret2
    exact ⟨rfl, below_drewN0 _ _⟩
  · have h1 : decide (i < 0) = false := decide_eq_false h0
    have h2 : decide ((n : Int) ≤ i) = true := decide_eq_true (by rcases hi with h | h; exact absurd h h0; exact h)
    go_enter Tryd.func41, Tryd.ntmps41
    go_wp2_with fail
    go_quiet (fail)
    go_wp2_with fail
    go_ret2
    exact ⟨rfl, below_drewN0 _ _⟩

theorem bcells_at {l : List Bool} {i : Nat} {x : Bool} (h : l[i]? = some x) : (bcells l)[i]? = some (.bool x) := by simp [bcells, h]
theorem ints_at {l : List Int} {i : Nat} {x : Int} (h : l[i]? = some x) : (ints l)[i]? = some (.int .i64 x) := by simp [ints, h]
theorem vcells_at {l : List Val} {i : Nat} {x : Val} (h : l[i]? = some x) : (vcells l)[i * 3]? = some (.int .i64 x.t) ∧ (vcells l)[i * 3 + 1]? = some (.int .i64 x.n) ∧ (vcells l)[i * 3 + 2]? = some (.int .u64 x.b) := by
  have h0 := flat_get cells_len l i 0 (by omega)
  have h1 := flat_get cells_len l i 1 (by omega)
  have h2 := flat_get cells_len l i 2 (by omega)
  rw [h] at h0 h1 h2
  exact ⟨h0, h1, h2⟩
theorem kept_fp {w : World} {L : Lay} {g : Nat} (hm : L.own g) (i : Nat) (u : Value) : Kept L.fp w (w.setCell ⟨g, i, none⟩ u) := (Kept.refl _ _).set _ _ (.inl (Lay.mem.2 hm))
/-- What a call answers, and what became of the state. -/
def RetS (w : World) (L : Lay) (S : St) (v : Value) (e : Ending) (w' : World) : Prop := e = .returned v ∧ Stp w L S w'
theorem RetS.ofRet {P : Program} {f : FuncId} {args : Array Value} {w : World} {L : Lay} {S : St} {v : Value} (h : Rep w L S) (hc : Calls P f args w (Ret w v)) : Calls P f args w (RetS w L S v) := hc.mono fun _ _ ⟨h1, h2⟩ => ⟨h1, Stp.quiet h h2⟩

theorem turn_out (x : Bool) (i : Int) (w : World) (L : Lay) (S : St) (h : Rep w L S) (er et : Addr) (hE : Errs w er et) (hi : Out i S.locked.length) : Calls Tryd.prog 38 #[.pointer (some ⟨L.b, 0, none⟩), .int .i64 i, .bool x] w (Ret w (.tuple #[.bool false, errV er])) := by
  obtain ⟨A, c, ev, _⟩ := h.locked.form
  have f1 := h.fields.2.1
  rw [ev] at f1
  have HE := Lib.hid hE
  have HI := Lib.hid hi
  clear hE hi ev
  go_enter Tryd.func38, Tryd.ntmps38
  go_wp2_with fail
  refine (at_bool_out A _ c i w er et HE.out HI.out).mono ?_
  rintro e w1 ⟨rfl, hb⟩
  unfold errV
  go_wp2_with fail
  go_ret2
  exact ⟨rfl, hb⟩
theorem turn_same (x : Bool) (i : Nat) (w : World) (L : Lay) (S : St) (h : Rep w L S) (hx : S.locked[i]? = some x) : Calls Tryd.prog 38 #[.pointer (some ⟨L.b, 0, none⟩), .int .i64 i, .bool x] w (Ret w (.tuple #[.bool false, .nilIface])) := by
  have hi : i < S.locked.length := (List.getElem?_eq_some_iff.1 hx).1
  obtain ⟨g, c, ev, eb, hn, hm, hg, hcell, hfree⟩ := h.locked.mid (by omega)
  have c0 := hcell i _ (bcells_at hx)
  have f1 := h.fields.2.1
  rw [ev] at f1
  clear hx eb ev hfree hcell
  go_enter Tryd.func38, Tryd.ntmps38
  go_wp2_with fail
  refine (at_bool_in g _ c i w hi (by omega)).mono ?_
  rintro e w1 ⟨rfl, rfl⟩
  go_wp2_with fail
  go_ret2
  exact ⟨rfl, Below.refl _ _⟩
theorem turn_new (x : Bool) (i : Nat) (w : World) (L : Lay) (S : St) (h : Rep w L S) (hx : S.locked[i]? = some (!x)) : Calls Tryd.prog 38 #[.pointer (some ⟨L.b, 0, none⟩), .int .i64 i, .bool x] w (RetS w L { S with locked := S.locked.set i x } (.tuple #[.bool true, .nilIface])) := by
  have hi : i < S.locked.length := (List.getElem?_eq_some_iff.1 hx).1
  obtain ⟨g, c, ev, eb, hn, hm, hg, hcell, hfree⟩ := h.locked.mid (by omega)
  have c0 := hcell i _ (bcells_at hx)
  have f0 := hfree i
  have f1 := h.fields.2.1
  rw [ev] at f1
  have EV := Lib.hid ev
  have EB := Lib.hid eb
  clear hx eb ev hfree hcell
  have fin : Stp w L { S with locked := S.locked.set i x } (w.setCell ⟨g, i, none⟩ (.bool x)) := Stp.same (h.lock EV.out EB.out i hi x) (kept_fp (.inr (.inr (.inl (by rw [EB.out]; simp)))) _ _)
  have FIN := Lib.hid fin
  clear fin
  cases x
  all_goals
    go_enter Tryd.func38, Tryd.ntmps38
    go_wp2_with fail
    refine (at_bool_in g _ c i w hi (by omega)).mono ?_
    rintro e w1 ⟨rfl, rfl⟩
    go_wp2_with fail
    go_ret2
    exact ⟨rfl, FIN.out⟩
theorem lock_out (i : Int) (w : World) (L : Lay) (S : St) (h : Rep w L S) (er et : Addr) (hE : Errs w er et) (hi : Out i S.locked.length) : Calls Tryd.prog 14 #[.pointer (some ⟨L.b, 0, none⟩), .int .i64 i] w (Ret w (.tuple #[.bool false, errV er])) := by
  go_enter Tryd.func14, Tryd.ntmps14
  go_wp2_with fail
  refine (turn_out true i w L S h er et hE hi).mono ?_
  rintro e w1 ⟨rfl, hb⟩
  unfold errV
  go_wp2_with fail
  go_ret2
  exact ⟨rfl, hb⟩
theorem lock_same (i : Nat) (w : World) (L : Lay) (S : St) (h : Rep w L S) (hx : S.locked[i]? = some true) : Calls Tryd.prog 14 #[.pointer (some ⟨L.b, 0, none⟩), .int .i64 i] w (Ret w (.tuple #[.bool false, .nilIface])) := by
  go_enter Tryd.func14, Tryd.ntmps14
  go_wp2_with fail
  refine (turn_same true i w L S h hx).mono ?_
  rintro e w1 ⟨rfl, hb⟩
  go_wp2_with fail
  go_ret2
  exact ⟨rfl, hb⟩
theorem lock_new (i : Nat) (w : World) (L : Lay) (S : St) (h : Rep w L S) (hx : S.locked[i]? = some (!true)) : Calls Tryd.prog 14 #[.pointer (some ⟨L.b, 0, none⟩), .int .i64 i] w (RetS w L { S with locked := S.locked.set i true } (.tuple #[.bool true, .nilIface])) := by
  go_enter Tryd.func14, Tryd.ntmps14
  go_wp2_with fail
  refine (turn_new true i w L S h hx).mono ?_
  rintro e w1 ⟨rfl, hb⟩
  go_wp2_with fail
  go_ret2
  exact ⟨rfl, hb⟩
theorem unlock_out (i : Int) (w : World) (L : Lay) (S : St) (h : Rep w L S) (er et : Addr) (hE : Errs w er et) (hi : Out i S.locked.length) : Calls Tryd.prog 15 #[.pointer (some ⟨L.b, 0, none⟩), .int .i64 i] w (Ret w (.tuple #[.bool false, errV er])) := by
  go_enter Tryd.func15, Tryd.ntmps15
  go_wp2_with fail
  refine (turn_out false i w L S h er et hE hi).mono ?_
  rintro e w1 ⟨rfl, hb⟩
  unfold errV
  go_wp2_with fail
  go_ret2
  exact ⟨rfl, hb⟩
theorem unlock_same (i : Nat) (w : World) (L : Lay) (S : St) (h : Rep w L S) (hx : S.locked[i]? = some false) : Calls Tryd.prog 15 #[.pointer (some ⟨L.b, 0, none⟩), .int .i64 i] w (Ret w (.tuple #[.bool false, .nilIface])) := by
  go_enter Tryd.func15, Tryd.ntmps15
  go_wp2_with fail
  refine (turn_same false i w L S h hx).mono ?_
  rintro e w1 ⟨rfl, hb⟩
  go_wp2_with fail
  go_ret2
  exact ⟨rfl, hb⟩
theorem unlock_new (i : Nat) (w : World) (L : Lay) (S : St) (h : Rep w L S) (hx : S.locked[i]? = some (!false)) : Calls Tryd.prog 15 #[.pointer (some ⟨L.b, 0, none⟩), .int .i64 i] w (RetS w L { S with locked := S.locked.set i false } (.tuple #[.bool true, .nilIface])) := by
  go_enter Tryd.func15, Tryd.ntmps15
  go_wp2_with fail
  refine (turn_new false i w L S h hx).mono ?_
  rintro e w1 ⟨rfl, hb⟩
  go_wp2_with fail
  go_ret2
  exact ⟨rfl, hb⟩
theorem locked_out (i : Int) (w : World) (L : Lay) (S : St) (h : Rep w L S) (er et : Addr) (hE : Errs w er et) (hi : Out i S.locked.length) : Calls Tryd.prog 16 #[.pointer (some ⟨L.b, 0, none⟩), .int .i64 i] w (Ret w (.bool false)) := by
  obtain ⟨A, c, ev, _⟩ := h.locked.form
  have f1 := h.fields.2.1
  rw [ev] at f1
  have HE := Lib.hid hE
  have HI := Lib.hid hi
  clear hE hi ev
  go_enter Tryd.func16, Tryd.ntmps16
  go_wp2_with fail
  refine (at_bool_out A _ c i w er et HE.out HI.out).mono ?_
  rintro e w1 ⟨rfl, hb⟩
  unfold errV
  go_wp2_with fail
  go_ret
  exact ⟨rfl, hb⟩
theorem locked_in (i : Nat) (x : Bool) (w : World) (L : Lay) (S : St) (h : Rep w L S) (hx : S.locked[i]? = some x) : Calls Tryd.prog 16 #[.pointer (some ⟨L.b, 0, none⟩), .int .i64 i] w (Ret w (.bool x)) := by
  have hi : i < S.locked.length := (List.getElem?_eq_some_iff.1 hx).1
  obtain ⟨g, c, ev, eb, hn, hm, hg, hcell, hfree⟩ := h.locked.mid (by omega)
  have c0 := hcell i _ (bcells_at hx)
  have f1 := h.fields.2.1
  rw [ev] at f1
  clear hx eb ev hfree hcell
  go_enter Tryd.func16, Tryd.ntmps16
  go_wp2_with fail
  refine (at_bool_in g _ c i w hi (by omega)).mono ?_
  rintro e w1 ⟨rfl, rfl⟩
  go_wp2_with fail
  go_ret
  exact ⟨rfl, Below.refl _ _⟩
theorem get_out (i : Int) (w : World) (L : Lay) (S : St) (h : Rep w L S) (er et : Addr) (hE : Errs w er et) (hi : Out i S.atomics.length) : Calls Tryd.prog 19 #[.pointer (some ⟨L.b, 0, none⟩), .int .i64 i] w (Ret w (.tuple #[.int .i64 0, errV er])) := by
  obtain ⟨A, c, ev, _⟩ := h.atomics.form
  have f1 := h.fields.2.2.2
  rw [ev] at f1
  have HE := Lib.hid hE
  have HI := Lib.hid hi
  clear hE hi ev
  go_enter Tryd.func19, Tryd.ntmps19
  go_wp2_with fail
  refine (at_int_out A _ c i w er et HE.out HI.out).mono ?_
  rintro e w1 ⟨rfl, hb⟩
  unfold errV
  go_wp2_with fail
  go_ret2
  exact ⟨rfl, hb⟩
theorem get_in (i : Nat) (x : Int) (w : World) (L : Lay) (S : St) (h : Rep w L S) (hx : S.atomics[i]? = some x) : Calls Tryd.prog 19 #[.pointer (some ⟨L.b, 0, none⟩), .int .i64 i] w (Ret w (.tuple #[.int .i64 x, .nilIface])) := by
  have hi : i < S.atomics.length := (List.getElem?_eq_some_iff.1 hx).1
  obtain ⟨g, c, ev, eb, hn, hm, hg, hcell, hfree⟩ := h.atomics.mid (by omega)
  have c0 := hcell i _ (ints_at hx)
  have f1 := h.fields.2.2.2
  rw [ev] at f1
  clear hx eb ev hfree hcell
  go_enter Tryd.func19, Tryd.ntmps19
  go_wp2_with fail
  refine (at_int_in g _ c i w hi (by omega)).mono ?_
  rintro e w1 ⟨rfl, rfl⟩
  go_wp2_with fail
  go_ret2
  exact ⟨rfl, Below.refl _ _⟩
theorem put_out (i n : Int) (w : World) (L : Lay) (S : St) (h : Rep w L S) (er et : Addr) (hE : Errs w er et) (hi : Out i S.atomics.length) : Calls Tryd.prog 17 #[.pointer (some ⟨L.b, 0, none⟩), .int .i64 i, .int .i64 n] w (Ret w (errV er)) := by
  obtain ⟨A, c, ev, _⟩ := h.atomics.form
  have f1 := h.fields.2.2.2
  rw [ev] at f1
  have HE := Lib.hid hE
  have HI := Lib.hid hi
  clear hE hi ev
  go_enter Tryd.func17, Tryd.ntmps17
  go_wp2_with fail
  refine (at_int_out A _ c i w er et HE.out HI.out).mono ?_
  rintro e w1 ⟨rfl, hb⟩
  unfold errV
  go_wp2_with fail
  go_ret
  exact ⟨rfl, hb⟩
theorem put_in (i : Nat) (x n : Int) (w : World) (L : Lay) (S : St) (h : Rep w L S) (hx : S.atomics[i]? = some x) : Calls Tryd.prog 17 #[.pointer (some ⟨L.b, 0, none⟩), .int .i64 i, .int .i64 n] w (RetS w L { S with atomics := S.atomics.set i n } .nilIface) := by
  have hi : i < S.atomics.length := (List.getElem?_eq_some_iff.1 hx).1
  obtain ⟨g, c, ev, eb, hn, hm, hg, hcell, hfree⟩ := h.atomics.mid (by omega)
  have c0 := hcell i _ (ints_at hx)
  have f0 := hfree i
  have f1 := h.fields.2.2.2
  rw [ev] at f1
  have EV := Lib.hid ev
  have EB := Lib.hid eb
  clear hx eb ev hfree hcell
  have fin : Stp w L { S with atomics := S.atomics.set i n } (w.setCell ⟨g, i, none⟩ (.int .i64 n)) := Stp.same (h.atomic EV.out EB.out i hi n) (kept_fp (.inr (.inr (.inr (.inr (.inl (by rw [EB.out]; simp)))))) _ _)
  have FIN := Lib.hid fin
  clear fin
  go_enter Tryd.func17, Tryd.ntmps17
  go_wp2_with fail
  refine (at_int_in g _ c i w hi (by omega)).mono ?_
  rintro e w1 ⟨rfl, rfl⟩
  go_wp2_with fail
  go_ret
  exact ⟨rfl, FIN.out⟩
theorem add_out (i n : Int) (w : World) (L : Lay) (S : St) (h : Rep w L S) (er et : Addr) (hE : Errs w er et) (hi : Out i S.atomics.length) : Calls Tryd.prog 18 #[.pointer (some ⟨L.b, 0, none⟩), .int .i64 i, .int .i64 n] w (Ret w (errV er)) := by
  obtain ⟨A, c, ev, _⟩ := h.atomics.form
  have f1 := h.fields.2.2.2
  rw [ev] at f1
  have HE := Lib.hid hE
  have HI := Lib.hid hi
  clear hE hi ev
  go_enter Tryd.func18, Tryd.ntmps18
  go_wp2_with fail
  refine (at_int_out A _ c i w er et HE.out HI.out).mono ?_
  rintro e w1 ⟨rfl, hb⟩
  unfold errV
  go_wp2_with fail
  go_ret
  exact ⟨rfl, hb⟩
theorem add_in (i : Nat) (x n : Int) (w : World) (L : Lay) (S : St) (h : Rep w L S) (hx : S.atomics[i]? = some x) : Calls Tryd.prog 18 #[.pointer (some ⟨L.b, 0, none⟩), .int .i64 i, .int .i64 n] w (RetS w L { S with atomics := S.atomics.set i (wrap64 (x + n)) } .nilIface) := by
  have hi : i < S.atomics.length := (List.getElem?_eq_some_iff.1 hx).1
  obtain ⟨g, c, ev, eb, hn, hm, hg, hcell, hfree⟩ := h.atomics.mid (by omega)
  have c0 := hcell i _ (ints_at hx)
  have f0 := hfree i
  have f1 := h.fields.2.2.2
  rw [ev] at f1
  have EV := Lib.hid ev
  have EB := Lib.hid eb
  clear hx eb ev hfree hcell
  have fin : Stp w L { S with atomics := S.atomics.set i (wrap64 (x + n)) } (w.setCell ⟨g, i, none⟩ (.int .i64 (wrap64 (x + n)))) := Stp.same (h.atomic EV.out EB.out i hi (wrap64 (x + n))) (kept_fp (.inr (.inr (.inr (.inr (.inl (by rw [EB.out]; simp)))))) _ _)
  have FIN := Lib.hid fin
  clear fin
  go_enter Tryd.func18, Tryd.ntmps18
  go_wp2_with fail
  refine (at_int_in g _ c i w hi (by omega)).mono ?_
  rintro e w1 ⟨rfl, rfl⟩
  go_wp2_with fail
  go_ret
  exact ⟨rfl, FIN.out⟩
theorem len_out (i : Int) (w : World) (L : Lay) (S : St) (h : Rep w L S) (er et : Addr) (hE : Errs w er et) (hi : Out i S.chans.length) : Calls Tryd.prog 13 #[.pointer (some ⟨L.b, 0, none⟩), .int .i64 i] w (Ret w (.int .i64 0)) := by
  obtain ⟨A, c, ev, _⟩ := h.chans.form
  have f1 := h.fields.2.2.1
  rw [ev] at f1
  have HE := Lib.hid hE
  have HI := Lib.hid hi
  clear hE hi ev
  go_enter Tryd.func13, Tryd.ntmps13
  go_wp2_with fail
  refine (at_queue_out A _ c i w er et HE.out HI.out).mono ?_
  rintro e w1 ⟨rfl, hb⟩
  unfold errV
  go_wp2_with fail
  go_ret
  exact ⟨rfl, hb⟩
theorem len_in (i : Nat) (x : Ch) (w : World) (L : Lay) (S : St) (h : Rep w L S) (hx : S.chans[i]? = some x) : Calls Tryd.prog 13 #[.pointer (some ⟨L.b, 0, none⟩), .int .i64 i] w (Ret w (.int .i64 (x.held.length : Nat))) := by
  have hi : i < S.chans.length := (List.getElem?_eq_some_iff.1 hx).1
  have hi2 : i < L.hs.length := by rw [h.hlen]; exact hi
  obtain ⟨g, c, ev, eb, hn, hm, hg, hcell, hfree⟩ := h.chans.mid (by omega)
  have hv : L.hs[i]? = some L.hs[i] := List.getElem?_eq_getElem hi2
  obtain ⟨A2, c2, ev2, hc2, hm2, _, _⟩ := (h.held i x _ hx hv).form
  have hq := qcells_at hx hv
  rw [ev2] at hq
  have k0 := hcell _ _ hq.1
  have k1 := hcell _ _ hq.2.1
  have k2 := hcell _ _ hq.2.2
  have hl : (x.held.length : Int) ≤ 9223372036854775807 := by simp only [maxLen] at hm2; omega
  have f1 := h.fields.2.2.1
  rw [ev] at f1
  clear hx eb ev hfree hcell hv ev2 hq
  go_enter Tryd.func13, Tryd.ntmps13
  go_wp2_with fail
  refine (at_queue_in g _ c i w hi (by omega)).mono ?_
  rintro e w1 ⟨rfl, rfl⟩
  go_wp2_with fail
  go_ret
  exact ⟨rfl, Below.refl _ _⟩
theorem room_out (i : Int) (w : World) (L : Lay) (S : St) (h : Rep w L S) (er et : Addr) (hE : Errs w er et) (hi : Out i S.chans.length) : Calls Tryd.prog 31 #[.pointer (some ⟨L.b, 0, none⟩), .int .i64 i] w (Ret w (.int .i64 0)) := by
  obtain ⟨A, c, ev, _⟩ := h.chans.form
  have f1 := h.fields.2.2.1
  rw [ev] at f1
  have HE := Lib.hid hE
  have HI := Lib.hid hi
  clear hE hi ev
  go_enter Tryd.func31, Tryd.ntmps31
  go_wp2_with fail
  refine (at_queue_out A _ c i w er et HE.out HI.out).mono ?_
  rintro e w1 ⟨rfl, hb⟩
  unfold errV
  go_wp2_with fail
  go_ret
  exact ⟨rfl, hb⟩
theorem room_in (i : Nat) (x : Ch) (w : World) (L : Lay) (S : St) (h : Rep w L S) (hx : S.chans[i]? = some x) : Calls Tryd.prog 31 #[.pointer (some ⟨L.b, 0, none⟩), .int .i64 i] w (Ret w (.int .i64 x.room)) := by
  have hi : i < S.chans.length := (List.getElem?_eq_some_iff.1 hx).1
  have hi2 : i < L.hs.length := by rw [h.hlen]; exact hi
  obtain ⟨g, c, ev, eb, hn, hm, hg, hcell, hfree⟩ := h.chans.mid (by omega)
  have hv : L.hs[i]? = some L.hs[i] := List.getElem?_eq_getElem hi2
  obtain ⟨A2, c2, ev2, hc2, hm2, _, _⟩ := (h.held i x _ hx hv).form
  have hq := qcells_at hx hv
  rw [ev2] at hq
  have k0 := hcell _ _ hq.1
  have k1 := hcell _ _ hq.2.1
  have k2 := hcell _ _ hq.2.2
  have hl : (x.held.length : Int) ≤ 9223372036854775807 := by simp only [maxLen] at hm2; omega
  have f1 := h.fields.2.2.1
  rw [ev] at f1
  clear hx eb ev hfree hcell hv ev2 hq
  go_enter Tryd.func31, Tryd.ntmps31
  go_wp2_with fail
  refine (at_queue_in g _ c i w hi (by omega)).mono ?_
  rintro e w1 ⟨rfl, rfl⟩
  go_wp2_with fail
  go_ret
  exact ⟨rfl, Below.refl _ _⟩
end Go.Proofs.YtmalbdoneghnmaaDoor
