/-
  What goroutines share: the chapter's example.
-/
import Derived.Test.YtmalbdoneghnmaaDoorSync8
namespace Go.Proofs.YtmalbdoneghnmaaDoor
open Go.RowKit Go.Stk
attribute [local go_sem ↓] Go.wp_at_zero Go.wp_at_succ

/-! ### The calls, of an object -/
section
variable {X : Nat → Prop} {b : Nat} {S : St} {w : World} {er et : Addr}
theorem o_lock_new (h : Ob X b S w) (i : Nat) (hx : S.locked[i]? = some (!true)) : Calls Tryd.prog 14 #[.pointer (some ⟨b, 0, none⟩), .int .i64 i] w (RetO X b { S with locked := S.locked.set i true } w (.tuple #[.bool true, .nilIface])) := h.call fun L e hr => by subst e; exact lock_new i w L S hr hx
theorem o_lock_same (h : Ob X b S w) (i : Nat) (hx : S.locked[i]? = some true) : Calls Tryd.prog 14 #[.pointer (some ⟨b, 0, none⟩), .int .i64 i] w (Ret w (.tuple #[.bool false, .nilIface])) := h.ask fun L e hr => by subst e; exact lock_same i w L S hr hx
theorem o_lock_out (h : Ob X b S w) (i : Int) (hE : Errs w er et) (hi : Out i S.locked.length) : Calls Tryd.prog 14 #[.pointer (some ⟨b, 0, none⟩), .int .i64 i] w (Ret w (.tuple #[.bool false, errV er])) := h.ask fun L e hr => by subst e; exact lock_out i w L S hr er et hE hi
theorem o_unlock_new (h : Ob X b S w) (i : Nat) (hx : S.locked[i]? = some (!false)) : Calls Tryd.prog 15 #[.pointer (some ⟨b, 0, none⟩), .int .i64 i] w (RetO X b { S with locked := S.locked.set i false } w (.tuple #[.bool true, .nilIface])) := h.call fun L e hr => by subst e; exact unlock_new i w L S hr hx
theorem o_unlock_same (h : Ob X b S w) (i : Nat) (hx : S.locked[i]? = some false) : Calls Tryd.prog 15 #[.pointer (some ⟨b, 0, none⟩), .int .i64 i] w (Ret w (.tuple #[.bool false, .nilIface])) := h.ask fun L e hr => by subst e; exact unlock_same i w L S hr hx
theorem o_unlock_out (h : Ob X b S w) (i : Int) (hE : Errs w er et) (hi : Out i S.locked.length) : Calls Tryd.prog 15 #[.pointer (some ⟨b, 0, none⟩), .int .i64 i] w (Ret w (.tuple #[.bool false, errV er])) := h.ask fun L e hr => by subst e; exact unlock_out i w L S hr er et hE hi
theorem o_locked_in (h : Ob X b S w) (i : Nat) (x : Bool) (hx : S.locked[i]? = some x) : Calls Tryd.prog 16 #[.pointer (some ⟨b, 0, none⟩), .int .i64 i] w (Ret w (.bool x)) := h.ask fun L e hr => by subst e; exact locked_in i x w L S hr hx
theorem o_locked_out (h : Ob X b S w) (i : Int) (hE : Errs w er et) (hi : Out i S.locked.length) : Calls Tryd.prog 16 #[.pointer (some ⟨b, 0, none⟩), .int .i64 i] w (Ret w (.bool false)) := h.ask fun L e hr => by subst e; exact locked_out i w L S hr er et hE hi
theorem o_get_in (h : Ob X b S w) (i : Nat) (x : Int) (hx : S.atomics[i]? = some x) : Calls Tryd.prog 19 #[.pointer (some ⟨b, 0, none⟩), .int .i64 i] w (Ret w (.tuple #[.int .i64 x, .nilIface])) := h.ask fun L e hr => by subst e; exact get_in i x w L S hr hx
theorem o_get_out (h : Ob X b S w) (i : Int) (hE : Errs w er et) (hi : Out i S.atomics.length) : Calls Tryd.prog 19 #[.pointer (some ⟨b, 0, none⟩), .int .i64 i] w (Ret w (.tuple #[.int .i64 0, errV er])) := h.ask fun L e hr => by subst e; exact get_out i w L S hr er et hE hi
theorem o_put_in (h : Ob X b S w) (i : Nat) (x n : Int) (hx : S.atomics[i]? = some x) : Calls Tryd.prog 17 #[.pointer (some ⟨b, 0, none⟩), .int .i64 i, .int .i64 n] w (RetO X b { S with atomics := S.atomics.set i n } w .nilIface) := h.call fun L e hr => by subst e; exact put_in i x n w L S hr hx
theorem o_put_out (h : Ob X b S w) (i n : Int) (hE : Errs w er et) (hi : Out i S.atomics.length) : Calls Tryd.prog 17 #[.pointer (some ⟨b, 0, none⟩), .int .i64 i, .int .i64 n] w (Ret w (errV er)) := h.ask fun L e hr => by subst e; exact put_out i n w L S hr er et hE hi
theorem o_add_in (h : Ob X b S w) (i : Nat) (x n : Int) (hx : S.atomics[i]? = some x) : Calls Tryd.prog 18 #[.pointer (some ⟨b, 0, none⟩), .int .i64 i, .int .i64 n] w (RetO X b { S with atomics := S.atomics.set i (wrap64 (x + n)) } w .nilIface) := h.call fun L e hr => by subst e; exact add_in i x n w L S hr hx
theorem o_add_out (h : Ob X b S w) (i n : Int) (hE : Errs w er et) (hi : Out i S.atomics.length) : Calls Tryd.prog 18 #[.pointer (some ⟨b, 0, none⟩), .int .i64 i, .int .i64 n] w (Ret w (errV er)) := h.ask fun L e hr => by subst e; exact add_out i n w L S hr er et hE hi
theorem o_len_in (h : Ob X b S w) (i : Nat) (x : Ch) (hx : S.chans[i]? = some x) : Calls Tryd.prog 13 #[.pointer (some ⟨b, 0, none⟩), .int .i64 i] w (Ret w (.int .i64 (x.held.length : Nat))) := h.ask fun L e hr => by subst e; exact len_in i x w L S hr hx
theorem o_len_out (h : Ob X b S w) (i : Int) (hE : Errs w er et) (hi : Out i S.chans.length) : Calls Tryd.prog 13 #[.pointer (some ⟨b, 0, none⟩), .int .i64 i] w (Ret w (.int .i64 0)) := h.ask fun L e hr => by subst e; exact len_out i w L S hr er et hE hi
theorem o_room_in (h : Ob X b S w) (i : Nat) (x : Ch) (hx : S.chans[i]? = some x) : Calls Tryd.prog 31 #[.pointer (some ⟨b, 0, none⟩), .int .i64 i] w (Ret w (.int .i64 x.room)) := h.ask fun L e hr => by subst e; exact room_in i x w L S hr hx
theorem o_room_out (h : Ob X b S w) (i : Int) (hE : Errs w er et) (hi : Out i S.chans.length) : Calls Tryd.prog 31 #[.pointer (some ⟨b, 0, none⟩), .int .i64 i] w (Ret w (.int .i64 0)) := h.ask fun L e hr => by subst e; exact room_out i w L S hr er et hE hi
theorem o_read_in (h : Ob X b S w) (i : Nat) (x : Val) (hx : S.places[i]? = some x) : Calls Tryd.prog 21 #[.pointer (some ⟨b, 0, none⟩), .int .i64 i] w (Ret w (.tuple #[.agg #[.int .i64 x.t, .int .i64 x.n, .int .u64 x.b], .nilIface])) := h.ask fun L e hr => by subst e; exact read_in i x w L S hr hx
theorem o_read_out (h : Ob X b S w) (i : Int) (hE : Errs w er et) (hi : Out i S.places.length) : Calls Tryd.prog 21 #[.pointer (some ⟨b, 0, none⟩), .int .i64 i] w (Ret w (.tuple #[.agg #[.int .i64 0, .int .i64 0, .int .u64 0], errV er])) := h.ask fun L e hr => by subst e; exact read_out i w L S hr er et hE hi
theorem o_write_in (h : Ob X b S w) (i : Nat) (x v : Val) (hx : S.places[i]? = some x) (hv : v.good = true) (ht : v.t = x.t) : Calls Tryd.prog 20 #[.pointer (some ⟨b, 0, none⟩), .int .i64 i, .agg #[.int .i64 v.t, .int .i64 v.n, .int .u64 v.b]] w (RetO X b { S with places := S.places.set i v } w .nilIface) := h.call fun L e hr => by subst e; exact write_in i x v w L S hr hx hv ht
theorem o_write_bad (h : Ob X b S w) (i : Nat) (x v : Val) (hE : Errs w er et) (hx : S.places[i]? = some x) (hv : v.good = false ∨ v.t ≠ x.t) : Calls Tryd.prog 20 #[.pointer (some ⟨b, 0, none⟩), .int .i64 i, .agg #[.int .i64 v.t, .int .i64 v.n, .int .u64 v.b]] w (Ret w (errV et)) := h.ask fun L e hr => by subst e; exact write_bad i x v w L S hr er et hE hx hv
theorem o_write_out (h : Ob X b S w) (i : Int) (v : Val) (hE : Errs w er et) (hi : Out i S.places.length) : Calls Tryd.prog 20 #[.pointer (some ⟨b, 0, none⟩), .int .i64 i, .agg #[.int .i64 v.t, .int .i64 v.n, .int .u64 v.b]] w (Ret w (errV er)) := h.ask fun L e hr => by subst e; exact write_out i v w L S hr er et hE hi
theorem o_send_ok (h : Ob X b S w) (i : Nat) (x : Ch) (v : Val) (hx : S.chans[i]? = some x) (hv : v.good = true) (ht : v.t = x.t) (hr' : (x.held.length : Int) < x.room) (h8 : x.room ≤ 8) : Calls Tryd.prog 10 #[.pointer (some ⟨b, 0, none⟩), .int .i64 i, .agg #[.int .i64 v.t, .int .i64 v.n, .int .u64 v.b]] w (RetO X b { S with chans := S.chans.set i { x with held := x.held ++ [v] } } w (.tuple #[.bool true, .nilIface])) := h.call fun L e hr => by subst e; exact send_ok i x v w L S hr hx hv ht hr' h8
theorem o_send_full (h : Ob X b S w) (i : Nat) (x : Ch) (v : Val) (hx : S.chans[i]? = some x) (hv : v.good = true) (ht : v.t = x.t) (hr' : x.room ≤ x.held.length) : Calls Tryd.prog 10 #[.pointer (some ⟨b, 0, none⟩), .int .i64 i, .agg #[.int .i64 v.t, .int .i64 v.n, .int .u64 v.b]] w (Ret w (.tuple #[.bool false, .nilIface])) := h.ask fun L e hr => by subst e; exact send_full i x v w L S hr hx hv ht hr'
theorem o_send_bad (h : Ob X b S w) (i : Nat) (x : Ch) (v : Val) (hE : Errs w er et) (hx : S.chans[i]? = some x) (hv : v.good = false ∨ v.t ≠ x.t) : Calls Tryd.prog 10 #[.pointer (some ⟨b, 0, none⟩), .int .i64 i, .agg #[.int .i64 v.t, .int .i64 v.n, .int .u64 v.b]] w (Ret w (.tuple #[.bool false, errV et])) := h.ask fun L e hr => by subst e; exact send_bad i x v w L S hr er et hE hx hv
theorem o_send_out (h : Ob X b S w) (i : Int) (v : Val) (hE : Errs w er et) (hi : Out i S.chans.length) : Calls Tryd.prog 10 #[.pointer (some ⟨b, 0, none⟩), .int .i64 i, .agg #[.int .i64 v.t, .int .i64 v.n, .int .u64 v.b]] w (Ret w (.tuple #[.bool false, errV er])) := h.ask fun L e hr => by subst e; exact send_out i v w L S hr er et hE hi
theorem o_recv_ok (h : Ob X b S w) (i : Nat) (x : Ch) (v : Val) (l : List Val) (hx : S.chans[i]? = some x) (h0 : x.held = v :: l) (h8 : l.length ≤ 1000) : Calls Tryd.prog 12 #[.pointer (some ⟨b, 0, none⟩), .int .i64 i] w (RetO X b { S with chans := S.chans.set i { x with held := l } } w (.tuple #[.agg #[.int .i64 v.t, .int .i64 v.n, .int .u64 v.b], .bool true, .nilIface])) := h.call fun L e hr => by subst e; exact recv_ok i x v l w L S hr hx h0 h8
theorem o_recv_none (h : Ob X b S w) (i : Nat) (x : Ch) (hx : S.chans[i]? = some x) (h0 : x.held = []) : Calls Tryd.prog 12 #[.pointer (some ⟨b, 0, none⟩), .int .i64 i] w (Ret w (.tuple #[.agg #[.int .i64 0, .int .i64 0, .int .u64 0], .bool false, .nilIface])) := h.ask fun L e hr => by subst e; exact recv_none i x w L S hr hx h0
theorem o_recv_out (h : Ob X b S w) (i : Int) (hE : Errs w er et) (hi : Out i S.chans.length) : Calls Tryd.prog 12 #[.pointer (some ⟨b, 0, none⟩), .int .i64 i] w (Ret w (.tuple #[.agg #[.int .i64 0, .int .i64 0, .int .u64 0], .bool false, errV er])) := h.ask fun L e hr => by subst e; exact recv_out i w L S hr er et hE hi
end

theorem ri_none (w : World) : RI w none [] := ⟨by simp [ints], fun h => by simp [ints] at h⟩
theorem rd_none (w : World) : Rd w none [] := ⟨by simp, fun h => by simp at h⟩
def sA : St := newSt [] 0 [(1, 1)] 0
def sB : St := ⟨[], [], [⟨1, 1, [⟨1, 7, 0⟩]⟩], []⟩

set_option maxHeartbeats 2000000 in
theorem alive_any (w : World) (er et : Addr) (hE : Errs w er et) : Calls Tryd.prog 8 #[] w (Ret w (.bool true)) := by
  have HE := Lib.hid (hE.later (below_alloc (Below.refl w.heap.size w) (.cells #[.int .i64 1, .int .i64 1] 31)))
  clear hE
  go_enter Tryd.func8, Tryd.ntmps8
  go_wp2_with fail
  refine (new_made [] 0 0 [(1, 1)] none (some ⟨w.heap.size, 0, none⟩) 0 1 _ er et HE.out (ri_none _) (by exact rd_blk (cs := [.int .i64 1, .int .i64 1]) (T := 31) (blk_new w _) (by simp [maxLen])) (by decide)).mono ?_
  rintro e w1 ⟨b, rfl, hO, hb⟩
  replace hb := below_next (below_alloc (Below.refl w.heap.size w) _) hb
  have HO := Lib.hid hO
  clear hO
  go_wp2_with fail
  refine (valInt_any 7 w1).mono ?_
  rintro e w2 ⟨rfl, hb2⟩
  replace HO := Lib.hid (HO.out.later hb2)
  replace hb := below_next hb hb2
  clear hb2
  go_wp2_with fail
  refine (o_send_ok HO.out 0 ⟨1, 1, []⟩ ⟨1, 7, 0⟩ rfl rfl rfl (by decide) (by decide)).mono ?_
  rintro e w3 ⟨rfl, hO, hk⟩
  replace HO := Lib.hid hO
  replace hb := hb.trans (hk.below fun _ h => by simp; omega)
  clear hO hk
  go_wp2_with fail
  refine (valInt_any 8 w3).mono ?_
  rintro e w4 ⟨rfl, hb2⟩
  replace HO := Lib.hid (HO.out.later hb2)
  replace hb := below_next hb hb2
  clear hb2
  go_wp2_with fail
  refine (o_send_full HO.out 0 ⟨1, 1, [⟨1, 7, 0⟩]⟩ ⟨1, 8, 0⟩ rfl rfl rfl (by decide)).mono ?_
  rintro e w5 ⟨rfl, hb2⟩
  replace HO := Lib.hid (HO.out.later hb2)
  replace hb := below_next hb hb2
  clear hb2
  go_wp2_with fail
  refine (o_recv_ok HO.out 0 ⟨1, 1, [⟨1, 7, 0⟩]⟩ ⟨1, 7, 0⟩ [] rfl rfl (by decide)).mono ?_
  rintro e w6 ⟨rfl, hO, hk⟩
  replace hb := hb.trans (hk.below fun _ h => by simp; omega)
  clear hO hk HO
  go_wp2_with fail
  go_region_held3 (fun w' => w'.cell? ⟨w6.heap.size, 0, none⟩ = some (.int .i64 1) ∧ w'.cell? ⟨w6.heap.size, 1, none⟩ = some (.int .i64 7) ∧ w'.cell? ⟨w6.heap.size, 2, none⟩ = some (.int .u64 0)) (first | go_keep | exact ⟨c0, c1, c2⟩) (first | (go_at_call 11; refine (valInt_any _ _).mono ?_; rintro e w7 ⟨rfl, hb2⟩; obtain ⟨c0, c1, c2, g0, g1, g2, hz⟩ := res3d (w := w6) (b := .int .i64 7) ⟨hb2.size, hb2.block⟩))
  all_goals
    replace hb := below_next (below_drew1 (below_alloc hb _)) hb2
    go_wp2
    go_ret
    exact ⟨rfl, hb⟩
end Go.Proofs.YtmalbdoneghnmaaDoor
