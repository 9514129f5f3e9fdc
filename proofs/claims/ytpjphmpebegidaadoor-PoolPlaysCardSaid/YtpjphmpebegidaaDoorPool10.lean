/-
  One arena of a pool as an object: what its calls answer, and what becomes of it.
-/
import Derived.Test.YtpjphmpebegidaaDoorPool8
namespace Go.Proofs.YtpjphmpebegidaaDoor
open Go.RowKit Go.Stk

/-- A pool of the call's own. -/
structure Oa (B W : World) (L : PLay) (S : PS) : Prop where
  rep : PRep W L S
  own : ∀ g, L.own g → B.heap.size ≤ g
  bl : Below B.heap.size B W
theorem Oa.later {B W W' : World} {L : PLay} {S : PS} (h : Oa B W L S) (hb : Below W.heap.size W W') : Oa B W' L S := ⟨h.rep.later hb, h.own, below_next h.bl hb⟩
theorem Oa.turn {B W W' : World} {L : PLay} {S S' : PS} (h : Oa B W L S) (hp : PRep W' L S') (hk : Kept L.fp W W') : Oa B W' L S' :=
  ⟨hp, h.own, h.bl.trans (hk.below (fun g hg => h.own g (PLay.mem.1 hg)) h.bl.size)⟩
/-- An arena of a pool of the call's own: where it lies, its state, all the pool's words. -/
def AOb (B W : World) (p : Nat) (a : Ar) (ws : List Int) : Prop := ∃ (L : PLay) (S : PS) (i : Nat) (l : AL), Oa B W L S ∧ S.ars[i]? = some a ∧ L.als[i]? = some l ∧ l.ab = p ∧ S.words = ws
def RetA (B : World) (p : Nat) (v : Value) (a : Ar) (ws : List Int) (e : Ending) (W' : World) : Prop := e = .returned v ∧ AOb B W' p a ws
theorem AOb.bl {B W : World} {p : Nat} {a : Ar} {ws : List Int} (h : AOb B W p a ws) : Below B.heap.size B W := by
  obtain ⟨L, S, i, l, ho, _⟩ := h
  exact ho.bl
theorem AOb.later {B W W' : World} {p : Nat} {a : Ar} {ws : List Int} (h : AOb B W p a ws) (hb : Below W.heap.size W W') : AOb B W' p a ws := by
  obtain ⟨L, S, i, l, ho, r⟩ := h
  exact ⟨L, S, i, l, ho.later hb, r⟩
section
variable {B W : World} {p : Nat} {a : Ar} {ws : List Int} (h : AOb B W p a ws)
include h
theorem AOb.form : a.runs.length = a.n ∧ a.taken.length = a.n ∧ a.n ≤ 256 ∧ a.off * 16 + a.n * 16 ≤ ws.length := by
  obtain ⟨L, S, i, l, ho, ha, hl, rfl, rfl⟩ := h
  obtain ⟨hr, h2⟩ := ho.rep.ar i a l ha hl
  have h3 := ho.rep.lw
  have h4 := ho.rep.hnp
  exact ⟨hr.lr, hr.lt, by omega, by omega⟩
theorem o_alloc_neg (n : Int) (er en ea : Addr) (hE : Errs B er en ea) (hn : n < 1) : Calls Tryd.prog 11 #[.pointer (some ⟨p, 0, none⟩), .int .i64 n] W (RetA B p (.tuple #[.int .i64 0, errV er]) a ws) := by
  obtain ⟨L, S, i, l, ho, ha, hl, rfl, rfl⟩ := h
  exact (alloc_neg n er en ea (hE.later ho.bl) hn).mono fun e W' ⟨h1, h2⟩ => ⟨h1, L, S, i, l, ho.later h2, ha, hl, rfl, rfl⟩
theorem o_alloc_none (n : Int) (need : Nat) (er en ea : Addr) (hE : Errs B er en ea) (hn : 1 ≤ n) (h64 : n ≤ 9223372036854775807) (hneed : (n - 1) / 16 + 1 = (need : Int)) (hno : ∀ f, ¬ Fits a.taken need f) : Calls Tryd.prog 11 #[.pointer (some ⟨p, 0, none⟩), .int .i64 n] W (RetA B p (.tuple #[.int .i64 0, errV ea]) a ws) := by
  obtain ⟨L, S, i, l, ho, ha, hl, rfl, rfl⟩ := h
  exact (alloc_none ho.rep ha hl n need er en ea (hE.later ho.bl) hn h64 hneed hno).mono fun e W' ⟨h1, h2⟩ => ⟨h1, L, S, i, l, ho.later h2, ha, hl, rfl, rfl⟩
theorem o_alloc_ok (n : Int) (need first : Nat) (hn : 1 ≤ n) (h64 : n ≤ 9223372036854775807) (hneed : (n - 1) / 16 + 1 = (need : Int)) (hfit : Fits a.taken need first) (hmin : ∀ f, f < first → ¬ Fits a.taken need f) :
    Calls Tryd.prog 11 #[.pointer (some ⟨p, 0, none⟩), .int .i64 n] W (RetA B p (.tuple #[.int .i64 (first * 16 : Nat), .nilIface]) { a with runs := a.runs.set first (need : Int), taken := rng a.taken first (first + need) true } ws) := by
  obtain ⟨L, S, i, l, ho, ha, hl, rfl, rfl⟩ := h
  have hi := (List.getElem?_eq_some_iff.1 ha).1
  exact (alloc_ok ho.rep ha hl n need first hn h64 hneed hfit hmin).mono fun e W' ⟨h1, h2, h3⟩ => ⟨h1, L, _, i, l, ho.turn h2 h3, by simp [hi], hl, rfl, rfl⟩
theorem o_size_in (k : Nat) (r q : Int) (hq : q = 16 * (k : Int)) (hk : a.runs[k]? = some r) (r0 : 0 ≤ r) (r1 : r ≤ 256) : Calls Tryd.prog 12 #[.pointer (some ⟨p, 0, none⟩), .int .i64 q] W (RetA B p (.int .i64 (r * 16)) a ws) := by
  obtain ⟨L, S, i, l, ho, ha, hl, rfl, rfl⟩ := h
  exact (size_in ho.rep ha hl k r q hq hk r0 r1).mono fun e W' ⟨h1, h2⟩ => ⟨h1, L, S, i, l, ho.later h2, ha, hl, rfl, rfl⟩
theorem o_size_out (q : Int) (hq : NoRun q a.n) (h64 : q ≤ 9223372036854775807) : Calls Tryd.prog 12 #[.pointer (some ⟨p, 0, none⟩), .int .i64 q] W (RetA B p (.int .i64 0) a ws) := by
  obtain ⟨L, S, i, l, ho, ha, hl, rfl, rfl⟩ := h
  exact (size_out ho.rep ha hl q hq h64).mono fun e W' ⟨h1, h2⟩ => ⟨h1, L, S, i, l, ho.later h2, ha, hl, rfl, rfl⟩
theorem o_get_in (k j : Nat) (x : Int) (hj : j < 16) (q : Int) (hq : q = 16 * (k : Int) + (j : Int)) (hk : a.taken[k]? = some true) (hx : ws[a.off * 16 + k * 16 + j]? = some x) : Calls Tryd.prog 16 #[.pointer (some ⟨p, 0, none⟩), .int .i64 q] W (RetA B p (.tuple #[.int .i64 x, .nilIface]) a ws) := by
  obtain ⟨L, S, i, l, ho, ha, hl, rfl, rfl⟩ := h
  exact (get_in ho.rep ha hl k j x hj q hq hk hx).mono fun e W' ⟨h1, h2⟩ => ⟨h1, L, S, i, l, ho.later h2, ha, hl, rfl, rfl⟩
theorem o_get_out (q : Int) (er en ea : Addr) (hE : Errs B er en ea) (hq : NoWord q a) (h64 : q ≤ 9223372036854775807) : Calls Tryd.prog 16 #[.pointer (some ⟨p, 0, none⟩), .int .i64 q] W (RetA B p (.tuple #[.int .i64 0, errV er]) a ws) := by
  obtain ⟨L, S, i, l, ho, ha, hl, rfl, rfl⟩ := h
  exact (get_out ho.rep ha hl q er en ea (hE.later ho.bl) hq h64).mono fun e W' ⟨h1, h2⟩ => ⟨h1, L, S, i, l, ho.later h2, ha, hl, rfl, rfl⟩
theorem o_set_out (q v : Int) (er en ea : Addr) (hE : Errs B er en ea) (hq : NoWord q a) (h64 : q ≤ 9223372036854775807) : Calls Tryd.prog 14 #[.pointer (some ⟨p, 0, none⟩), .int .i64 q, .int .i64 v] W (RetA B p (errV er) a ws) := by
  obtain ⟨L, S, i, l, ho, ha, hl, rfl, rfl⟩ := h
  exact (set_out ho.rep ha hl q v er en ea (hE.later ho.bl) hq h64).mono fun e W' ⟨h1, h2⟩ => ⟨h1, L, S, i, l, ho.later h2, ha, hl, rfl, rfl⟩
theorem o_set_in (k j : Nat) (v : Int) (hj : j < 16) (q : Int) (hq : q = 16 * (k : Int) + (j : Int)) (hk : a.taken[k]? = some true) : Calls Tryd.prog 14 #[.pointer (some ⟨p, 0, none⟩), .int .i64 q, .int .i64 v] W (RetA B p .nilIface a (ws.set (a.off * 16 + k * 16 + j) v)) := by
  obtain ⟨L, S, i, l, ho, ha, hl, rfl, rfl⟩ := h
  exact (set_in ho.rep ha hl k j v hj q hq hk).mono fun e W' ⟨h1, h2, h3⟩ => ⟨h1, L, _, i, l, ho.turn h2 h3, ha, hl, rfl, rfl⟩
theorem o_free_none (q : Int) (er en ea : Addr) (hE : Errs B er en ea) (hq : NoRun q a.n ∨ ∃ k : Nat, q = 16 * (k : Int) ∧ a.runs[k]? = some 0) (h64 : q ≤ 9223372036854775807) : Calls Tryd.prog 15 #[.pointer (some ⟨p, 0, none⟩), .int .i64 q] W (RetA B p (errV en) a ws) := by
  obtain ⟨L, S, i, l, ho, ha, hl, rfl, rfl⟩ := h
  exact (free_none ho.rep ha hl q er en ea (hE.later ho.bl) hq h64).mono fun e W' ⟨h1, h2⟩ => ⟨h1, L, S, i, l, ho.later h2, ha, hl, rfl, rfl⟩
theorem o_free_ok (k m : Nat) (q : Int) (hq : q = 16 * (k : Int)) (hk : a.runs[k]? = some (m : Int)) (hm : 0 < m) (hkm : k + m ≤ a.n) : Calls Tryd.prog 15 #[.pointer (some ⟨p, 0, none⟩), .int .i64 q] W
    (RetA B p .nilIface { a with runs := a.runs.set k 0, taken := rng a.taken k (k + m) false } (rng ws (a.off * 16 + k * 16) (a.off * 16 + k * 16 + m * 16) 0)) := by
  obtain ⟨L, S, i, l, ho, ha, hl, rfl, rfl⟩ := h
  have hi := (List.getElem?_eq_some_iff.1 ha).1
  exact (free_ok ho.rep ha hl k m q hq hk hm hkm).mono fun e W' ⟨h1, h2, h3⟩ => ⟨h1, L, _, i, l, ho.turn h2 h3, by simp [hi], hl, rfl, rfl⟩
theorem o_used : Calls Tryd.prog 13 #[.pointer (some ⟨p, 0, none⟩)] W (RetA B p (.int .i64 (trues a.taken : Nat)) a ws) := by
  obtain ⟨L, S, i, l, ho, ha, hl, rfl, rfl⟩ := h
  exact (used_any ho.rep ha hl).mono fun e W' ⟨h1, h2⟩ => ⟨h1, L, S, i, l, ho.later h2, ha, hl, rfl, rfl⟩
theorem o_clear : Calls Tryd.prog 20 #[.pointer (some ⟨p, 0, none⟩)] W (RetA B p (.tuple #[]) (cleared a) (rng ws (a.off * 16) (a.off * 16 + a.n * 16) 0)) := by
  obtain ⟨L, S, i, l, ho, ha, hl, rfl, rfl⟩ := h
  have hi := (List.getElem?_eq_some_iff.1 ha).1
  exact (clear_any ho.rep ha hl).mono fun e W' ⟨h1, h2, h3⟩ => ⟨h1, L, _, i, l, ho.turn h2 h3, by simp [hi], hl, rfl, rfl⟩
end
/-! ### The first place that fits -/
def fitsB (t : List Bool) (need f : Nat) : Bool := decide (f + need ≤ t.length) && (List.range need).all fun d => t[f + d]? == some false
theorem fits_iff (t : List Bool) (need f : Nat) : Fits t need f ↔ fitsB t need f = true := by
  unfold Fits fitsB
  simp only [Bool.and_eq_true, decide_eq_true_eq, List.all_eq_true, List.mem_range, beq_iff_eq]
  constructor
  · exact fun ⟨h1, h2⟩ => ⟨h1, fun d hd => h2 _ (by omega) (by omega)⟩
  · exact fun ⟨h1, h2⟩ => ⟨h1, fun x h3 h4 => by have := h2 (x - f) (by omega); rwa [show f + (x - f) = x by omega] at this⟩
theorem fits_short {t : List Bool} {need f : Nat} (h : t.length < f + need) : ¬ Fits t need f := fun hf => by have := hf.1; omega
/-- All free: the first place. -/
theorem fits_free (m need : Nat) (h : need ≤ m) : Fits (List.replicate m false) need 0 := ⟨by simpa using h, fun x _ hx => by rw [List.getElem?_replicate]; simp; omega⟩
end Go.Proofs.YtpjphmpebegidaaDoor
