/-
  A pool of one arena beside a list of the call's own: what each call does to both.
-/
import Derived.Test.YtpjphmpebegidaaDoorPool10
import Derived.Test.YtpjphmpebegidaaDoorPool15
namespace Go.Proofs.YtpjphmpebegidaaDoor
open Go.RowKit Go.Stk

/-- The pool L with its arena l, and the list v, which is none of the pool's. -/
structure ZR (w wr : World) (L : PLay) (l : AL) (v : Value) (runs : List Int) (tk : List Bool) (ws : List Int) (ns : List Int) : Prop where
  rep : PRep wr L ⟨64, ws, [⟨0, 64, runs, tk⟩]⟩
  als : L.als = [l]
  own : ∀ g, L.own g → w.heap.size ≤ g
  bl : Below w.heap.size w wr
  row : Row wr 3 1 v ns.length (ints ns)
  sep : ∀ g ∈ blk v, ¬ L.own g
  low : ∀ g ∈ blk v, w.heap.size ≤ g
def RetZ (w : World) (L : PLay) (l : AL) (v : Value) (runs : List Int) (tk : List Bool) (ws : List Int) (ns : List Int) (r : Value) (e : Ending) (w' : World) : Prop := e = .returned r ∧ ZR w w' L l v runs tk ws ns
section
variable {w wr : World} {L : PLay} {l : AL} {v : Value} {runs : List Int} {tk : List Bool} {ws ns : List Int} (h : ZR w wr L l v runs tk ws ns)
include h
theorem ZR.later {w' : World} (hb : Below wr.heap.size wr w') : ZR w w' L l v runs tk ws ns :=
  ⟨h.rep.later hb, h.als, h.own, below_next h.bl hb, h.row.kept (Kept.ofBelow hb []) (by simp), h.sep, h.low⟩
theorem ZR.turn {w' : World} {runs' : List Int} {tk' : List Bool} {ws' : List Int} (hp : PRep w' L ⟨64, ws', [⟨0, 64, runs', tk'⟩]⟩) (hk : Kept L.fp wr w') : ZR w w' L l v runs' tk' ws' ns :=
  ⟨hp, h.als, h.own, h.bl.trans (hk.below (fun g hg => h.own g (PLay.mem.1 hg)) h.bl.size), h.row.kept hk fun g hg hx => h.sep g hg (PLay.mem.1 hx), h.sep, h.low⟩
/-- The list turned, by what is none of the pool's. -/
theorem ZR.list {w' : World} {fp : List Nat} (hk : Kept fp wr w') (hfp : ∀ g ∈ fp, ¬ L.own g ∧ w.heap.size ≤ g) (v' : Value) (ns' : List Int) (hr : Row w' 3 1 v' ns'.length (ints ns')) (hs : ∀ g ∈ blk v', g ∈ fp ∨ wr.heap.size ≤ g) : ZR w w' L l v' runs tk ws ns' := by
  refine ⟨h.rep.kept hk fun g hg hx => (hfp g hx).1 hg, h.als, h.own, h.bl.trans (hk.below (fun g hg => (hfp g hg).2) h.bl.size), hr, fun g hg hx => ?_, fun g hg => ?_⟩
  · rcases hs g hg with h1 | h1
    · exact (hfp g h1).1 hx
    · have := h.rep.lt g hx; omega
  · rcases hs g hg with h1 | h1
    · exact (hfp g h1).2
    · exact Nat.le_trans h.bl.size h1
theorem ZR.al : L.als[0]? = some l := by rw [h.als]; rfl
theorem z_alloc_none (n : Int) (need : Nat) (er en ea : Addr) (hE : Errs w er en ea) (hn : 1 ≤ n) (h64 : n ≤ 9223372036854775807) (hneed : (n - 1) / 16 + 1 = (need : Int)) (hno : ∀ f, ¬ Fits tk need f) : Calls Tryd.prog 11 #[.pointer (some ⟨l.ab, 0, none⟩), .int .i64 n] wr (RetZ w L l v runs tk ws ns (.tuple #[.int .i64 0, errV ea])) :=
  (alloc_none (i := 0) h.rep rfl h.al n need er en ea (hE.later h.bl) hn h64 hneed hno).mono fun _ _ ⟨h1, h2⟩ => ⟨h1, h.later h2⟩
theorem z_alloc_ok (n : Int) (need first : Nat) (hn : 1 ≤ n) (h64 : n ≤ 9223372036854775807) (hneed : (n - 1) / 16 + 1 = (need : Int)) (hfit : Fits tk need first) (hmin : ∀ f, f < first → ¬ Fits tk need f) :
    Calls Tryd.prog 11 #[.pointer (some ⟨l.ab, 0, none⟩), .int .i64 n] wr (RetZ w L l v (runs.set first (need : Int)) (rng tk first (first + need) true) ws ns (.tuple #[.int .i64 (first * 16 : Nat), .nilIface])) :=
  (alloc_ok (i := 0) h.rep rfl h.al n need first hn h64 hneed hfit hmin).mono fun _ _ ⟨h1, h2, h3⟩ => ⟨h1, h.turn h2 h3⟩
theorem z_size (k : Nat) (r q : Int) (hq : q = 16 * (k : Int)) (hk : runs[k]? = some r) (r0 : 0 ≤ r) (r1 : r ≤ 256) : Calls Tryd.prog 12 #[.pointer (some ⟨l.ab, 0, none⟩), .int .i64 q] wr (RetZ w L l v runs tk ws ns (.int .i64 (r * 16))) :=
  (size_in (i := 0) h.rep rfl h.al k r q hq hk r0 r1).mono fun _ _ ⟨h1, h2⟩ => ⟨h1, h.later h2⟩
theorem z_get (q : Nat) (x : Int) (hk : tk[q / 16]? = some true) (hx : ws[q]? = some x) : Calls Tryd.prog 16 #[.pointer (some ⟨l.ab, 0, none⟩), .int .i64 q] wr (RetZ w L l v runs tk ws ns (.tuple #[.int .i64 x, .nilIface])) :=
  (get_in (i := 0) h.rep rfl h.al (q / 16) (q % 16) x (by omega) (q : Int) (by omega) hk (by show ws[0 * 16 + q / 16 * 16 + q % 16]? = _; rw [show 0 * 16 + q / 16 * 16 + q % 16 = q by omega]; exact hx)).mono fun _ _ ⟨h1, h2⟩ => ⟨h1, h.later h2⟩
theorem z_set (q : Nat) (x : Int) (hk : tk[q / 16]? = some true) : Calls Tryd.prog 14 #[.pointer (some ⟨l.ab, 0, none⟩), .int .i64 q, .int .i64 x] wr (RetZ w L l v runs tk (ws.set q x) ns .nilIface) :=
  (set_in (i := 0) h.rep rfl h.al (q / 16) (q % 16) x (by omega) (q : Int) (by omega) hk).mono fun _ _ ⟨h1, h2, h3⟩ => ⟨h1, h.turn (by
    have e : (⟨0, 64, runs, tk⟩ : Ar).off * 16 + q / 16 * 16 + q % 16 = q := by show 0 * 16 + q / 16 * 16 + q % 16 = q; omega
    rw [e] at h2
    exact h2) h3⟩
theorem z_free (k m : Nat) (q : Int) (hq : q = 16 * (k : Int)) (hk : runs[k]? = some (m : Int)) (hm : 0 < m) (hkm : k + m ≤ 64) : Calls Tryd.prog 15 #[.pointer (some ⟨l.ab, 0, none⟩), .int .i64 q] wr
    (RetZ w L l v (runs.set k 0) (rng tk k (k + m) false) (rng ws (k * 16) (k * 16 + m * 16) 0) ns .nilIface) :=
  (free_ok (i := 0) h.rep rfl h.al k m q hq hk hm hkm).mono fun _ _ ⟨h1, h2, h3⟩ => ⟨h1, h.turn (by simpa using h2) h3⟩
theorem z_used : Calls Tryd.prog 13 #[.pointer (some ⟨l.ab, 0, none⟩)] wr (RetZ w L l v runs tk ws ns (.int .i64 (trues tk : Nat))) :=
  (used_any (i := 0) h.rep rfl h.al).mono fun _ _ ⟨h1, h2⟩ => ⟨h1, h.later h2⟩
theorem z_clear : Calls Tryd.prog 20 #[.pointer (some ⟨l.ab, 0, none⟩)] wr (RetZ w L l v (List.replicate 64 0) (List.replicate 64 false) (rng ws (0 * 16) (0 * 16 + 64 * 16) 0) ns (.tuple #[])) :=
  (clear_any (i := 0) h.rep rfl h.al).mono fun _ _ ⟨h1, h2, h3⟩ => ⟨h1, h.turn h2 h3⟩
end
end Go.Proofs.YtpjphmpebegidaaDoor
