/-
  A pool's runs freed; how many pages are taken.
-/
import Derived.Test.YtpjphmpebegidaaDoorPool4
import Derived.Laws.Tables
namespace Go.Proofs.YtpjphmpebegidaaDoor
open Go.RowKit Go.Stk
attribute [local go_sem ↓] Go.wp_at_zero Go.wp_at_succ

theorem kept_row (w : World) (g : Nat) (cs : Array Value) : Kept [g] w (w.setRow g cs) := ⟨rfl, rfl, rfl, by simp, fun k _ hk => setRow_other w g k cs (by simpa using hk)⟩
/-- A stretch cleared: what the block is then. -/
theorem clear_ints {P : Program} {w : World} {t e T : TypeId} {z : Value} {k : Nat} (ht : P.underlying t = some (.slice e)) (hinfo : (P.info? e).map (fun i => (i.zero, i.size)) = some (some z, k)) (hz : ∀ n, (Builtin.zeroCells z.cells n).toList = List.replicate (n * k) (.int .i64 0))
    {g : Nat} {xs : List Int} (hg : w.heap[g]? = some (.cells (ints xs).toArray T (0, 0))) (off n : Nat) (hn : 0 < n) (hfit : off + n * k ≤ xs.length) :
    ∃ W, (∀ (ty : TypeId) (c : Nat), (Builtin.clear_ #[t] ty #[.slice (some ⟨g, off, none⟩) n c]).run P w = .ok (.tuple #[]) W) ∧ W.heap[g]? = some (.cells (ints (rng xs off (off + n * k) 0)).toArray T (0, 0)) ∧ Kept [g] w W := by
  refine ⟨_, fun ty c => run_clear w t ty e T z (.int .i64 0) k ht hinfo hz rfl g off n c _ hg hn (by simpa using hfit), ?_, kept_row _ _ _⟩
  rw [setRow_heap w g _ _ T (0, 0) hg, ints_rng]
  simp
theorem clear_bools {P : Program} {w : World} {t e T : TypeId} {z : Value} (ht : P.underlying t = some (.slice e)) (hinfo : (P.info? e).map (fun i => (i.zero, i.size)) = some (some z, 1)) (hz : ∀ n, (Builtin.zeroCells z.cells n).toList = List.replicate (n * 1) (.bool false))
    {g : Nat} {xs : List Bool} (hg : w.heap[g]? = some (.cells (bcells xs).toArray T (0, 0))) (off n : Nat) (hn : 0 < n) (hfit : off + n ≤ xs.length) :
    ∃ W, (∀ (ty : TypeId) (c : Nat), (Builtin.clear_ #[t] ty #[.slice (some ⟨g, off, none⟩) n c]).run P w = .ok (.tuple #[]) W) ∧ W.heap[g]? = some (.cells (bcells (rng xs off (off + n) false)).toArray T (0, 0)) ∧ Kept [g] w W := by
  refine ⟨_, fun ty c => run_clear w t ty e T z (.bool false) 1 ht hinfo hz rfl g off n c _ hg hn (by simpa [bcells] using hfit), ?_, kept_row _ _ _⟩
  rw [setRow_heap w g _ _ T (0, 0) hg, bcells_rng]
  simp
section
variable {w : World} {L : PLay} {S : PS} (h : PRep w L S)
variable {i : Nat} {a : Ar} {l : AL} (ha : S.ars[i]? = some a) (hl : L.als[i]? = some l)
include h ha hl
theorem free_none (p : Int) (er en ea : Addr) (hE : Errs w er en ea) (hp : NoRun p a.n ∨ ∃ k : Nat, p = 16 * (k : Int) ∧ a.runs[k]? = some 0) (h64 : p ≤ 9223372036854775807) : Calls Tryd.prog 15 #[.pointer (some ⟨l.ab, 0, none⟩), .int .i64 p] w (Ret w (errV en)) := by
  have HW : Hid (Calls Tryd.prog 33 #[.pointer (some ⟨l.ab, 0, none⟩), .int .i64 p] w (Ret w (.int .i64 0))) := by
    rcases hp with hp | ⟨k, hp, hk⟩
    · exact run_out h ha hl p hp h64
    · exact run_in h ha hl k 0 p hp hk
  have HE := Lib.hid hE
  clear hp h64 hE ha hl h
  go_enter Tryd.func15, Tryd.ntmps15
  go_wp2_with fail
  refine HW.out.mono ?_
  rintro e w1 ⟨rfl, hb⟩
  have hn := (HE.out.later hb).n
  go_wp2_with fail
  go_ret
  exact ⟨rfl, hb⟩
set_option maxHeartbeats 1000000 in
theorem free_ok (k m : Nat) (p : Int) (hp : p = 16 * (k : Int)) (hk : a.runs[k]? = some (m : Int)) (hm : 0 < m) (hkm : k + m ≤ a.n) : Calls Tryd.prog 15 #[.pointer (some ⟨l.ab, 0, none⟩), .int .i64 p] w
    (RetP w L { S with words := rng S.words (a.off * 16 + k * 16) (a.off * 16 + k * 16 + m * 16) 0, ars := S.ars.set i { a with runs := a.runs.set k 0, taken := rng a.taken k (k + m) false } } .nilIface) := by
  have HW := Lib.hid (run_same h ha hl k m p hp hk)
  obtain ⟨hr, ho⟩ := h.ar i a l ha hl
  have hlw := h.lw
  have hmem := List.mem_of_getElem? hl
  have s := h.sep
  have hi := (List.getElem?_eq_some_iff.1 ha).1
  have f0 : w.cell? ⟨l.ab, 0, none⟩ = some (.slice (some ⟨L.gb, a.off * 16, none⟩) a.n a.n) := by rw [blk_cell hr.blk, ← hr.pa (by omega)]; rfl
  obtain ⟨W1, E1, g1, k1⟩ := clear_ints (P := Tryd.prog) Tryd.underlying62 infoPage zeroPage h.pages (a.off * 16 + k * 16) m hm (by omega)
  have h1 := h.setWords _ k1 g1 (by rw [rng_len _ _ _ _ (by omega) (by omega)]; exact hlw)
  obtain ⟨hr1, _⟩ := h1.ar i a l ha hl
  have f2 : W1.cell? ⟨l.ab, 2, none⟩ = some (.slice (some ⟨l.tb, 0, none⟩) a.n a.n) := by rw [blk_cell hr1.blk]; rfl
  obtain ⟨W2, E2, g2, k2⟩ := clear_bools (P := Tryd.prog) Tryd.underlying63 infoBool (zeroOne _ rfl) hr1.taken k m hm (by rw [hr1.lt]; exact hkm)
  have h2 := h1.setTaken ha hl _ k2 g2 (by rw [rng_len _ _ _ _ (by omega) (by rw [hr1.lt]; exact hkm)]; exact hr1.lt)
  have ha2 : (S.ars.set i { a with taken := rng a.taken k (k + m) false })[i]? = some { a with taken := rng a.taken k (k + m) false } := by simp [hi]
  obtain ⟨hr2, _⟩ := h2.ar i _ l ha2 hl
  have f1 : W2.cell? ⟨l.ab, 1, none⟩ = some (.slice (some ⟨l.rb, 0, none⟩) a.n a.n) := by rw [blk_cell hr2.blk]; rfl
  have c1 : W2.cell? ⟨l.rb, k, none⟩ = some (.int .i64 m) := by rw [blk_cell hr2.runs]; exact ints_at hk
  have z1 : W2.frozen? ⟨l.rb, k, none⟩ = false := blk_free hr2.runs _
  have k3 : Kept [l.rb] W2 (W2.setCell ⟨l.rb, k, none⟩ (.int .i64 0)) := (Kept.refl _ _).set _ _ (.inl (by simp))
  have h3 := h2.setRuns ha2 hl (a.runs.set k 0) k3 (by
    have := blk_set hr2.runs k (.int .i64 0)
    rw [this]
    simp [ints, List.map_set]) (by simpa using hr.lr)
  have FIN : Hid (RetP w L { S with words := rng S.words (a.off * 16 + k * 16) (a.off * 16 + k * 16 + m * 16) 0, ars := S.ars.set i { a with runs := a.runs.set k 0, taken := rng a.taken k (k + m) false } } .nilIface (.returned .nilIface) (W2.setCell ⟨l.rb, k, none⟩ (.int .i64 0))) := by
    refine ⟨rfl, by simpa using h3, ?_⟩
    have o1 : L.gb ∈ L.fp := PLay.mem.2 (.inr (.inl rfl))
    have o2 : l.tb ∈ L.fp := PLay.mem.2 (.inr (.inr (.inr ⟨l, hmem, by simp [AL.bl]⟩)))
    have o3 : l.rb ∈ L.fp := PLay.mem.2 (.inr (.inr (.inr ⟨l, hmem, by simp [AL.bl]⟩)))
    refine ((k1.mono (by simpa using o1)).trans k2 ?_).trans k3 ?_
    · simp; exact .inl o2
    · simp; exact .inl o3
  have e0 : ((m : Int) == 0) = false := by simp; omega
  have p0 : 0 ≤ p := by omega
  have hn256 := h.hnp
  have p1 : p ≤ 4096 := by omega
  have e2 : p / 16 = (k : Int) := by omega
  have b1 : (k : Int) + (m : Int) ≤ (a.n : Int) := by omega
  have b2 : (a.n : Int) ≤ 256 := by omega
  have b3 : 0 < (m : Int) := by omega
  clear hp hk hr hr1 hr2 ho hlw hmem s ha ha2 hl h h1 h2 h3 g1 g2 k1 k2 k3 hi hm hkm hn256
  go_enter Tryd.func15, Tryd.ntmps15
  go_wp2_with fail
  refine HW.out.mono ?_
  rintro e w1 ⟨rfl, rfl⟩
  go_wp2_with fail
  go_ret
  exact FIN.out
end
end Go.Proofs.YtpjphmpebegidaaDoor
