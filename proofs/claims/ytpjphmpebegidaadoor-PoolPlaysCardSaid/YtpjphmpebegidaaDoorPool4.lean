/-
  A pool's words told and set; the builtin clear; a run freed.
-/
import Derived.Test.YtpjphmpebegidaaDoorPool3
namespace Go.Proofs.YtpjphmpebegidaaDoor
open Go.RowKit Go.Stk
attribute [local go_sem ↓] Go.wp_at_zero Go.wp_at_succ

theorem infoPage : (Tryd.prog.info? 74).map (fun i => (i.zero, i.size)) = some (some (.agg #[.int .i64 0, .int .i64 0, .int .i64 0, .int .i64 0, .int .i64 0, .int .i64 0, .int .i64 0, .int .i64 0, .int .i64 0, .int .i64 0, .int .i64 0, .int .i64 0, .int .i64 0, .int .i64 0, .int .i64 0, .int .i64 0]), 16) := by kernel_rfl
theorem infoBool : (Tryd.prog.info? 4).map (fun i => (i.zero, i.size)) = some (some (.bool false), 1) := by kernel_rfl
theorem infoInt : (Tryd.prog.info? 3).map (fun i => (i.zero, i.size)) = some (some (.int .i64 0), 1) := by kernel_rfl
/-- The builtin clear of a stretch of a block. -/
theorem run_clear {P : Program} (w : World) (t ty e T : TypeId) (z v : Value) (k : Nat) (ht : P.underlying t = some (.slice e)) (hinfo : (P.info? e).map (fun i => (i.zero, i.size)) = some (some z, k)) (hz : ∀ n, (Builtin.zeroCells z.cells n).toList = List.replicate (n * k) v) (hv : v.oneCell' = true)
    (g off n c : Nat) (cur : Array Value) (hg : w.heap[g]? = some (.cells cur T (0, 0))) (hn : 0 < n) (hfit : off + n * k ≤ cur.size) :
    (Builtin.clear_ #[t] ty #[.slice (some ⟨g, off, none⟩) n c]).run P w = .ok (.tuple #[]) (w.setRow g (cur.toList.take off ++ (List.replicate (n * k) v ++ cur.toList.drop (off + n * k))).toArray) := by
  obtain ⟨i, hi, hzz⟩ := Option.map_eq_some_iff.1 hinfo
  simp only [Prod.mk.injEq] at hzz
  obtain ⟨hz0, hz1⟩ := hzz
  have hst := run_storeCells_at (P := P) g off T (List.replicate (n * k) v) 0 cur w hg (by simpa using hfit) (by intro u hu; rw [List.eq_of_mem_replicate hu]; exact hv)
  obtain ⟨m, rfl⟩ : ∃ m, n = m + 1 := ⟨n - 1, by omega⟩
  simp only [Nat.add_zero, List.length_replicate] at hst
  simp [Builtin.clear_, run_underlying ht, zeroValue, typeInfo, hi, hz0, hz, hst]
theorem zeroPage (n : Nat) : (Builtin.zeroCells (Value.cells (.agg #[.int .i64 0, .int .i64 0, .int .i64 0, .int .i64 0, .int .i64 0, .int .i64 0, .int .i64 0, .int .i64 0, .int .i64 0, .int .i64 0, .int .i64 0, .int .i64 0, .int .i64 0, .int .i64 0, .int .i64 0, .int .i64 0])) n).toList = List.replicate (n * 16) (.int .i64 0) := by
  have hc : Value.cells (.agg #[.int .i64 0, .int .i64 0, .int .i64 0, .int .i64 0, .int .i64 0, .int .i64 0, .int .i64 0, .int .i64 0, .int .i64 0, .int .i64 0, .int .i64 0, .int .i64 0, .int .i64 0, .int .i64 0, .int .i64 0, .int .i64 0]) = Array.replicate 16 (.int .i64 0) := rfl
  rw [hc]
  apply List.ext_getElem?
  intro j
  simp only [Builtin.zeroCells, Array.toList_map, List.getElem?_map, List.getElem?_replicate, Array.toList_range, Array.size_replicate]
  by_cases hj : j < n * 16
  · simp [hj]
    have : j % 16 < 16 := Nat.mod_lt _ (by omega)
    rw [getElem!_pos _ _ (by simpa using this)]
    simp
  · simp [hj]
theorem zeroOne (v : Value) (hv : v.cells = #[v]) (n : Nat) : (Builtin.zeroCells v.cells n).toList = List.replicate (n * 1) v := by
  rw [hv]
  apply List.ext_getElem?
  intro j
  simp only [Builtin.zeroCells, Array.toList_map, List.getElem?_map, List.getElem?_replicate, Array.toList_range]
  by_cases hj : j < n
  · simp [hj, Nat.mod_one]
  · simp [hj]
section
variable {w : World} {L : PLay} {S : PS} (h : PRep w L S)
variable {i : Nat} {a : Ar} {l : AL} (ha : S.ars[i]? = some a) (hl : L.als[i]? = some l)
include h ha hl
theorem get_out (p : Int) (er en ea : Addr) (hE : Errs w er en ea) (hp : NoWord p a) (h64 : p ≤ 9223372036854775807) : Calls Tryd.prog 16 #[.pointer (some ⟨l.ab, 0, none⟩), .int .i64 p] w (Ret w (.tuple #[.int .i64 0, errV er])) := by
  have HW := Lib.hid (word_out h ha hl p er en ea hE hp h64)
  clear h64 hp hE ha hl h
  go_enter Tryd.func16, Tryd.ntmps16
  go_wp2_with fail
  refine HW.out.mono ?_
  rintro e w1 ⟨rfl, hb⟩
  unfold errV
  go_wp2_with fail
  go_ret2
  exact ⟨rfl, hb⟩
theorem get_in (k j : Nat) (x : Int) (hj : j < 16) (p : Int) (hp : p = 16 * (k : Int) + (j : Int)) (hk : a.taken[k]? = some true) (hx : S.words[a.off * 16 + k * 16 + j]? = some x) : Calls Tryd.prog 16 #[.pointer (some ⟨l.ab, 0, none⟩), .int .i64 p] w (Ret w (.tuple #[.int .i64 x, .nilIface])) := by
  have HW := Lib.hid (word_in h ha hl k j hj p hp hk)
  have k0 : w.cell? ⟨L.gb, a.off * 16 + k * 16 + j, none⟩ = some (.int .i64 x) := by rw [blk_cell h.pages]; exact ints_at hx
  clear hp hk hx ha hl h
  go_enter Tryd.func16, Tryd.ntmps16
  go_wp2_with fail
  refine HW.out.mono ?_
  rintro e w1 ⟨rfl, rfl⟩
  go_wp2_with fail
  go_ret2
  exact ⟨rfl, Below.refl _ _⟩
theorem set_out (p v : Int) (er en ea : Addr) (hE : Errs w er en ea) (hp : NoWord p a) (h64 : p ≤ 9223372036854775807) : Calls Tryd.prog 14 #[.pointer (some ⟨l.ab, 0, none⟩), .int .i64 p, .int .i64 v] w (Ret w (errV er)) := by
  have HW := Lib.hid (word_out h ha hl p er en ea hE hp h64)
  clear h64 hp hE ha hl h
  go_enter Tryd.func14, Tryd.ntmps14
  go_wp2_with fail
  refine HW.out.mono ?_
  rintro e w1 ⟨rfl, hb⟩
  unfold errV
  go_wp2_with fail
  go_ret
  exact ⟨rfl, hb⟩
theorem set_in (k j : Nat) (v : Int) (hj : j < 16) (p : Int) (hp : p = 16 * (k : Int) + (j : Int)) (hk : a.taken[k]? = some true) : Calls Tryd.prog 14 #[.pointer (some ⟨l.ab, 0, none⟩), .int .i64 p, .int .i64 v] w (RetP w L { S with words := S.words.set (a.off * 16 + k * 16 + j) v } .nilIface) := by
  have HW := Lib.hid (word_in h ha hl k j hj p hp hk)
  obtain ⟨hr, ho⟩ := h.ar i a l ha hl
  have hkn : k < a.n := by rw [← hr.lt]; exact (List.getElem?_eq_some_iff.1 hk).1
  have hlw := h.lw
  have hin : a.off * 16 + k * 16 + j < S.words.length := by omega
  have hx : S.words[a.off * 16 + k * 16 + j]? = some S.words[a.off * 16 + k * 16 + j] := List.getElem?_eq_getElem hin
  have k0 : w.cell? ⟨L.gb, a.off * 16 + k * 16 + j, none⟩ = some (.int .i64 S.words[a.off * 16 + k * 16 + j]) := by rw [blk_cell h.pages]; exact ints_at hx
  have k1 : w.frozen? ⟨L.gb, a.off * 16 + k * 16 + j, none⟩ = false := blk_free h.pages _
  have hk2 : Kept [L.gb] w (w.setCell ⟨L.gb, a.off * 16 + k * 16 + j, none⟩ (.int .i64 v)) := (Kept.refl _ _).set _ _ (.inl (by simp))
  have FIN : Hid (RetP w L { S with words := S.words.set (a.off * 16 + k * 16 + j) v } .nilIface (.returned .nilIface) (w.setCell ⟨L.gb, a.off * 16 + k * 16 + j, none⟩ (.int .i64 v))) := by
    refine ⟨rfl, h.setWords _ hk2 ?_ (by simpa using hlw), hk2.mono (by simp; exact PLay.mem.2 (.inr (.inl rfl)))⟩
    have := blk_set h.pages (a.off * 16 + k * 16 + j) (.int .i64 v)
    rw [this]
    simp [ints, List.map_set]
  generalize S.words[a.off * 16 + k * 16 + j] = x at k0
  clear hp hk hx ha hl hr ho hin hlw hk2 h
  go_enter Tryd.func14, Tryd.ntmps14
  go_wp2_with fail
  refine HW.out.mono ?_
  rintro e w1 ⟨rfl, rfl⟩
  go_wp2_with fail
  go_ret
  exact FIN.out
theorem size_in (k : Nat) (r p : Int) (hp : p = 16 * (k : Int)) (hk : a.runs[k]? = some r) (r0 : 0 ≤ r) (r1 : r ≤ 256) : Calls Tryd.prog 12 #[.pointer (some ⟨l.ab, 0, none⟩), .int .i64 p] w (Ret w (.int .i64 (r * 16))) := by
  have HW := Lib.hid (run_in h ha hl k r p hp hk)
  clear hp hk ha hl h
  go_enter Tryd.func12, Tryd.ntmps12
  go_wp2_with fail
  refine HW.out.mono ?_
  rintro e w1 ⟨rfl, hb⟩
  go_wp2_with fail
  go_ret
  exact ⟨rfl, hb⟩
theorem size_out (p : Int) (hp : NoRun p a.n) (h64 : p ≤ 9223372036854775807) : Calls Tryd.prog 12 #[.pointer (some ⟨l.ab, 0, none⟩), .int .i64 p] w (Ret w (.int .i64 0)) := by
  have HW := Lib.hid (run_out h ha hl p hp h64)
  clear hp ha hl h h64
  go_enter Tryd.func12, Tryd.ntmps12
  go_wp2_with fail
  refine HW.out.mono ?_
  rintro e w1 ⟨rfl, hb⟩
  go_wp2_with fail
  go_ret
  exact ⟨rfl, hb⟩
end
end Go.Proofs.YtpjphmpebegidaaDoor
