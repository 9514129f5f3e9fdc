/-
  A pool's runs allocated: the first place that fits.
-/
import Derived.Test.YtpjphmpebegidaaDoorPool5
namespace Go.Proofs.YtpjphmpebegidaaDoor
open Go.RowKit Go.Stk
attribute [local go_sem ↓] Go.wp_at_zero Go.wp_at_succ

/-- Do so many pages from there on stand free? -/
def Fits (t : List Bool) (need f : Nat) : Prop := f + need ≤ t.length ∧ ∀ x, f ≤ x → x < f + need → t[x]? = some false
/-- How far the search has come: f pages ahead of j are free, no more. -/
structure Seek (t : List Bool) (need j f : Nat) : Prop where
  lt : f < need
  le : f ≤ j
  jl : j ≤ t.length
  free : ∀ x, j - f ≤ x → x < j → t[x]? = some false
  most : f = j ∨ t[j - f - 1]? = some true
theorem Seek.start (t : List Bool) (need : Nat) (h : 0 < need) : Seek t need 0 0 := ⟨h, Nat.le_refl _, Nat.zero_le _, fun x _ h => by omega, .inl rfl⟩
theorem Seek.stop {t : List Bool} {need j f : Nat} (h : Seek t need j f) (ht : t[j]? = some true) : Seek t need (j + 1) 0 :=
  ⟨by have := h.lt; omega, Nat.zero_le _, (List.getElem?_eq_some_iff.1 ht).1, fun x h1 h2 => by omega, .inr (by simpa using ht)⟩
theorem Seek.go {t : List Bool} {need j f : Nat} (h : Seek t need j f) (ht : t[j]? = some false) (hf : f + 1 < need) : Seek t need (j + 1) (f + 1) := by
  have hle := h.le
  refine ⟨hf, by omega, (List.getElem?_eq_some_iff.1 ht).1, fun x h1 h2 => ?_, ?_⟩
  · by_cases hx : x = j
    · subst hx; exact ht
    · exact h.free x (by omega) (by omega)
  · rcases h.most with h1 | h1
    · exact .inl (by omega)
    · refine .inr ?_
      rw [show j + 1 - (f + 1) - 1 = j - f - 1 by omega]
      exact h1
/-- At the first place that fits, all is found. -/
theorem Seek.found {t : List Bool} {need j f : Nat} (h : Seek t need j f) (ht : t[j]? = some false) (hf : f + 1 = need) : Fits t need (j + 1 - need) := by
  have hle := h.le
  have hj := (List.getElem?_eq_some_iff.1 ht).1
  refine ⟨by omega, fun x h1 h2 => ?_⟩
  by_cases hx : x = j
  · subst hx; exact ht
  · exact h.free x (by omega) (by omega)
/-- While the place that fits isn't passed, the search is not past it. -/
theorem Seek.most' {t : List Bool} {need j f first : Nat} (h : Seek t need j f) (hF : Fits t need first) (hj : j = first + need - 1) (_ : 0 < need) : f + 1 = need := by
  have hlt := h.lt
  have hle := h.le
  rcases h.most with h1 | h1
  · omega
  · by_cases hc : first ≤ j - f - 1
    · have h2 := hF.2 (j - f - 1) hc (by omega)
      rw [h2] at h1
      cases h1
    · omega
section
variable {w : World} {L : PLay} {S : PS} (h : PRep w L S)
variable {i : Nat} {a : Ar} {l : AL} (ha : S.ars[i]? = some a) (hl : L.als[i]? = some l)
include h ha hl
omit h ha hl in
theorem alloc_neg (n : Int) (er en ea : Addr) (hE : Errs w er en ea) (hn : n < 1) : Calls Tryd.prog 11 #[.pointer (some ⟨l.ab, 0, none⟩), .int .i64 n] w (Ret w (.tuple #[.int .i64 0, errV er])) := by
  have hr := hE.r
  clear hE
  go_enter Tryd.func11, Tryd.ntmps11
  go_wp2_with fail
  go_quiet (fail)
  go_wp2_with fail
  go_ret2
  exact ⟨rfl, below_drewN0 _ _⟩
set_option maxHeartbeats 2000000 in
theorem alloc_none (n : Int) (need : Nat) (er en ea : Addr) (hE : Errs w er en ea) (hn : 1 ≤ n) (h64 : n ≤ 9223372036854775807) (hneed : (n - 1) / 16 + 1 = (need : Int)) (hno : ∀ f, ¬ Fits a.taken need f) : Calls Tryd.prog 11 #[.pointer (some ⟨l.ab, 0, none⟩), .int .i64 n] w (Ret w (.tuple #[.int .i64 0, errV ea])) := by
  obtain ⟨hr, ho⟩ := h.ar i a l ha hl
  have f0 : w.cell? ⟨l.ab, 0, none⟩ = some (.slice (some l.pa) a.n a.n) := by rw [blk_cell hr.blk]; rfl
  have f2 : w.cell? ⟨l.ab, 2, none⟩ = some (.slice (some ⟨l.tb, 0, none⟩) a.n a.n) := by rw [blk_cell hr.blk]; rfl
  have hcell : ∀ j x, a.taken[j]? = some x → w.cell? ⟨l.tb, j, none⟩ = some (.bool x) := fun j x hx => by rw [blk_cell hr.taken]; exact bcells_at hx
  have HC := Lib.hid hcell
  have HT := Lib.hid hr.lt
  have HNO := Lib.hid hno
  have ea' := hE.a
  have hn0 : 0 < need := by omega
  have hn256 : (a.n : Int) ≤ 256 := by have := h.hnp; omega
  have d0 : decide (n < 1) = false := decide_eq_false (by omega)
  clear hr ho ha hl h hE hcell hno
  go_enter Tryd.func11, Tryd.ntmps11
  go_wp2_with fail
  go_loop [7, 23] (fun fv jv => ∃ j f : Nat, j ≤ a.n ∧ jv = .int .i64 j ∧ fv = .int .i64 f ∧ Hid (Seek a.taken need j f)) (fun _ jv => a.n - (intOf jv).toNat)
  case atStart => exact ⟨0, 0, Nat.zero_le _, rfl, rfl, Seek.start _ _ hn0⟩
  case round =>
    obtain ⟨j, f, hj, rfl, rfl, hP⟩ := hrel
    have hfl := hP.out.le
    have hfn := hP.out.lt
    by_cases hlt : j < a.n
    · obtain ⟨x, hx⟩ : ∃ x, a.taken[j]? = some x := ⟨_, List.getElem?_eq_getElem (by rw [HT.out]; exact hlt)⟩
      have c0 := HC.out j x hx
      have HX := Lib.hid hx
      clear hx
      have j0 : (0 : Int) ≤ (j : Int) := by omega
      have j1 : (j : Int) < (a.n : Int) := by omega
      cases x
      · have hf1 : f + 1 < need := by
          have h1 := hP.out.lt
          by_cases hc : f + 1 = need
          · exact absurd (hP.out.found HX.out hc) (HNO.out _)
          · omega
        have d1 : decide ((f : Int) + 1 < (need : Int)) = true := decide_eq_true (by omega)
        have HN := Lib.hid (hP.out.go HX.out hf1)
        clear hP
        go_wp2_with fail
        refine ⟨⟨j + 1, f + 1, by omega, by go_num, by go_num, HN⟩, ?_⟩
        simp [intOf]
        omega
      · have HN := Lib.hid (hP.out.stop HX.out)
        clear hP
        go_wp2_with fail
        refine ⟨⟨j + 1, 0, by omega, by go_num, by go_num, HN⟩, ?_⟩
        simp [intOf]
        omega
    · go_wp2_with fail
      go_quiet (fail)
      go_wp2_with fail
      go_ret2
      exact ⟨rfl, below_drewN0 _ _⟩
/-- Ahead of page k all of the run is marked. -/
structure AlR (w wr : World) (L : PLay) (S : PS) (i : Nat) (a : Ar) (r : List Int) (first k : Nat) : Prop where
  rep : PRep wr L { S with ars := S.ars.set i { a with runs := r, taken := rng a.taken first k true } }
  kept : Kept L.fp w wr
theorem alr_start (r : List Int) (hr : r.length = a.n) (first : Nat) (hf : first ≤ a.taken.length) {w1 : World} (hk : Kept [l.rb] w w1) (hb : w1.heap[l.rb]? = some (.cells (ints r).toArray 3 (0, 0))) : AlR w w1 L S i a r first first := by
  have hmem := List.mem_of_getElem? hl
  refine ⟨?_, hk.mono ?_⟩
  · rw [rng_none _ _ _ hf]
    exact h.setRuns ha hl r hk hb hr
  · have o3 : l.rb ∈ L.fp := PLay.mem.2 (.inr (.inr (.inr ⟨l, hmem, by simp [AL.bl]⟩)))
    simpa using o3
omit h in
theorem AlR.facts {wr : World} {r : List Int} {first k : Nat} (hP : AlR w wr L S i a r first k) (hk : first ≤ k) (hkn : k < a.n) :
    wr.cell? ⟨l.ab, 2, none⟩ = some (.slice (some ⟨l.tb, 0, none⟩) a.n a.n) ∧ (∃ x, wr.cell? ⟨l.tb, k, none⟩ = some (.bool x)) ∧ wr.frozen? ⟨l.tb, k, none⟩ = false ∧ AlR w (wr.setCell ⟨l.tb, k, none⟩ (.bool true)) L S i a r first (k + 1) := by
  have hi := (List.getElem?_eq_some_iff.1 ha).1
  have hmem := List.mem_of_getElem? hl
  have ha2 : (S.ars.set i { a with runs := r, taken := rng a.taken first k true })[i]? = some { a with runs := r, taken := rng a.taken first k true } := by simp [hi]
  obtain ⟨hr, _⟩ := hP.rep.ar i _ l ha2 hl
  have hlt : (rng a.taken first k true).length = a.n := hr.lt
  have hlt2 : a.taken.length = a.n := by
    by_cases hc : k ≤ a.taken.length
    · rw [rng_len _ _ _ _ hk hc] at hlt; exact hlt
    · simp [rng] at hlt; omega
  refine ⟨by rw [blk_cell hr.blk]; rfl, ?_, blk_free hr.taken _, ?_, ?_⟩
  · obtain ⟨x, hx⟩ : ∃ x, (rng a.taken first k true)[k]? = some x := ⟨_, List.getElem?_eq_getElem (by omega)⟩
    exact ⟨x, by rw [blk_cell hr.taken]; exact bcells_at hx⟩
  · have k3 : Kept [l.tb] wr (wr.setCell ⟨l.tb, k, none⟩ (.bool true)) := (Kept.refl _ _).set _ _ (.inl (by simp))
    have := hP.rep.setTaken ha2 hl ((rng a.taken first k true).set k true) k3 (by
      have := blk_set hr.taken k (.bool true)
      rw [this]
      simp [bcells, List.map_set]) (by simpa using hlt)
    rw [rng_step _ _ _ _ hk (by omega)] at this
    simpa using this
  · have o2 : l.tb ∈ L.fp := PLay.mem.2 (.inr (.inr (.inr ⟨l, hmem, by simp [AL.bl]⟩)))
    exact hP.kept.set _ _ (.inl o2)
theorem alloc_ok (n : Int) (need first : Nat) (hn : 1 ≤ n) (h64 : n ≤ 9223372036854775807) (hneed : (n - 1) / 16 + 1 = (need : Int)) (hfit : Fits a.taken need first) (hmin : ∀ f, f < first → ¬ Fits a.taken need f) : Calls Tryd.prog 11 #[.pointer (some ⟨l.ab, 0, none⟩), .int .i64 n] w (RetP w L { S with ars := S.ars.set i { a with runs := a.runs.set first (need : Int), taken := rng a.taken first (first + need) true } } (.tuple #[.int .i64 (first * 16 : Nat), .nilIface])) := by
  obtain ⟨hr, ho⟩ := h.ar i a l ha hl
  have f0 : w.cell? ⟨l.ab, 0, none⟩ = some (.slice (some l.pa) a.n a.n) := by rw [blk_cell hr.blk]; rfl
  have f2 : w.cell? ⟨l.ab, 2, none⟩ = some (.slice (some ⟨l.tb, 0, none⟩) a.n a.n) := by rw [blk_cell hr.blk]; rfl
  have hcell : ∀ j x, a.taken[j]? = some x → w.cell? ⟨l.tb, j, none⟩ = some (.bool x) := fun j x hx => by rw [blk_cell hr.taken]; exact bcells_at hx
  have HC := Lib.hid hcell
  have HT := Lib.hid hr.lt
  have HF := Lib.hid hfit
  have HM := Lib.hid hmin
  have hfr : first + need ≤ a.n := by have := hfit.1; have := hr.lt; omega
  have f1 : w.cell? ⟨l.ab, 1, none⟩ = some (.slice (some ⟨l.rb, 0, none⟩) a.n a.n) := by rw [blk_cell hr.blk]; rfl
  obtain ⟨y, hy⟩ : ∃ y, a.runs[first]? = some y := ⟨_, List.getElem?_eq_getElem (by have := hr.lr; omega)⟩
  have c1 : w.cell? ⟨l.rb, first, none⟩ = some (.int .i64 y) := by rw [blk_cell hr.runs]; exact ints_at hy
  have z1 : w.frozen? ⟨l.rb, first, none⟩ = false := blk_free hr.runs _
  have H0 := Lib.hid (alr_start h ha hl (a.runs.set first (need : Int)) (by simpa using hr.lr) first (by have := hr.lt; omega) ((Kept.refl [l.rb] w).set ⟨l.rb, first, none⟩ (.int .i64 (need : Int)) (.inl (by simp))) (by
    have := blk_set hr.runs first (.int .i64 (need : Int))
    rw [this]
    simp [ints, List.map_set]))
  have FX : Hid (∀ {wr : World} {k : Nat}, AlR w wr L S i a (a.runs.set first (need : Int)) first k → first ≤ k → k < a.n → _) := Lib.hid (fun hP hk hkn => AlR.facts ha hl hP hk hkn)
  have hn0 : 0 < need := by omega
  have hn256 : (a.n : Int) ≤ 256 := by have := h.hnp; omega
  have d0 : decide (n < 1) = false := decide_eq_false (by omega)
  clear hr ho hcell hy hfit hmin
  clear h ha hl
  go_enter Tryd.func11, Tryd.ntmps11
  go_wp2_with fail
  go_loop [7, 23] (fun fv jv => ∃ j f : Nat, j ≤ first + need - 1 ∧ jv = .int .i64 j ∧ fv = .int .i64 f ∧ Hid (Seek a.taken need j f)) (fun _ jv => a.n - (intOf jv).toNat)
  case atStart => exact ⟨0, 0, Nat.zero_le _, rfl, rfl, Seek.start _ _ hn0⟩
  case round =>
    obtain ⟨j, f, hj, rfl, rfl, hP⟩ := hrel
    have hfl := hP.out.le
    have hfn := hP.out.lt
    have hfa : first + need ≤ a.n := by have := HF.out.1; have := HT.out; omega
    have hlt : j < a.n := by omega
    obtain ⟨x, hx⟩ : ∃ x, a.taken[j]? = some x := ⟨_, List.getElem?_eq_getElem (by rw [HT.out]; exact hlt)⟩
    have c0 := HC.out j x hx
    have HX := Lib.hid hx
    clear hx
    have j0 : (0 : Int) ≤ (j : Int) := by omega
    have j1 : (j : Int) < (a.n : Int) := by omega
    cases x
    · by_cases hf1 : f + 1 < need
      · have hjl : j + 1 ≤ first + need - 1 := by
          by_cases hc : j = first + need - 1
          · have := hP.out.most' HF.out hc; omega
          · omega
        have d1 : decide ((f : Int) + 1 < (need : Int)) = true := decide_eq_true (by omega)
        have HN := Lib.hid (hP.out.go HX.out hf1)
        clear hP
        go_wp2_with fail
        refine ⟨⟨j + 1, f + 1, by omega, by go_num, by go_num, HN⟩, ?_⟩
        simp [intOf]
        omega
      · have hfe : f + 1 = need := by omega
        have hfd := hP.out.found HX.out hfe
        have hje : j = first + need - 1 := by
          by_cases hc : j + 1 - need < first
          · exact absurd hfd (HM.out _ hc)
          · omega
        clear hfd
        have HJ := Lib.hid hje
        clear hje
        have d1 : decide ((f : Int) + 1 < (need : Int)) = false := decide_eq_false (by omega)
        clear hP
        have e1 : (j : Int) - (need : Int) + 1 = (first : Int) := by have := HJ.out; omega
        go_wp2_with fail
        clear e1 d1 j0 j1 hfl hfn hf1 hj c0 HX hlt
        clear hneed d0
        generalize w.setCell ⟨l.rb, first, none⟩ (.int .i64 (need : Int)) = w1 at H0 ⊢
        go_loopw [10] (fun kv wr => ∃ k : Nat, first ≤ k ∧ k ≤ first + need ∧ kv = .int .i64 k ∧ Hid (AlR w wr L S i a (a.runs.set first (need : Int)) first k)) (fun kv _ => first + need - (intOf kv).toNat)
        case atStart => exact ⟨first, Nat.le_refl _, by omega, rfl, H0⟩
        case round =>
          obtain ⟨k, hk1, hk2, rfl, hQ⟩ := hrel
          by_cases hkl : k < first + need
          · obtain ⟨g2, ⟨x, g3⟩, g4, g5⟩ := FX.out hQ.out hk1 (by omega)
            have HN := Lib.hid g5
            clear g5 hQ
            have hjk : (k : Int) ≤ (j : Int) := by have := HJ.out; omega
            have k0 : (0 : Int) ≤ (k : Int) := by omega
            have k1 : (k : Int) < (a.n : Int) := by omega
            go_wp2_with fail
            refine ⟨⟨k + 1, by omega, by omega, by go_num, HN⟩, ?_⟩
            simp [intOf]
            omega
          · have hjk : ¬ (k : Int) ≤ (j : Int) := by have := HJ.out; omega
            have hkf : k = first + need := by omega
            have hf256 : (first : Int) ≤ 256 := by omega
            rw [hkf] at hQ
            clear hkf
            go_wp2_with fail
            go_ret2
            refine ⟨?_, hQ.out.rep, hQ.out.kept⟩
            simp
    · have hjl : j + 1 ≤ first + need - 1 := by
        by_cases hc : j = first + need - 1
        · have := HF.out.2 j (by omega) (by omega)
          rw [HX.out] at this
          cases this
        · omega
      have HN := Lib.hid (hP.out.stop HX.out)
      clear hP
      go_wp2_with fail
      refine ⟨⟨j + 1, 0, by omega, by go_num, by go_num, HN⟩, ?_⟩
      simp [intOf]
      omega
end
end Go.Proofs.YtpjphmpebegidaaDoor
