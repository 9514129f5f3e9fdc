/-
  An arena and its model side by side.
-/
import Derived.Test.YtpjphmpebegidaaDoorPool27
import Derived.Test.YtpjphmpebegidaaDoorPool28
import Derived.Test.YtpjphmpebegidaaDoorPool20
namespace Go.Proofs.YtpjphmpebegidaaDoor
open Go.RowKit Go.Stk

/-! ### What the model tells of the arena -/
section
variable {a : Ar} {ws : List Int} {H : List MRun} (z : ZM a ws H)
include z
theorem ZM.len (hn : a.n ≤ 256) : H.length ≤ 256 := by
  have h1 := z.sum
  have h2 : trues a.taken ≤ a.taken.length := trues_len _
  have h3 := z.ok.lt
  have h4 : H.length ≤ (H.map MRun.m).sum := by
    have : ∀ K : List MRun, (∀ r ∈ K, 0 < r.m) → K.length ≤ (K.map MRun.m).sum := by
      intro K
      induction K with
      | nil => simp
      | cons r K ih =>
        intro h
        have := ih fun s hs => h s (by simp [hs])
        have := h r (by simp)
        simp; omega
    exact this H fun r hr => (z.rg r hr).1
  omega
theorem ZM.sumLe (hn : a.n ≤ 256) : (H.map MRun.m).sum ≤ 256 := by
  have h1 := z.sum
  have h2 : trues a.taken ≤ a.taken.length := trues_len _
  have h3 := z.ok.lt
  omega
theorem ZM.rg2 (hn : a.n ≤ 256) : ∀ r ∈ H, r.f + r.m ≤ 256 := fun r hr => by have := z.rg r hr; omega
theorem ZM.takenIs (x : Nat) (hx : x < a.n) : a.taken[x]? = some (mIn H (x : Int)) := by
  have hlt : x < a.taken.length := by rw [z.ok.lt]; exact hx
  rw [List.getElem?_eq_getElem hlt]
  congr 1
  have h1 := z.tkn x
  rw [List.getElem?_eq_getElem hlt] at h1
  simp only [Option.some.injEq] at h1
  by_cases hm : mIn H (x : Int) = true
  · rw [hm]
    obtain ⟨r, hr, h2⟩ := List.any_eq_true.1 hm
    have h3 := of_decide_eq_true h2
    exact h1.2 ⟨r, hr, by omega, by omega⟩
  · have hf : mIn H (x : Int) = false := by simpa using hm
    rw [hf]
    cases hb : a.taken[x] with
    | false => rfl
    | true =>
      obtain ⟨r, hr, h2, h3⟩ := h1.1 hb
      exact absurd (List.any_eq_true.2 ⟨r, hr, decide_eq_true ⟨by omega, by omega⟩⟩) hm
theorem ZM.runIn {r : MRun} (hr : r ∈ H) {q : Int} (hq : 16 * (r.f : Int) = q) : runR a q = some (r.f, r.m) := by
  have h1 := z.run r hr
  have h2 := z.rg r hr
  unfold runR
  rw [if_neg (by omega), show (q / 16).toNat = r.f by omega, h1]
  simp only
  rw [if_neg (by omega)]
  simp
theorem ZM.runOut {q : Int} (hq : ∀ r ∈ H, 16 * (r.f : Int) ≠ q) : runR a q = none := by
  unfold runR
  by_cases h1 : q < 0 ∨ q % 16 ≠ 0
  · rw [if_pos h1]
  · rw [if_neg h1]
    cases hx : a.runs[(q / 16).toNat]? with
    | none => rfl
    | some x =>
      have := z.no _ x hx fun r hr e => hq r hr (by omega)
      subst this
      simp
theorem ZM.wordIn {r : MRun} (hr : r ∈ H) {q : Int} (h1 : 16 * (r.f : Int) ≤ q) (h2 : q < 16 * ((r.f : Int) + (r.m : Int))) : wordR a q = some (a.off * 16 + r.f * 16 + (q - 16 * (r.f : Int)).toNat) := by
  unfold wordR
  rw [if_neg (by omega), if_pos ((z.tkn _).2 ⟨r, hr, by omega, by omega⟩)]
  congr 1; omega
theorem ZM.wordOut {q : Int} (hq : ∀ r ∈ H, ¬ (16 * (r.f : Int) ≤ q ∧ q < 16 * ((r.f : Int) + (r.m : Int)))) : wordR a q = none := by
  unfold wordR
  by_cases h0 : q < 0
  · rw [if_pos h0]
  · rw [if_neg h0, if_neg]
    intro ht
    obtain ⟨r, hr, h1, h2⟩ := (z.tkn _).1 ht
    exact hq r hr (by omega)
theorem ZM.clear : ZM ⟨a.off, a.n, List.replicate a.n 0, List.replicate a.n false⟩ (rng ws (a.off * 16) (a.off * 16 + a.n * 16) 0) [] := by
  have h1 := z.lw
  exact ZM.start a.off a.n _ (by rw [rng_len _ _ _ _ (by omega) (by omega)]; exact h1) fun x hx => by rw [rng_get _ _ _ _ (by omega) (by omega), if_pos (by omega)]
end

/-! ### Side by side in memory -/
structure Bo (w0 : World) (rv0 : Value) (H0 : List MRun) (w : World) (L : PLay) (S : PS) (p n : Nat) (rv : Value) (H : List MRun) : Prop where
  rep : PRep w L S
  m : MRep w p n rv H
  sep : ∀ g ∈ mfp p rv H, ¬ L.own g
  kept : Kept (L.fp ++ mfp p rv0 H0) w0 w
  fresh : ∀ g ∈ mfp p rv H, g ∈ mfp p rv0 H0 ∨ w0.heap.size ≤ g
section
variable {w0 w : World} {rv0 rv : Value} {H0 H : List MRun} {L : PLay} {S : PS} {p n : Nat} (h : Bo w0 rv0 H0 w L S p n rv H)
include h
theorem Bo.later {w' : World} (hb : Below w.heap.size w w') : Bo w0 rv0 H0 w' L S p n rv H :=
  ⟨h.rep.later hb, h.m.later hb, h.sep, h.kept.next hb, h.fresh⟩
theorem Bo.pool {w' : World} {S' : PS} (hp : PRep w' L S') (hk : Kept L.fp w w') : Bo w0 rv0 H0 w' L S' p n rv H :=
  ⟨hp, h.m.kept hk fun g hg hx => h.sep g hg (PLay.mem.1 hx), h.sep, h.kept.trans hk fun i hi => .inl (by simp [hi]), h.fresh⟩
theorem Bo.model {w' : World} {rv' : Value} {H' : List MRun} (hm : MRep w' p n rv' H') (hk : Kept (mfp p rv H) w w') (hg : ∀ g ∈ mfp p rv' H', g ∈ mfp p rv H ∨ w.heap.size ≤ g) : Bo w0 rv0 H0 w' L S p n rv' H' := by
  refine ⟨h.rep.kept hk fun g hg2 hx => h.sep g hx hg2, hm, fun g hg2 hx => ?_, h.kept.trans hk fun i hi => ?_, fun g hg2 => ?_⟩
  · rcases hg g hg2 with h1 | h1
    · exact h.sep g h1 hx
    · have := h.rep.lt g hx; omega
  · rcases h.fresh i hi with h1 | h1
    · exact .inl (by simp [h1])
    · exact .inr h1
  · rcases hg g hg2 with h1 | h1
    · exact h.fresh g h1
    · exact .inr (Nat.le_trans h.kept.size h1)
theorem Bo.setw {i : Nat} {r : MRun} (hr : H[i]? = some r) (j : Nat) (v : Int) : Bo w0 rv0 H0 (w.setCell ⟨r.b, j, none⟩ (.int .i64 v)) L S p n rv (H.set i { r with ws := r.ws.set j v }) := by
  have hrm := List.mem_of_getElem? hr
  have hil := (List.getElem?_eq_some_iff.1 hr).1
  obtain ⟨n1, n2, n3, n4⟩ := h.m.nd'
  have hb : (H.set i { r with ws := r.ws.set j v }).map MRun.b = H.map MRun.b := by rw [List.map_set]; exact set_same (by simp [hr])
  have hc : mcells (H.set i { r with ws := r.ws.set j v }) = mcells H := by
    unfold mcells
    have : (H.set i { r with ws := r.ws.set j v }).map MRun.cells = H.map MRun.cells := by rw [List.map_set]; exact set_same (by simp [hr, MRun.cells])
    rw [List.flatMap_def, List.flatMap_def, this]
  have hfp : mfp p rv (H.set i { r with ws := r.ws.set j v }) = mfp p rv H := by unfold mfp; rw [hb]
  have hbin : r.b ∈ H.map MRun.b := List.mem_map.2 ⟨r, hrm, rfl⟩
  have hks : Kept [r.b] w (w.setCell ⟨r.b, j, none⟩ (.int .i64 v)) := (Kept.refl _ _).set _ _ (by simp)
  refine h.model ⟨hks.heap h.m.hd fun hx => ?_, ?_, fun s hs => ?_, by rw [hfp]; exact h.m.nd⟩ (hks.mono fun g hg => ?_) (by rw [hfp]; exact fun g hg => .inl hg)
  · simp at hx; exact n2 (hx ▸ hbin)
  · rw [hc, List.length_set]
    exact h.m.row.kept hks fun g hg hx => by simp at hx; exact n4 g hg (hx ▸ hbin)
  · obtain ⟨k, hk⟩ := List.getElem?_of_mem hs
    rw [List.getElem?_set] at hk
    by_cases hik : i = k
    · rw [if_pos hik, if_pos hil] at hk
      obtain rfl := Option.some.inj hk
      have := blk_set (h.m.words r hrm) j (.int .i64 v)
      show (w.setCell ⟨r.b, j, none⟩ (.int .i64 v)).heap[r.b]? = some (.cells (ints (r.ws.set j v)).toArray 3 (0, 0))
      rw [this]
      congr 2
      apply Array.ext'
      simp [ints, List.map_set]
    · rw [if_neg hik] at hk
      refine hks.heap (h.m.words s (List.mem_of_getElem? hk)) fun hx => hik ?_
      simp at hx
      have hkl := (List.getElem?_eq_some_iff.1 hk).1
      have hd := List.pairwise_iff_getElem.1 n3
      have e1 : (H.map MRun.b)[i]'(by simpa using hil) = r.b := by rw [List.getElem_map, (List.getElem?_eq_some_iff.1 hr).2]
      have e2 : (H.map MRun.b)[k]'(by simpa using hkl) = s.b := by rw [List.getElem_map, (List.getElem?_eq_some_iff.1 hk).2]
      rcases Nat.lt_trichotomy i k with h1 | h1 | h1
      · exact absurd (e1.trans (hx.symm.trans e2.symm)) (hd i k (by simpa using hil) (by simpa using hkl) h1)
      · exact h1
      · exact absurd (e2.trans (hx.trans e1.symm)) (hd k i (by simpa using hkl) (by simpa using hil) h1)
  · simp only [List.mem_singleton] at hg
    subst hg
    simp only [mfp, List.mem_cons, List.mem_append]
    exact .inr (.inr hbin)
theorem Bo.nil : Bo w0 rv0 H0 (w.setCell ⟨p, 1, none⟩ (.slice none 0 0)) L S p n (.slice none 0 0) [] := by
  have hp := blk_set h.m.hd 1 (.slice none 0 0)
  have hks : Kept [p] w (w.setCell ⟨p, 1, none⟩ (.slice none 0 0)) := (Kept.refl _ _).set _ _ (by simp)
  exact h.model ⟨by rw [hp]; rfl, Row.empty _ _ _ _, by simp, by simp [mfp, blk]⟩ (hks.mono (by simp [mfp])) (fun g hg => by simp [mfp, blk] at hg; subst hg; exact .inl (by simp [mfp]))
end
end Go.Proofs.YtpjphmpebegidaaDoor
