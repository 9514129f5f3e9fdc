/-
  An arena and its model: runs, marks, words.
-/
import Derived.Test.YtpjphmpebegidaaDoorPool19
import Derived.Test.YtpjphmpebegidaaDoorPool15
namespace Go.Proofs.YtpjphmpebegidaaDoor
open Go.RowKit Go.Stk

theorem newArOk (off n : Nat) : ArOk (newAr off n) := ⟨by simp [newAr], by simp [newAr], fun k r hk => by
  simp only [newAr] at hk ⊢
  rw [List.getElem?_replicate] at hk
  split at hk
  · simp only [Option.some.injEq] at hk
    subst hk
    omega
  · cases hk⟩
/-- A run of the model: its first page, how many pages, the block of its words, its words. -/
structure MRun where
  f : Nat
  m : Nat
  b : Nat
  ws : List Int
/-- An arena (its pages' words apart) and its model's runs. -/
structure ZM (a : Ar) (ws : List Int) (H : List MRun) : Prop where
  ok : ArOk a
  lw : a.off * 16 + a.n * 16 ≤ ws.length
  rg : ∀ r ∈ H, 0 < r.m ∧ r.f + r.m ≤ a.n ∧ r.ws.length = 16 * r.m
  run : ∀ r ∈ H, a.runs[r.f]? = some (r.m : Int)
  no : ∀ k x, a.runs[k]? = some x → (∀ r ∈ H, r.f ≠ k) → x = 0
  dis : H.Pairwise fun p q => p.f + p.m ≤ q.f ∨ q.f + q.m ≤ p.f
  tkn : ∀ x, a.taken[x]? = some true ↔ ∃ r ∈ H, r.f ≤ x ∧ x < r.f + r.m
  held : ∀ r ∈ H, ∀ j, j < 16 * r.m → ws[a.off * 16 + r.f * 16 + j]? = r.ws[j]?
  free : ∀ x, x < a.n * 16 → a.taken[x / 16]? = some false → ws[a.off * 16 + x]? = some 0
  sum : trues a.taken = (H.map MRun.m).sum
theorem ZM.start (off n : Nat) (ws : List Int) (h : off * 16 + n * 16 ≤ ws.length) (h0 : ∀ x, x < n * 16 → ws[off * 16 + x]? = some 0) : ZM (newAr off n) ws [] := by
  refine ⟨newArOk off n, h, by simp, by simp, fun k x hk _ => ?_, .nil, fun x => ?_, by simp, fun x hx _ => h0 x hx, ?_⟩
  · simp only [newAr] at hk
    rw [List.getElem?_replicate] at hk
    split at hk
    · simp only [Option.some.injEq] at hk; exact hk.symm
    · cases hk
  · constructor
    · intro hx
      simp only [newAr] at hx
      rw [List.getElem?_replicate] at hx
      split at hx <;> cases hx
    · rintro ⟨r, hr, _⟩
      simp at hr
  · simp [newAr, trues, List.countP_replicate]
section
variable {a : Ar} {ws : List Int} {H : List MRun} (h : ZM a ws H)
include h
theorem ZM.at' {i : Nat} {r : MRun} (hr : H[i]? = some r) : ∀ j s, H[j]? = some s → j ≠ i → s.f + s.m ≤ r.f ∨ r.f + r.m ≤ s.f := by
  intro j s hs hji
  have hd := List.pairwise_iff_getElem.1 h.dis
  obtain ⟨h1, h2⟩ := List.getElem?_eq_some_iff.1 hr
  obtain ⟨h3, h4⟩ := List.getElem?_eq_some_iff.1 hs
  rcases Nat.lt_or_gt_of_ne hji with hlt | hlt
  · have := hd j i h3 h1 hlt
    rw [h2, h4] at this
    exact this
  · have := hd i j h1 h3 hlt
    rw [h2, h4] at this
    exact this.symm
theorem ZM.apart {f m : Nat} (hf : Fits a.taken m f) (r : MRun) (hr : r ∈ H) : r.f + r.m ≤ f ∨ f + m ≤ r.f ∨ m = 0 := by
  have ho := h.rg r hr
  by_cases h1 : r.f + r.m ≤ f
  · exact .inl h1
  · by_cases h2 : f + m ≤ r.f
    · exact .inr (.inl h2)
    · by_cases h3 : m = 0
      · exact .inr (.inr h3)
      · exfalso
        have h4 := hf.2 (max f r.f) (by omega) (by omega)
        have h5 := (h.tkn (max f r.f)).2 ⟨r, hr, by omega, by omega⟩
        rw [h5] at h4
        cases h4
/-- What lies beyond the arena doesn't matter. -/
theorem ZM.words {ws' : List Int} (hl : ws'.length = ws.length) (hs : Seg a ws ws') : ZM a ws' H :=
  ⟨h.ok, by rw [hl]; exact h.lw, h.rg, h.run, h.no, h.dis, h.tkn, fun r hr j hj => by
    have := h.rg r hr
    rw [← hs _ (by omega) (by omega)]
    exact h.held r hr j hj, fun x hx ht => by rw [← hs _ (by omega) (by omega)]; exact h.free x hx ht, h.sum⟩
theorem ZM.alloc {f m b : Nat} (hf : Fits a.taken m f) (hm : 0 < m) : ZM { a with runs := a.runs.set f (m : Int), taken := rng a.taken f (f + m) true } ws (H ++ [⟨f, m, b, List.replicate (16 * m) 0⟩]) := by
  have hb := hf.1
  rw [h.ok.lt] at hb
  have hap := fun r hr => h.apart hf r hr
  have hlt := h.ok.lt
  have hlw := h.lw
  have hlr := h.ok.lr
  refine ⟨⟨by simpa using h.ok.lr, ?_, runsOk_set h.ok.ok _ _ _ (by omega) (by omega)⟩, h.lw, ?_, ?_, ?_, ?_, ?_, ?_, ?_, ?_⟩
  · show (rng a.taken f (f + m) true).length = a.n
    rw [rng_len _ _ _ _ (by omega) (by omega), hlt]
  · intro r hr
    simp at hr
    rcases hr with hr | rfl
    · exact h.rg r hr
    · exact ⟨hm, hb, by simp⟩
  · intro r hr
    simp at hr
    show (a.runs.set f (m : Int))[r.f]? = _
    rcases hr with hr | rfl
    · have := hap r hr
      have ho := h.rg r hr
      rw [List.getElem?_set_ne (by omega)]
      exact h.run r hr
    · rw [List.getElem?_set_self (by rw [hlr]; show f < a.n; omega)]
  · intro k x hk hno
    have hk' : (a.runs.set f (m : Int))[k]? = some x := hk
    have hne : f ≠ k := by
      have := hno ⟨f, m, b, List.replicate (16 * m) 0⟩ (by simp)
      exact this
    rw [List.getElem?_set_ne hne] at hk'
    exact h.no k x hk' fun r hr => hno r (by simp [hr])
  · rw [List.pairwise_append]
    refine ⟨h.dis, by simp, fun r hr q hq => ?_⟩
    simp at hq
    subst hq
    have := hap r hr
    show r.f + r.m ≤ f ∨ f + m ≤ r.f
    omega
  · intro x
    show (rng a.taken f (f + m) true)[x]? = some true ↔ _
    rw [rng_get _ _ _ _ (by omega) (by omega)]
    constructor
    · intro hx
      by_cases hc : f ≤ x ∧ x < f + m
      · exact ⟨⟨f, m, b, List.replicate (16 * m) 0⟩, by simp, hc⟩
      · rw [if_neg hc] at hx
        obtain ⟨r, hr, h2⟩ := (h.tkn x).1 hx
        exact ⟨r, by simp [hr], h2⟩
    · rintro ⟨r, hr, h2⟩
      simp at hr
      by_cases hc : f ≤ x ∧ x < f + m
      · rw [if_pos hc]
      · rw [if_neg hc]
        rcases hr with hr | rfl
        · exact (h.tkn x).2 ⟨r, hr, h2⟩
        · exact absurd h2 hc
  · intro r hr j hj
    simp at hr
    rcases hr with hr | rfl
    · exact h.held r hr j hj
    · show ws[a.off * 16 + f * 16 + j]? = (List.replicate (16 * m) 0)[j]?
      have hj' : j < 16 * m := hj
      rw [List.getElem?_replicate, if_pos hj']
      have := h.free (f * 16 + j) (by omega) (hf.2 _ (by omega) (by omega))
      rw [← this]
      congr 1; omega
  · intro x hx ht
    have ht' : (rng a.taken f (f + m) true)[x / 16]? = some false := ht
    rw [rng_get _ _ _ _ (by omega) (by omega)] at ht'
    by_cases hc : f ≤ x / 16 ∧ x / 16 < f + m
    · rw [if_pos hc] at ht'; cases ht'
    · rw [if_neg hc] at ht'
      exact h.free x hx ht'
  · show trues (rng a.taken f (f + m) true) = _
    rw [trues_fill _ _ _ hf, h.sum]
    simp
/-- A word set. -/
theorem ZM.set {i j : Nat} {r : MRun} (hr : H[i]? = some r) (hj : j < 16 * r.m) (v : Int) : ZM a (ws.set (a.off * 16 + r.f * 16 + j) v) (H.set i { r with ws := r.ws.set j v }) := by
  have hil := (List.getElem?_eq_some_iff.1 hr).1
  have hrm := List.mem_of_getElem? hr
  have hro := h.rg r hrm
  have hlw := h.lw
  have hlt := h.ok.lt
  have hin : ∀ s ∈ H.set i { r with ws := r.ws.set j v }, ∃ s0 ∈ H, s.f = s0.f ∧ s.m = s0.m ∧ s.ws.length = s0.ws.length := by
    intro s hs
    rcases List.mem_or_eq_of_mem_set hs with h1 | rfl
    · exact ⟨s, h1, rfl, rfl, rfl⟩
    · exact ⟨r, hrm, rfl, rfl, by simp⟩
  have hout : ∀ s0 ∈ H, ∃ s ∈ H.set i { r with ws := r.ws.set j v }, s.f = s0.f ∧ s.m = s0.m := by
    intro s0 hs0
    obtain ⟨k, hk⟩ := List.getElem?_of_mem hs0
    by_cases hki : k = i
    · subst hki
      rw [hr] at hk
      obtain rfl := Option.some.inj hk
      exact ⟨_, List.mem_of_getElem? (List.getElem?_set_self hil), rfl, rfl⟩
    · exact ⟨s0, List.mem_of_getElem? (by rw [List.getElem?_set_ne (Ne.symm hki)]; exact hk), rfl, rfl⟩
  refine ⟨h.ok, by simpa using h.lw, ?_, ?_, ?_, ?_, ?_, ?_, ?_, ?_⟩
  · intro s hs
    obtain ⟨s0, h0, e1, e2, e3⟩ := hin s hs
    have := h.rg s0 h0
    rw [e1, e2, e3]; exact this
  · intro s hs
    obtain ⟨s0, h0, e1, e2, _⟩ := hin s hs
    rw [e1, e2]; exact h.run s0 h0
  · intro k x hk hno
    refine h.no k x hk fun s0 h0 => ?_
    obtain ⟨s, hs, e1, _⟩ := hout s0 h0
    rw [← e1]; exact hno s hs
  · rw [List.pairwise_iff_getElem]
    intro p q hp hq hpq
    simp only [List.length_set] at hp hq
    have hd := List.pairwise_iff_getElem.1 h.dis p q hp hq hpq
    have e : ∀ (k : Nat) (hk : k < (H.set i { r with ws := r.ws.set j v }).length), ((H.set i { r with ws := r.ws.set j v })[k]).f = (H[k]'(by simpa using hk)).f ∧ ((H.set i { r with ws := r.ws.set j v })[k]).m = (H[k]'(by simpa using hk)).m := by
      intro k hk
      rw [List.getElem_set]
      by_cases hki : i = k
      · subst hki
        rw [if_pos rfl]
        have := (List.getElem?_eq_some_iff.1 hr).2
        rw [this]
        exact ⟨rfl, rfl⟩
      · rw [if_neg hki]; exact ⟨rfl, rfl⟩
    rw [(e p (by simpa using hp)).1, (e p (by simpa using hp)).2, (e q (by simpa using hq)).1, (e q (by simpa using hq)).2]
    exact hd
  · intro x
    rw [h.tkn x]
    constructor
    · rintro ⟨s0, h0, hx⟩
      obtain ⟨s, hs, e1, e2⟩ := hout s0 h0
      exact ⟨s, hs, by rw [e1, e2]; exact hx⟩
    · rintro ⟨s, hs, hx⟩
      obtain ⟨s0, h0, e1, e2, _⟩ := hin s hs
      exact ⟨s0, h0, by rw [← e1, ← e2]; exact hx⟩
  · intro s hs k hk
    obtain ⟨q, hq⟩ := List.getElem?_of_mem hs
    rw [List.getElem?_set] at hq ⊢
    by_cases hqi : i = q
    · rw [if_pos hqi, if_pos hil] at hq
      obtain rfl := Option.some.inj hq
      by_cases hkj : j = k
      · subst hkj
        rw [if_pos rfl, if_pos (by omega), List.getElem?_set_self (by rw [hro.2.2]; exact hj)]
      · rw [if_neg (by show ¬ _ = a.off * 16 + r.f * 16 + k; omega), List.getElem?_set_ne hkj]
        exact h.held r hrm k hk
    · rw [if_neg hqi] at hq
      have hap := h.at' hr q s hq (Ne.symm hqi)
      have hso := h.rg s (List.mem_of_getElem? hq)
      rw [if_neg (by omega)]
      exact h.held s (List.mem_of_getElem? hq) k hk
  · intro x hx ht
    rw [List.getElem?_set]
    have hne : ¬ a.off * 16 + r.f * 16 + j = a.off * 16 + x := fun e => by
      have : a.taken[x / 16]? = some true := (h.tkn _).2 ⟨r, hrm, by omega, by omega⟩
      rw [this] at ht
      cases ht
    rw [if_neg hne]
    exact h.free x hx ht
  · have e : (H.set i { r with ws := r.ws.set j v }).map MRun.m = H.map MRun.m := by
      rw [List.map_set]
      apply set_same
      simp [hr]
    rw [e]; exact h.sum
theorem ZM.drop {k : Nat} {r : MRun} (hk : H[k]? = some r) : ZM { a with runs := a.runs.set r.f 0, taken := rng a.taken r.f (r.f + r.m) false } (rng ws (a.off * 16 + r.f * 16) (a.off * 16 + r.f * 16 + r.m * 16) 0) (H.eraseIdx k) := by
  have hmem := List.mem_of_getElem? hk
  obtain ⟨hm, hb, hwl⟩ := h.rg _ hmem
  have hlt := h.ok.lt
  have hlw := h.lw
  have hlr := h.ok.lr
  have hkl := (List.getElem?_eq_some_iff.1 hk).1
  have hsub : ∀ s ∈ H.eraseIdx k, s ∈ H ∧ (s.f + s.m ≤ r.f ∨ r.f + r.m ≤ s.f) := by
    intro s hs
    refine ⟨List.mem_of_mem_eraseIdx hs, ?_⟩
    obtain ⟨j, hj⟩ := List.getElem?_of_mem hs
    rw [List.getElem?_eraseIdx] at hj
    by_cases hjk : j < k
    · rw [if_pos hjk] at hj
      exact h.at' hk j s hj (by omega)
    · rw [if_neg hjk] at hj
      exact h.at' hk (j + 1) s hj (by omega)
  have hin : ∀ s ∈ H, s = r ∨ s ∈ H.eraseIdx k := by
    intro s hs
    obtain ⟨j, hj⟩ := List.getElem?_of_mem hs
    by_cases hjk : j = k
    · subst hjk
      rw [hk] at hj
      exact .inl (Option.some.inj hj).symm
    · refine .inr ?_
      by_cases hlt : j < k
      · exact List.mem_of_getElem? (show (H.eraseIdx k)[j]? = some s by rw [List.getElem?_eraseIdx, if_pos hlt]; exact hj)
      · exact List.mem_of_getElem? (show (H.eraseIdx k)[j - 1]? = some s by rw [List.getElem?_eraseIdx, if_neg (by omega), show j - 1 + 1 = j by omega]; exact hj)
  have hfull : ∀ x, r.f ≤ x → x < r.f + r.m → a.taken[x]? = some true := fun x h1 h2 => (h.tkn x).2 ⟨_, hmem, h1, h2⟩
  refine ⟨⟨by simpa using h.ok.lr, ?_, runsOk_set h.ok.ok _ _ _ (by omega) (by omega)⟩, ?_, ?_, ?_, ?_, ?_, ?_, ?_, ?_, ?_⟩
  · show (rng a.taken r.f (r.f + r.m) false).length = a.n
    rw [rng_len _ _ _ _ (by omega) (by omega), hlt]
  · show a.off * 16 + a.n * 16 ≤ _
    rw [rng_len _ _ _ _ (by omega) (by omega)]; exact hlw
  · exact fun s hs => h.rg s (hsub s hs).1
  · intro s hs
    obtain ⟨h1, h2⟩ := hsub s hs
    have ho := h.rg s h1
    show (a.runs.set r.f 0)[s.f]? = _
    rw [List.getElem?_set_ne (by omega)]
    exact h.run s h1
  · intro j x hj hno
    have hj' : (a.runs.set r.f 0)[j]? = some x := hj
    by_cases hjf : r.f = j
    · rw [List.getElem?_set, if_pos hjf] at hj'
      split at hj'
      · exact (Option.some.inj hj').symm
      · cases hj'
    · rw [List.getElem?_set_ne hjf] at hj'
      refine h.no j x hj' fun s hs => ?_
      rcases hin s hs with rfl | hs2
      · exact hjf
      · exact hno s hs2
  · exact h.dis.sublist (List.eraseIdx_sublist _ _)
  · intro x
    show (rng a.taken r.f (r.f + r.m) false)[x]? = some true ↔ _
    rw [rng_get _ _ _ _ (by omega) (by omega)]
    constructor
    · intro hx
      by_cases hc : r.f ≤ x ∧ x < r.f + r.m
      · rw [if_pos hc] at hx; cases hx
      · rw [if_neg hc] at hx
        obtain ⟨s, hs, h2⟩ := (h.tkn x).1 hx
        rcases hin s hs with rfl | hs2
        · exact absurd h2 hc
        · exact ⟨s, hs2, h2⟩
    · rintro ⟨s, hs, h2⟩
      obtain ⟨h3, h4⟩ := hsub s hs
      rw [if_neg (by omega)]
      exact (h.tkn x).2 ⟨s, h3, h2⟩
  · intro s hs j hj
    obtain ⟨h3, h4⟩ := hsub s hs
    show (rng ws _ _ 0)[a.off * 16 + s.f * 16 + j]? = _
    rw [rng_get _ _ _ _ (by omega) (by omega), if_neg (by omega)]
    exact h.held s h3 j hj
  · intro x hx ht
    have ht' : (rng a.taken r.f (r.f + r.m) false)[x / 16]? = some false := ht
    show (rng ws _ _ 0)[a.off * 16 + x]? = _
    rw [rng_get _ _ _ _ (by omega) (by omega)] at ht' ⊢
    by_cases hc : r.f ≤ x / 16 ∧ x / 16 < r.f + r.m
    · rw [if_pos (by omega)]
    · rw [if_neg hc] at ht'
      have hx' : x < a.n * 16 := hx
      rw [if_neg (by omega)]
      exact h.free x hx' ht'
  · show trues (rng a.taken r.f (r.f + r.m) false) = _
    have h1 := trues_clear a.taken r.m r.f (by omega) hfull
    have h2 := h.sum
    have h3 : (H.map MRun.m).sum = r.m + ((H.eraseIdx k).map MRun.m).sum := by
      have e1 := (List.getElem?_eq_some_iff.1 hk).2
      have : H = H.take k ++ (r :: H.drop (k + 1)) := by
        rw [← e1, ← List.drop_eq_getElem_cons hkl, List.take_append_drop]
      rw [List.eraseIdx_eq_take_drop_succ]
      conv => lhs; rw [this]
      simp
      omega
    omega
end
end Go.Proofs.YtpjphmpebegidaaDoor
