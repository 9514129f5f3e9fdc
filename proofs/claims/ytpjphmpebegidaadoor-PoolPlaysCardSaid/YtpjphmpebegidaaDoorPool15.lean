/-
  The plain law of PoolZeroes: the runs that are held, what is taken, what the words are.
-/
import Derived.Test.YtpjphmpebegidaaDoorPool12
namespace Go.Proofs.YtpjphmpebegidaaDoor
open Go.RowKit Go.Stk

theorem rng_self {α : Type _} (t : List α) (a b : Nat) (z : α) (h : a ≤ b) (hb : b ≤ t.length) (hz : ∀ x, a ≤ x → x < b → t[x]? = some z) : rng t a b z = t := by
  apply List.ext_getElem?
  intro x
  rw [rng_get _ _ _ _ h hb]
  by_cases hx : a ≤ x ∧ x < b
  · rw [if_pos hx, hz x hx.1 hx.2]
  · rw [if_neg hx]
theorem trues_rng_true (t : List Bool) (a b : Nat) : trues (rng t a b true) = trues (t.take a) + ((b - a) + trues (t.drop b)) := by
  simp [trues, rng, List.countP_append, List.countP_replicate]
theorem trues_rng_false (t : List Bool) (a b : Nat) : trues (rng t a b false) = trues (t.take a) + trues (t.drop b) := by
  simp [trues, rng, List.countP_append, List.countP_replicate]
theorem trues_fill (t : List Bool) (m f : Nat) (h : Fits t m f) : trues (rng t f (f + m) true) = trues t + m := by
  have e := rng_self t f (f + m) false (by omega) h.1 h.2
  rw [trues_rng_true]
  have := trues_rng_false t f (f + m)
  rw [e] at this
  omega
theorem trues_clear (t : List Bool) (m f : Nat) (hb : f + m ≤ t.length) (h : ∀ x, f ≤ x → x < f + m → t[x]? = some true) : trues (rng t f (f + m) false) + m = trues t := by
  have e := rng_self t f (f + m) true (by omega) hb h
  rw [trues_rng_false]
  have := trues_rng_true t f (f + m)
  rw [e] at this
  omega

/-- The runs that are held: first page, how many pages. -/
structure Z (runs : List Int) (tk : List Bool) (ws : List Int) (H : List (Nat × Nat)) : Prop where
  lr : runs.length = 64
  lt : tk.length = 64
  lw : ws.length = 1024
  ok : ∀ r ∈ H, 0 < r.2 ∧ r.1 + r.2 ≤ 64
  run : ∀ r ∈ H, runs[r.1]? = some (r.2 : Int)
  dis : H.Pairwise fun p q => p.1 + p.2 ≤ q.1 ∨ q.1 + q.2 ≤ p.1
  tkn : ∀ x, tk[x]? = some true ↔ ∃ r ∈ H, r.1 ≤ x ∧ x < r.1 + r.2
  held : ∀ r ∈ H, ∀ x, 16 * r.1 ≤ x → x < 16 * (r.1 + r.2) → ws[x]? = some (16 * (r.1 : Int) + 1)
  free : ∀ x, tk[x / 16]? = some false → ws[x]? = some 0
  sum : trues tk = (H.map Prod.snd).sum
theorem Z.start : Z (List.replicate 64 0) (List.replicate 64 false) (List.replicate 1024 0) [] := by
  refine ⟨List.length_replicate, List.length_replicate, List.length_replicate, fun r hr => (by cases hr), fun r hr => (by cases hr), .nil, ?_, fun r hr => (by cases hr), ?_, by unfold trues; rw [List.countP_replicate]; rfl⟩
  · intro x
    rw [List.getElem?_replicate]
    constructor
    · intro hx
      split at hx <;> cases hx
    · rintro ⟨r, hr, _⟩
      cases hr
  · intro x hx
    rw [List.getElem?_replicate] at hx
    by_cases h : x / 16 < 64
    · rw [List.getElem?_replicate, if_pos (by omega)]
    · rw [if_neg h] at hx
      cases hx
section
variable {runs : List Int} {tk : List Bool} {ws : List Int} {H : List (Nat × Nat)} (h : Z runs tk ws H)
include h
theorem Z.none_free (hH : H = []) (m : Nat) (hm : m ≤ 64) : Fits tk m 0 := by
  refine ⟨by rw [h.lt]; omega, fun x _ hx => ?_⟩
  obtain ⟨b, hb⟩ : ∃ b, tk[x]? = some b := ⟨_, List.getElem?_eq_getElem (by rw [h.lt]; omega)⟩
  cases b
  · exact hb
  · obtain ⟨r, hr, _⟩ := (h.tkn x).1 hb
    rw [hH] at hr
    simp at hr
theorem Z.apart {f m : Nat} (hf : Fits tk m f) (r : Nat × Nat) (hr : r ∈ H) : r.1 + r.2 ≤ f ∨ f + m ≤ r.1 ∨ m = 0 := by
  have ho := h.ok r hr
  by_cases h1 : r.1 + r.2 ≤ f
  · exact .inl h1
  · by_cases h2 : f + m ≤ r.1
    · exact .inr (.inl h2)
    · by_cases h3 : m = 0
      · exact .inr (.inr h3)
      · exfalso
        have h4 := hf.2 (max f r.1) (by omega) (by omega)
        have h5 := (h.tkn (max f r.1)).2 ⟨r, hr, by omega, by omega⟩
        rw [h5] at h4
        cases h4
theorem Z.alloc {f m : Nat} (hf : Fits tk m f) (hm : 0 < m) : Z (runs.set f (m : Int)) (rng tk f (f + m) true) (rng ws (16 * f) (16 * (f + m)) (16 * (f : Int) + 1)) (H ++ [(f, m)]) := by
  have hb := hf.1
  rw [h.lt] at hb
  have hap := fun r hr => h.apart hf r hr
  have hlt := h.lt
  have hlw := h.lw
  refine ⟨by simp [h.lr], by rw [rng_len _ _ _ _ (by omega) (by omega), h.lt], by rw [rng_len _ _ _ _ (by omega) (by omega), h.lw], ?_, ?_, ?_, ?_, ?_, ?_, ?_⟩
  · intro r hr
    simp at hr
    rcases hr with hr | rfl
    · exact h.ok r hr
    · exact ⟨hm, hb⟩
  · intro r hr
    simp at hr
    rcases hr with hr | rfl
    · have := hap r hr
      have ho := h.ok r hr
      rw [List.getElem?_set_ne (by omega)]
      exact h.run r hr
    · rw [List.getElem?_set_self (by rw [h.lr]; show f < 64; omega)]
  · rw [List.pairwise_append]
    refine ⟨h.dis, by simp, fun r hr q hq => ?_⟩
    simp at hq
    subst hq
    have := hap r hr
    show r.1 + r.2 ≤ f ∨ f + m ≤ r.1
    omega
  · intro x
    rw [rng_get _ _ _ _ (by omega) (by omega)]
    constructor
    · intro hx
      by_cases hc : f ≤ x ∧ x < f + m
      · exact ⟨(f, m), by simp, hc⟩
      · rw [if_neg hc] at hx
        obtain ⟨r, hr, h2⟩ := (h.tkn x).1 hx
        exact ⟨r, by simp [hr], h2⟩
    · rintro ⟨r, hr, h2⟩
      simp at hr
      by_cases hc : f ≤ x ∧ x < f + m
      · rw [if_pos hc]
      · rw [if_neg hc]
        rcases hr with hr | rfl
        · exact (h.tkn x).2 ⟨r, hr, h2⟩
        · exact absurd h2 hc
  · intro r hr x h1 h2
    rw [rng_get _ _ _ _ (by omega) (by omega)]
    simp at hr
    rcases hr with hr | rfl
    · have := hap r hr
      rw [if_neg (by omega)]
      exact h.held r hr x h1 h2
    · rw [if_pos ⟨h1, h2⟩]
  · intro x hx
    rw [rng_get _ _ _ _ (by omega) (by omega)] at hx ⊢
    by_cases hc : f ≤ x / 16 ∧ x / 16 < f + m
    · rw [if_pos hc] at hx
      cases hx
    · rw [if_neg hc] at hx
      rw [if_neg (by omega)]
      exact h.free x hx
  · rw [trues_fill _ _ _ hf, h.sum]
    simp
theorem Z.drop {k : Nat} {f m : Nat} (hk : H[k]? = some (f, m)) : Z (runs.set f 0) (rng tk f (f + m) false) (rng ws (f * 16) (f * 16 + m * 16) 0) (H.eraseIdx k) := by
  have hmem := List.mem_of_getElem? hk
  obtain ⟨hm, hb⟩ := h.ok _ hmem
  have hm : 0 < m := hm
  have hb : f + m ≤ 64 := hb
  have hlt := h.lt
  have hlw := h.lw
  have hkl := (List.getElem?_eq_some_iff.1 hk).1
  have hsub : ∀ r ∈ H.eraseIdx k, r ∈ H ∧ (r.1 + r.2 ≤ f ∨ f + m ≤ r.1) := by
    intro r hr
    refine ⟨List.mem_of_mem_eraseIdx hr, ?_⟩
    obtain ⟨j, hj⟩ := List.getElem?_of_mem hr
    rw [List.getElem?_eraseIdx] at hj
    have hd := List.pairwise_iff_getElem.1 h.dis
    have e1 := (List.getElem?_eq_some_iff.1 hk).2
    by_cases hjk : j < k
    · rw [if_pos hjk] at hj
      have hjl := (List.getElem?_eq_some_iff.1 hj).1
      have e2 := (List.getElem?_eq_some_iff.1 hj).2
      have := hd j k hjl hkl hjk
      rw [e1, e2] at this
      exact this
    · rw [if_neg hjk] at hj
      have hjl := (List.getElem?_eq_some_iff.1 hj).1
      have e2 := (List.getElem?_eq_some_iff.1 hj).2
      have := hd k (j + 1) hkl hjl (by omega)
      rw [e1, e2] at this
      exact this.symm
  have hin : ∀ r ∈ H, r = (f, m) ∨ r ∈ H.eraseIdx k := by
    intro r hr
    obtain ⟨j, hj⟩ := List.getElem?_of_mem hr
    by_cases hjk : j = k
    · subst hjk
      rw [hk] at hj
      exact .inl (Option.some.inj hj).symm
    · refine .inr ?_
      by_cases hlt : j < k
      · exact List.mem_of_getElem? (show (H.eraseIdx k)[j]? = some r by rw [List.getElem?_eraseIdx, if_pos hlt]; exact hj)
      · exact List.mem_of_getElem? (show (H.eraseIdx k)[j - 1]? = some r by rw [List.getElem?_eraseIdx, if_neg (by omega), show j - 1 + 1 = j by omega]; exact hj)
  have hfull : ∀ x, f ≤ x → x < f + m → tk[x]? = some true := fun x h1 h2 => (h.tkn x).2 ⟨_, hmem, h1, h2⟩
  refine ⟨by simp [h.lr], by rw [rng_len _ _ _ _ (by omega) (by omega), h.lt], by rw [rng_len _ _ _ _ (by omega) (by omega), h.lw], ?_, ?_, ?_, ?_, ?_, ?_, ?_⟩
  · exact fun r hr => h.ok r (hsub r hr).1
  · intro r hr
    obtain ⟨h1, h2⟩ := hsub r hr
    have ho := h.ok r h1
    rw [List.getElem?_set_ne (by omega)]
    exact h.run r h1
  · exact h.dis.sublist (List.eraseIdx_sublist _ _)
  · intro x
    rw [rng_get _ _ _ _ (by omega) (by omega)]
    constructor
    · intro hx
      by_cases hc : f ≤ x ∧ x < f + m
      · rw [if_pos hc] at hx
        cases hx
      · rw [if_neg hc] at hx
        obtain ⟨r, hr, h2⟩ := (h.tkn x).1 hx
        rcases hin r hr with rfl | hr
        · exact absurd h2 hc
        · exact ⟨r, hr, h2⟩
    · rintro ⟨r, hr, h2⟩
      obtain ⟨h3, h4⟩ := hsub r hr
      rw [if_neg (by omega)]
      exact (h.tkn x).2 ⟨r, h3, h2⟩
  · intro r hr x h1 h2
    obtain ⟨h3, h4⟩ := hsub r hr
    rw [rng_get _ _ _ _ (by omega) (by omega), if_neg (by omega)]
    exact h.held r h3 x h1 h2
  · intro x hx
    rw [rng_get _ _ _ _ (by omega) (by omega)] at hx ⊢
    by_cases hc : f ≤ x / 16 ∧ x / 16 < f + m
    · rw [if_pos (by omega)]
    · rw [if_neg hc] at hx
      rw [if_neg (by omega)]
      exact h.free x hx
  · have h1 := trues_clear tk m f (by omega) hfull
    have h2 := h.sum
    have h3 : (H.map Prod.snd).sum = m + ((H.eraseIdx k).map Prod.snd).sum := by
      have e1 := (List.getElem?_eq_some_iff.1 hk).2
      have : H = H.take k ++ ((f, m) :: H.drop (k + 1)) := by
        rw [← e1, ← List.drop_eq_getElem_cons hkl, List.take_append_drop]
      rw [List.eraseIdx_eq_take_drop_succ]
      conv => lhs; rw [this]
      simp
      omega
    omega
end
end Go.Proofs.YtpjphmpebegidaaDoor
