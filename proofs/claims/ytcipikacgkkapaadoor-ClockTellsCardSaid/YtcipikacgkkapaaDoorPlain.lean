/-
  The plain facts on clocks as lists: counts, joins, short forms, at most.
-/
import Derived.Test.YtcipikacgkkapaaDoorWc
namespace Go.Proofs.YtcipikacgkkapaaDoor

theorem intSplit (a b : Int) : a < b ∨ b ≤ a := by omega
theorem getL_nonneg (l : List Int) (g : Int) : 0 ≤ getL l g := by
  unfold getL; split
  · omega
  · split <;> omega
theorem getL_neg (l : List Int) (g : Int) (h : g < 0) : getL l g = 0 := by simp [getL, h]
theorem getL_nat (l : List Int) (k : Nat) : getL l k = max (l.getD k 0) 0 := by
  unfold getL
  rw [if_neg (by omega)]
  by_cases h : k < l.length
  · rw [if_neg (by omega)]; simp
  · rw [if_pos (by omega)]
    have : l.getD k 0 = 0 := by simp [List.getElem?_eq_none (show l.length ≤ k by omega)]
    rw [this]; rfl
theorem getL_nil (g : Int) : getL [] g = 0 := by
  rcases intSplit g 0 with h | h
  · exact getL_neg _ _ h
  · obtain ⟨k, rfl⟩ := Int.eq_ofNat_of_zero_le h
    rw [getL_nat]; simp
theorem ext_getL {a b : List Int} (h : ∀ k : Nat, getL a k = getL b k) (g : Int) : getL a g = getL b g := by
  rcases intSplit g 0 with hg | hg
  · rw [getL_neg _ _ hg, getL_neg _ _ hg]
  · obtain ⟨k, rfl⟩ := Int.eq_ofNat_of_zero_le hg
    exact h k
/-- Striking zeros at the end changes no count. -/
theorem trim_getD (l : List Int) (k : Nat) : (trim l).getD k 0 = l.getD k 0 := by
  by_cases h : 0 < l.length
  · by_cases h0 : l.getD (l.length - 1) 0 = 0
    · rw [← trim_zero l h h0, trim_getD (l.take (l.length - 1)) k]
      simp only [List.getD_eq_getElem?_getD, List.getElem?_take]
      split
      · rfl
      · rename_i hk
        by_cases hk2 : k = l.length - 1
        · subst hk2
          simp at h0
          simp [h0]
        · rw [List.getElem?_eq_none (by omega)]
    · rw [trim_keep l h h0]
  · obtain rfl : l = [] := by cases l; rfl; simp at h
    rfl
termination_by l.length
decreasing_by simp; omega
theorem trim_getL (l : List Int) (g : Int) : getL (trim l) g = getL l g := ext_getL (fun k => by rw [getL_nat, getL_nat, trim_getD]) g

theorem joinRaw_getD (xs ys : List Int) (n k : Nat) (hn : max xs.length ys.length ≤ n) : (joinRaw xs ys n).getD k 0 = max (getL xs k) (getL ys k) := by
  by_cases h : k < n
  · simp [joinRaw, h]
  · have h1 : getL xs k = 0 := by rw [getL_nat]; simp [List.getElem?_eq_none (show xs.length ≤ k by omega)]
    have h2 : getL ys k = 0 := by rw [getL_nat]; simp [List.getElem?_eq_none (show ys.length ≤ k by omega)]
    rw [h1, h2]
    simp [List.getElem?_eq_none (show (joinRaw xs ys n).length ≤ k by rw [joinRaw_len]; omega)]
/-- A join's counts are the greater ones. -/
theorem getL_join (xs ys : List Int) (g : Int) : getL (joinL xs ys) g = max (getL xs g) (getL ys g) := by
  rcases intSplit g 0 with hg | hg
  · rw [getL_neg _ _ hg, getL_neg _ _ hg, getL_neg _ _ hg]; rfl
  · obtain ⟨k, rfl⟩ := Int.eq_ofNat_of_zero_le hg
    unfold joinL
    rw [trim_getL, getL_nat, joinRaw_getD _ _ _ _ (Nat.le_refl _)]
    have := getL_nonneg xs k
    have := getL_nonneg ys k
    omega
theorem getL_one (m : Nat) (n : Int) (hn : 0 ≤ n) (g : Int) : getL (oneL m n) g = if g = m then n else 0 := by
  rcases intSplit g 0 with hg | hg
  · rw [getL_neg _ _ hg, if_neg (by omega)]
  · obtain ⟨k, rfl⟩ := Int.eq_ofNat_of_zero_le hg
    rw [getL_nat]
    by_cases h : k = m
    · subst h
      simp [oneL]; omega
    · rw [if_neg (by omega)]
      unfold oneL
      rcases Nat.lt_or_ge k m with h1 | h1
      · simp [List.getElem?_append_left, h1]
      · rw [List.getD_eq_getElem?_getD, List.getElem?_eq_none (by simp; omega)]; rfl
/-- A tick changes one count alone, by one. -/
theorem getL_tick (xs : List Int) (m : Nat) (g : Int) : getL (joinL xs (oneL m (getL xs m + 1))) g = if g = m then getL xs m + 1 else getL xs g := by
  have h1 := getL_nonneg xs m
  have h2 := getL_nonneg xs g
  rw [getL_join, getL_one _ _ (by omega)]
  split
  · rename_i h; subst h; omega
  · omega

/-- A short form: no 0 at its end. -/
def IsShort (l : List Int) : Prop := trim l = l
theorem trim_trim (l : List Int) : trim (trim l) = trim l := by
  by_cases h : 0 < l.length
  · by_cases h0 : l.getD (l.length - 1) 0 = 0
    · rw [← trim_zero l h h0]
      exact trim_trim _
    · rw [trim_keep l h h0, trim_keep l h h0]
  · obtain rfl : l = [] := by cases l; rfl; simp at h
    rfl
termination_by l.length
decreasing_by simp; omega
/-- The last of a short form isn't 0. -/
theorem trim_last (l : List Int) (h : 0 < (trim l).length) : (trim l).getD ((trim l).length - 1) 0 ≠ 0 := by
  intro h0
  have h1 := trim_zero (trim l) h h0
  rw [trim_trim] at h1
  have h2 := trim_len ((trim l).take ((trim l).length - 1))
  rw [h1] at h2
  simp at h2
  omega
theorem trim_ext {a b : List Int} (h : ∀ k : Nat, a.getD k 0 = b.getD k 0) : trim a = trim b := by
  have hl : ∀ {a b : List Int}, (∀ k : Nat, a.getD k 0 = b.getD k 0) → (trim a).length ≤ (trim b).length := by
    intro a b h
    rcases Nat.lt_or_ge (trim b).length (trim a).length with hlt | hge
    · exfalso
      have h1 := trim_last a (by omega)
      rw [trim_getD, h, ← trim_getD] at h1
      apply h1
      simp [List.getElem?_eq_none (show (trim b).length ≤ (trim a).length - 1 by omega)]
    · exact hge
  have hlen : (trim a).length = (trim b).length := Nat.le_antisymm (hl h) (hl fun k => (h k).symm)
  apply List.ext_getElem? 
  intro i
  by_cases hi : i < (trim a).length
  · have h1 : (trim a).getD i 0 = (trim b).getD i 0 := by rw [trim_getD, trim_getD, h]
    rw [List.getElem?_eq_getElem hi, List.getElem?_eq_getElem (by omega)]
    simpa [hi, show i < (trim b).length by omega] using h1
  · rw [List.getElem?_eq_none (by omega), List.getElem?_eq_none (by omega)]
theorem joinL_ext {a b c d : List Int} (h : ∀ g : Int, max (getL a g) (getL b g) = max (getL c g) (getL d g)) : joinL a b = joinL c d := by
  unfold joinL
  refine trim_ext fun k => ?_
  rw [joinRaw_getD _ _ _ _ (Nat.le_refl _), joinRaw_getD _ _ _ _ (Nat.le_refl _), h]
/-- At most, by counts. -/
theorem atMost_iff (a b : List Int) : atMost a b = true ↔ ∀ g : Int, getL a g ≤ getL b g := by
  unfold atMost
  rw [decide_eq_true_iff]
  constructor
  · intro h g
    have h1 := congrArg (fun l => getL l g) h
    simp only [getL_join, getL_nil] at h1
    have := getL_nonneg b g
    omega
  · intro h
    refine joinL_ext fun g => ?_
    rw [getL_nil]
    have := h g
    have := getL_nonneg b g
    omega
theorem same_iff (a b : List Int) : (atMost a b && atMost b a) = true ↔ ∀ g : Int, getL a g = getL b g := by
  rw [Bool.and_eq_true, atMost_iff, atMost_iff]
  constructor
  · intro h g; have := h.1 g; have := h.2 g; omega
  · intro h; exact ⟨fun g => by rw [h g]; omega, fun g => by rw [h g]; omega⟩
end Go.Proofs.YtcipikacgkkapaaDoor
