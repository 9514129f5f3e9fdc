/-
  A code's bytes and back: in plain words.
-/
import Derived.Test.YtbpbimkadiobfaaDoorParse
namespace Go.Proofs.YtbpbimkadiobfaaDoor
open Go.RowKit Go.Stk

theorem deb_cons (x : Int) (l : List Int) : deb (x :: l) = x * 256 ^ l.length + deb l := by
  have : ∀ (l : List Int) (u : Int), l.foldl (fun u x => u * 256 + x) u = u * 256 ^ l.length + l.foldl (fun u x => u * 256 + x) 0 := by
    intro l
    induction l with
    | nil => intro u; simp
    | cons y l ih =>
      intro u
      rw [List.foldl_cons, ih, List.foldl_cons, ih (0 * 256 + y), List.length_cons, Int.pow_succ]
      rw [Int.add_mul, Int.zero_mul, Int.zero_add, Int.mul_assoc, Int.mul_comm 256, Int.add_assoc]
  show List.foldl _ _ _ = _
  rw [List.foldl_cons, this]
  simp [deb]
theorem be_nat (m n : Nat) : be (m : Int) (n + 1) = ((m / 256 ^ n % 256 : Nat) : Int) :: be (m : Int) n := by
  rw [be]
  congr 1
theorem deb_be (m : Nat) : ∀ n : Nat, deb (be (m : Int) n) = ((m % 256 ^ n : Nat) : Int)
  | 0 => by simp [be, deb, Nat.mod_one]
  | n + 1 => by
    rw [be_nat, deb_cons, be_len, deb_be m n, Nat.pow_succ, Nat.mod_mul]
    simp
    rw [Int.mul_comm, Int.add_comm]
theorem byt_be (m : Nat) : ∀ n : Nat, Byt (be (m : Int) n)
  | 0 => by intro x hx; simp [be] at hx
  | n + 1 => by
    rw [be_nat]
    intro x hx
    rcases List.mem_cons.1 hx with rfl | hx
    · have := Nat.mod_lt (m / 256 ^ n) (show 0 < 256 by decide)
      omega
    · exact byt_be m n x hx
theorem be_add (a m k : Nat) : ∀ j : Nat, j ≤ k → be ((a * 256 ^ k + m : Nat) : Int) j = be (m : Int) j
  | 0, _ => rfl
  | j + 1, h => by
    rw [be_nat, be_nat, be_add a m k j (by omega)]
    congr 2
    obtain ⟨d, rfl⟩ : ∃ d, k = j + 1 + d := ⟨k - (j + 1), by omega⟩
    have e : a * 256 ^ (j + 1 + d) + m = m + 256 ^ j * (a * 256 ^ d * 256) := by
      rw [Nat.pow_add, Nat.pow_succ, Nat.add_comm]
      congr 1
      simp only [Nat.mul_assoc, Nat.mul_comm, Nat.mul_left_comm]
    rw [e, Nat.add_mul_div_left _ _ (Nat.pow_pos (by decide)), Nat.add_mul_mod_self_right]
theorem be_deb : ∀ l : List Int, Byt l → be (deb l) l.length = l
  | [], _ => rfl
  | x :: l, h => by
    have hx := h x (by simp)
    have hl : Byt l := fun y hy => h y (by simp [hy])
    have hd := deb_lt hl
    have ih := be_deb l hl
    obtain ⟨d, hd'⟩ : ∃ d : Nat, deb l = d := ⟨(deb l).toNat, by omega⟩
    obtain ⟨y, rfl⟩ : ∃ y : Nat, x = y := ⟨x.toNat, by omega⟩
    rw [hd'] at ih hd
    have hdn : d < 256 ^ l.length := by
      have : ((256 ^ l.length : Nat) : Int) = 256 ^ l.length := by simp
      omega
    have e : deb ((y : Int) :: l) = ((y * 256 ^ l.length + d : Nat) : Int) := by rw [deb_cons, hd']; simp
    rw [e, List.length_cons, be_nat, be_add _ _ _ _ (Nat.le_refl _), ih]
    congr 2
    rw [Nat.mul_comm, Nat.mul_add_div (Nat.pow_pos (by decide)), Nat.div_eq_of_lt hdn]
    omega
theorem wrap_u64_eq (x : Int) : IntKind.u64.wrap x = x % 18446744073709551616 := by simp [IntKind.wrap, IntKind.bits, IntKind.signed]
/-- A number that four bytes bear. -/
def U32 (x : Int) : Prop := 0 ≤ x ∧ x < 4294967296
theorem deb_be4 {x : Int} (h : U32 x) : deb (be (IntKind.u64.wrap x) 4) = x := by
  obtain ⟨h0, h1⟩ := h
  rw [wrap_u64_id h0 (by omega)]
  obtain ⟨m, rfl⟩ : ∃ m : Nat, x = m := ⟨x.toNat, by omega⟩
  rw [deb_be, Nat.mod_eq_of_lt (by omega)]
theorem be4_deb {l : List Int} (hB : Byt l) (hl : l.length = 4) : be (IntKind.u64.wrap (deb l)) 4 = l := by
  have h := deb_lt hB
  rw [hl] at h
  have h3 : (256 : Int) ^ 4 = 4294967296 := by decide
  rw [wrap_u64_id h.1 (by omega)]
  have := be_deb l hB
  rwa [hl] at this
theorem be4_cons (x : Int) (xs : List Int) : be4 (x :: xs) = be (IntKind.u64.wrap x) 4 ++ be4 xs := rfl
theorem take_app {α : Type} {a b : List α} {n : Nat} (h : a.length = n) : (a ++ b).take n = a := by subst h; exact List.take_left
theorem drop_app {α : Type} {a b : List α} {n : Nat} (h : a.length = n) : (a ++ b).drop n = b := by subst h; exact List.drop_left
theorem deb4s_be4 : ∀ (xs l : List Int), (∀ x ∈ xs, U32 x) → deb4s xs.length (be4 xs ++ l) = xs
  | [], l, _ => rfl
  | x :: xs, l, h => by
    rw [be4_cons, List.append_assoc, List.length_cons, deb4s, take_app (be_len _ _), drop_app (be_len _ _), deb_be4 (h x (by simp)), deb4s_be4 xs l fun y hy => h y (by simp [hy])]
theorem rdInts_be4 (xs l : List Int) (h : ∀ x ∈ xs, U32 x) : rdInts xs.length (be4 xs ++ l) = some (xs, l) := by
  unfold rdInts
  rw [if_neg (by rw [List.length_append, be4_len]; omega), deb4s_be4 xs l h, drop_app (be4_len _)]
theorem be4_deb4s : ∀ (n : Nat) (l : List Int), Byt l → 4 * n ≤ l.length → be4 (deb4s n l) = l.take (4 * n)
  | 0, l, _, _ => by simp [deb4s, be4]
  | n + 1, l, hB, h => by
    rw [deb4s, be4_cons, be4_deb (fun x hx => hB x (List.mem_of_mem_take hx)) (by rw [List.length_take]; omega), be4_deb4s n (l.drop 4) (hB.drop 4) (by rw [List.length_drop]; omega)]
    rw [show 4 * (n + 1) = 4 + 4 * n by omega, List.take_add]
theorem rdInts_back {n : Nat} {l xs l' : List Int} (hB : Byt l) (h : rdInts n l = some (xs, l')) : l = be4 xs ++ l' ∧ xs.length = n ∧ Byt l' ∧ ∀ x ∈ xs, U32 x := by
  unfold rdInts at h
  by_cases hl : l.length < 4 * n
  · rw [if_pos hl] at h; cases h
  · rw [if_neg hl] at h
    simp only [Option.some.injEq, Prod.mk.injEq] at h
    obtain ⟨rfl, rfl⟩ := h
    refine ⟨by rw [be4_deb4s n l hB (by omega), List.take_append_drop], deb4s_len _ _, hB.drop _, ?_⟩
    have : ∀ (n : Nat) (l : List Int), Byt l → ∀ x ∈ deb4s n l, U32 x := by
      intro n
      induction n with
      | zero => intro l _ x hx; simp [deb4s] at hx
      | succ n ih =>
        intro l hB x hx
        rw [deb4s] at hx
        rcases List.mem_cons.1 hx with rfl | hx
        · exact deb4 hB
        · exact ih _ (hB.drop 4) x hx
    exact this n l hB
section
variable {α : Type} {f : List Int → Option (α × List Int)} {e : α → List Int}
theorem many_enc (xs : List α) (l : List Int) (h : ∀ x ∈ xs, ∀ l, f (e x ++ l) = some (x, l)) : many f xs.length (xs.flatMap e ++ l) = some (xs, l) := by
  induction xs with
  | nil => rfl
  | cons x xs ih =>
    rw [List.length_cons, many, List.flatMap_cons, List.append_assoc, h x (by simp)]
    simp only
    rw [ih fun y hy => h y (by simp [hy])]
theorem many_back {P : α → Prop} (hf : ∀ l x l', Byt l → f l = some (x, l') → l = e x ++ l' ∧ Byt l' ∧ P x) : ∀ (n : Nat) (l : List Int) (xs : List α) (l' : List Int), Byt l → many f n l = some (xs, l') → l = xs.flatMap e ++ l' ∧ xs.length = n ∧ Byt l' ∧ ∀ x ∈ xs, P x
  | 0, l, xs, l', hB, h => by
    simp only [many, Option.some.injEq, Prod.mk.injEq] at h
    obtain ⟨rfl, rfl⟩ := h
    exact ⟨rfl, rfl, hB, by simp⟩
  | n + 1, l, xs, l', hB, h => by
    rw [many] at h
    cases hl : f l with
    | none => rw [hl] at h; cases h
    | some p =>
      obtain ⟨y, l3⟩ := p
      rw [hl] at h
      simp only at h
      cases hm : many f n l3 with
      | none => rw [hm] at h; cases h
      | some q =>
        obtain ⟨ys, l4⟩ := q
        rw [hm] at h
        simp only [Option.some.injEq, Prod.mk.injEq] at h
        obtain ⟨rfl, rfl⟩ := h
        obtain ⟨h1, h2, h3⟩ := hf l y l3 hB hl
        obtain ⟨h4, h5, h6, h7⟩ := many_back hf n l3 ys l4 h2 hm
        refine ⟨by rw [h1, h4]; simp, by simp [h5], h6, fun x hx => ?_⟩
        rcases List.mem_cons.1 hx with rfl | hx
        · exact h3
        · exact h7 x hx
/-- What is read stands whatever is behind. -/
theorem many_more (hf : ∀ l x l' m, f l = some (x, l') → f (l ++ m) = some (x, l' ++ m)) : ∀ (n : Nat) (l : List Int) (xs : List α) (l' m : List Int), many f n l = some (xs, l') → many f n (l ++ m) = some (xs, l' ++ m)
  | 0, l, xs, l', m, h => by
    simp only [many, Option.some.injEq, Prod.mk.injEq] at h ⊢
    obtain ⟨rfl, rfl⟩ := h
    exact ⟨rfl, rfl⟩
  | n + 1, l, xs, l', m, h => by
    rw [many] at h ⊢
    cases hl : f l with
    | none => rw [hl] at h; cases h
    | some p =>
      obtain ⟨y, l3⟩ := p
      rw [hl] at h
      simp only at h
      cases hm : many f n l3 with
      | none => rw [hm] at h; cases h
      | some q =>
        obtain ⟨ys, l4⟩ := q
        rw [hm] at h
        simp only [Option.some.injEq, Prod.mk.injEq] at h
        obtain ⟨rfl, rfl⟩ := h
        rw [hf l y l3 m hl]
        simp only
        rw [many_more hf n l3 ys l4 m hm]
end
end Go.Proofs.YtbpbimkadiobfaaDoor
