/-
  Lists laid flat: elements of k cells each.
-/
namespace Go.Stk
universe u v
variable {α : Type u} {β : Type v}
theorem flat_len {f : α → List β} {k : Nat} (hf : ∀ a, (f a).length = k) : ∀ l : List α, (l.flatMap f).length = l.length * k
  | [] => by simp
  | a :: l => by simp only [List.flatMap_cons, List.length_append, hf, flat_len hf l, List.length_cons, Nat.add_mul]; omega
theorem flat_get {f : α → List β} {k : Nat} (hf : ∀ a, (f a).length = k) : ∀ (l : List α) (i j : Nat), j < k → (l.flatMap f)[i * k + j]? = l[i]?.bind fun a => (f a)[j]?
  | [], i, j, _ => by simp
  | a :: l, 0, j, hj => by
    simp only [List.flatMap_cons, Nat.zero_mul, Nat.zero_add, List.getElem?_cons_zero, Option.bind_some]
    rw [List.getElem?_append_left (by rw [hf]; exact hj)]
  | a :: l, i + 1, j, hj => by
    simp only [List.flatMap_cons, List.getElem?_cons_succ]
    rw [List.getElem?_append_right (by rw [hf, Nat.add_mul]; omega), hf, ← flat_get hf l i j hj]
    congr 1
    rw [Nat.add_mul]; omega
theorem flat_set {f : α → List β} {k : Nat} (hf : ∀ a, (f a).length = k) : ∀ (l : List α) (i j : Nat) (a a' : α) (x : β), j < k → l[i]? = some a → f a' = (f a).set j x → (l.flatMap f).set (i * k + j) x = (l.set i a').flatMap f
  | [], i, j, a, a', x, _, h, _ => by simp at h
  | b :: l, 0, j, a, a', x, hj, h, e => by
    simp only [List.getElem?_cons_zero, Option.some.injEq] at h
    subst h
    simp only [List.flatMap_cons, Nat.zero_mul, Nat.zero_add, List.set_cons_zero]
    rw [List.set_append_left _ _ (by rw [hf]; exact hj), e]
  | b :: l, i + 1, j, a, a', x, hj, h, e => by
    simp only [List.getElem?_cons_succ] at h
    simp only [List.flatMap_cons, List.set_cons_succ]
    rw [List.set_append_right _ _ (by rw [hf, Nat.add_mul]; omega), hf, ← flat_set hf l i j a a' x hj h e]
    congr 2
    rw [Nat.add_mul]; omega
theorem flat_take {f : α → List β} {k : Nat} (hf : ∀ a, (f a).length = k) : ∀ (l : List α) (n : Nat), (l.flatMap f).take (n * k) = (l.take n).flatMap f
  | [], n => by simp
  | a :: l, 0 => by simp
  | a :: l, n + 1 => by
    simp only [List.flatMap_cons, List.take_succ_cons]
    rw [List.take_append, List.take_of_length_le (by rw [hf, Nat.add_mul]; omega), hf, ← flat_take hf l n]
    congr 2
    rw [Nat.add_mul]; omega
theorem flat_drop {f : α → List β} {k : Nat} (hf : ∀ a, (f a).length = k) : ∀ (l : List α) (n : Nat), (l.flatMap f).drop (n * k) = (l.drop n).flatMap f
  | [], n => by simp
  | a :: l, 0 => by simp
  | a :: l, n + 1 => by
    simp only [List.flatMap_cons, List.drop_succ_cons]
    rw [List.drop_append, List.drop_eq_nil_of_le (by rw [hf, Nat.add_mul]; omega), hf, ← flat_drop hf l n, List.nil_append]
    congr 1
    rw [Nat.add_mul]; omega
end Go.Stk
