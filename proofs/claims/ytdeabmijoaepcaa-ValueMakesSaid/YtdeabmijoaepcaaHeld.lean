/-
  A region that draws its order, walked by hand: an operation taken first, its fields as letters; a row of operations whose guard is false, passed at once.
-/
import Derived.Deep.RegionHeld
namespace Go.Stk
open Go

section
variable {P : Program} {ops : Array Oper} {Q : Exit → Act → World → Prop} {md : Region.Mode} {S : World → Prop}
/-- Taken first; the operation parted into its fields, so that what is put is seen. -/
theorem heldTake {i : Nat} {dst : Option Tmp} {op : Op} {ty : TypeId} {pos : String} {after : Array Edge} {guard : Option (Nat × Bool)} {v : Value} {fuel : Nat} {listed : Array Bool} {a : Act} {w : World} (hi : ops[i]? = some ⟨dst, op, ty, pos, after, guard⟩)
    (hs : Region.noSelect ops = true) (hf : Region.free md ops listed i = true) (hr : (Region.ready md ops listed).contains i = true)
    (hQ : ∀ c a w, Q (.panic c) (a.put dst v) w → Q (.panic c) a w) (hw : Region.wanted (⟨dst, op, ty, pos, after, guard⟩ : Oper) (yielded ops a.tmps) = true)
    (hy : ∀ w, S w → (execOp a.eval ⟨dst, op, ty, pos, after, guard⟩).run P w = .ok (.value v) w) (hS : S w)
    (h : wpAnyH P md ops Q S fuel (listed.setIfInBounds i true) (a.put dst v) w) : wpAnyH P md ops Q S (fuel + 1) listed a w :=
  wpAnyH_take hi hs hf hr hQ (Or.inl ⟨hw, hy⟩) hS h
/-- These operations may come up, in this order, and their guard is false. -/
def skipOK (md : Region.Mode) (ops : Array Oper) : List (Nat × Option Tmp) → Array Bool → Act → Bool
  | [], _, _ => true
  | x :: r, l, a => (match ops[x.1]? with | some o => o.dst == x.2 && !Region.wanted o (yielded ops a.tmps) | none => false) && Region.free md ops l x.1 && (Region.ready md ops l).contains x.1 && skipOK md ops r (l.setIfInBounds x.1 true) (a.put x.2 undef)
theorem heldSkips (hs : Region.noSelect ops = true) (hQ : ∀ d v c a w, Q (.panic c) (a.put d v) w → Q (.panic c) a w) : ∀ (is : List (Nat × Option Tmp)) (fuel n : Nat) (listed : Array Bool) (a : Act) (w : World), n = fuel + is.length → skipOK md ops is listed a = true → S w →
    wpAnyH P md ops Q S fuel (is.foldl (fun l x => l.setIfInBounds x.1 true) listed) (is.foldl (fun a x => a.put x.2 undef) a) w → wpAnyH P md ops Q S n listed a w
  | [], fuel, n, listed, a, w, hn, _, _, h => by subst hn; exact h
  | x :: r, fuel, n, listed, a, w, hn, hok, hS, h => by
    simp only [skipOK, Bool.and_eq_true] at hok
    obtain ⟨⟨⟨h1, h2⟩, h3⟩, h4⟩ := hok
    cases ho : ops[x.1]? with
    | none => rw [ho] at h1; cases h1
    | some o =>
      rw [ho] at h1
      simp only [Bool.and_eq_true, beq_iff_eq, Bool.not_eq_true'] at h1
      subst hn
      show wpAnyH P md ops Q S ((fuel + r.length) + 1) listed a w
      refine wpAnyH_take (v := undef) ho hs h2 h3 (hQ _ _) (.inr ⟨h1.2, rfl⟩) hS ?_
      rw [h1.1]
      exact heldSkips hs hQ r fuel _ _ _ w rfl h4 hS h
end
end Go.Stk
