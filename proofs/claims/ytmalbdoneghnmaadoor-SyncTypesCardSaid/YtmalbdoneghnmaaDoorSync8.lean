/-
  What goroutines share: a state as an object of its own; the chapter's example.
-/
import Derived.Test.YtmalbdoneghnmaaDoorSync7
namespace Go.Proofs.YtmalbdoneghnmaaDoor
open Go.RowKit Go.Stk

/-- The blocks of X are as they were. -/
structure KeptX (X : Nat → Prop) (w w' : World) : Prop where
  os : w'.os = w.os
  tape : w'.tape = w.tape
  output : w'.output = w.output
  size : w.heap.size ≤ w'.heap.size
  block : ∀ k, X k → w'.heap[k]? = w.heap[k]?
theorem KeptX.ofBelow {X : Nat → Prop} {w w' : World} (hb : Below w.heap.size w w') (hX : ∀ k, X k → k < w.heap.size) : KeptX X w w' := ⟨hb.os, hb.tape, hb.output, hb.size, fun k hk => hb.block k (hX k hk)⟩
theorem KeptX.below {X : Nat → Prop} {B : Nat} {w w' : World} (h : KeptX X w w') (hB : ∀ k, k < B → X k) : Below B w w' := ⟨h.os, h.tape, h.output, h.size, fun k hk => h.block k (hB k hk)⟩
/-- A state at b that holds S and has none of X's blocks. -/
def Ob (X : Nat → Prop) (b : Nat) (S : St) (w : World) : Prop := ∃ L : Lay, L.b = b ∧ Rep w L S ∧ (∀ g, L.own g → ¬ X g) ∧ ∀ k, X k → k < w.heap.size
theorem Ob.later {X : Nat → Prop} {b : Nat} {S : St} {w w' : World} (h : Ob X b S w) (hb : Below w.heap.size w w') : Ob X b S w' := by
  obtain ⟨L, e, hr, ho, hx⟩ := h
  exact ⟨L, e, hr.later hb, ho, fun k hk => Nat.lt_of_lt_of_le (hx k hk) hb.size⟩
theorem Ob.add {X : Nat → Prop} {b : Nat} {S : St} {w : World} (h : Ob X b S w) (o : Obj) : Ob (fun k => X k ∨ k = w.heap.size) b S (w.alloc o) := by
  obtain ⟨L, e, hr, ho, hx⟩ := h
  refine ⟨L, e, hr.later (below_alloc (Below.refl _ _) o), fun g hg => ?_, fun k hk => ?_⟩
  · rintro (h1 | h1)
    · exact ho g hg h1
    · have := hr.lt g hg; omega
  · rcases hk with h1 | h1
    · have := hx k h1; simp; omega
    · simp; omega
theorem Ob.lt {X : Nat → Prop} {b : Nat} {S : St} {w : World} (h : Ob X b S w) : ∀ k, X k → k < w.heap.size := by
  obtain ⟨L, e, hr, ho, hx⟩ := h
  exact hx
/-- A store into a block of X. -/
theorem Ob.set {X : Nat → Prop} {b : Nat} {S : St} {w : World} (h : Ob X b S w) (p : Addr) (u : Value) (hp : X p.block) : Ob X b S (w.setCell p u) := by
  obtain ⟨L, e, hr, ho, hx⟩ := h
  refine ⟨L, e, hr.kept (fp := [p.block]) ((Kept.refl _ _).set _ _ (.inl (by simp))) (fun g hg => by simp; rintro rfl; exact ho _ hg hp), ho, fun k hk => by simpa [World.setCell] using hx k hk⟩
/-- What a call answers, and what became of the object. -/
def RetO (X : Nat → Prop) (b : Nat) (S : St) (w : World) (v : Value) (e : Ending) (w' : World) : Prop := e = .returned v ∧ Ob X b S w' ∧ KeptX X w w'
theorem Ob.call {P : Program} {f : FuncId} {args : Array Value} {X : Nat → Prop} {b : Nat} {S S' : St} {w : World} {v : Value} (h : Ob X b S w)
    (hc : ∀ L : Lay, L.b = b → Rep w L S → Calls P f args w (RetS w L S' v)) : Calls P f args w (RetO X b S' w v) := by
  obtain ⟨L, e, hr, ho, hx⟩ := h
  refine (hc L e hr).mono ?_
  rintro e' w' ⟨rfl, L', hr', hb', ho', hk⟩
  refine ⟨rfl, ⟨L', hb'.trans e, hr', fun g hg hxg => ?_, fun k hk2 => Nat.lt_of_lt_of_le (hx k hk2) hk.size⟩, ⟨hk.os, hk.tape, hk.output, hk.size, fun k hk2 => hk.block k (hx k hk2) (fun hm => ho k (Lay.mem.1 hm) hk2)⟩⟩
  rcases ho' g hg with h1 | h1
  · exact ho g h1 hxg
  · have := hx g hxg; omega
theorem Ob.ask {P : Program} {f : FuncId} {args : Array Value} {X : Nat → Prop} {b : Nat} {S : St} {w : World} {v : Value} (h : Ob X b S w)
    (hc : ∀ L : Lay, L.b = b → Rep w L S → Calls P f args w (Ret w v)) : Calls P f args w (Ret w v) := by
  obtain ⟨L, e, hr, ho, hx⟩ := h
  exact hc L e hr
/-- A state made: an object. -/
def MadeO (w : World) (S : St) (e : Ending) (w' : World) : Prop := ∃ b, e = .returned (.tuple #[.pointer (some ⟨b, 0, none⟩), .nilIface]) ∧ Ob (fun k => k < w.heap.size) b S w' ∧ Below w.heap.size w w'
theorem new_made (ps : List Int) (m a : Nat) (cs : List (Int × Int)) (A C : Option Addr) (ca cc : Nat) (w : World) (er et : Addr) (hE : Errs w er et) (hp : RI w A ps) (hC : Rd w C (ccells cs)) (hok : newOk ps m cs a = true) :
    Calls Tryd.prog 9 #[.slice A ps.length ca, .int .i64 m, .slice C cs.length cc, .int .i64 a] w (MadeO w (newSt ps m cs a)) := by
  have hk := hok
  simp only [newOk, Bool.and_eq_true, decide_eq_true_eq] at hk
  obtain ⟨⟨⟨⟨⟨h1, h2⟩, h3⟩, h4⟩, _⟩, _⟩ := hk
  refine (new_any ps m a cs A C ca cc w er et hE hp hC h1 (by omega) (by omega) h4).mono ?_
  rintro e w' (⟨_, L, rfl, hr, ho, hb⟩ | ⟨h, _⟩)
  · exact ⟨L.b, rfl, ⟨L, rfl, hr, fun g hg hx => by have := ho g hg; omega, fun k hk => Nat.lt_of_lt_of_le hk hb.size⟩, hb⟩
  · rw [hok] at h; cases h
end Go.Proofs.YtmalbdoneghnmaaDoor
