/-
  A code's bytes: Put.
-/
import Derived.Test.YtbpbimkadiobfaaDoorPut1
namespace Go.Proofs.YtbpbimkadiobfaaDoor
open Go.RowKit Go.Stk
attribute [local go_sem ↓] Go.wp_at_zero Go.wp_at_succ

def u64 (n : Int) : Int := IntKind.u64.wrap n
def chE (x : Int × Int) : List Int := be4 [x.1, x.2]
def fnE (f : Fn) : List Int := be4 [f.st, f.pa, f.locals.length] ++ be4 f.locals
def insE (x : Ins) : List Int := be (IntKind.u64.wrap x.op) 1 ++ (be (IntKind.u64.wrap x.a) 8 ++ (be4 [x.b] ++ (be x.bits 8 ++ be4 [x.at_])))
def headE (c : Co) : List Int := be4 [c.places.length, c.mux, c.ato, c.chans.length, c.funcs.length, c.body.length, c.start]
/-- A code's bytes. -/
def encC (c : Co) : List Int := headE c ++ be4 c.places ++ c.chans.flatMap chE ++ c.funcs.flatMap fnE ++ c.body.flatMap insE
theorem chE_len (x : Int × Int) : (chE x).length = 8 := by rw [chE, be4_len]; rfl
theorem insE_len (x : Ins) : (insE x).length = 25 := by simp [insE, be_len, be4_len]
theorem fnE_len (f : Fn) : (fnE f).length = 12 + 4 * f.locals.length := by simp [fnE, be4_len]
theorem fm_next {α β : Type} {f : α → List β} {l : List α} {k : Nat} {x : α} (h : l[k]? = some x) : (l.take (k + 1)).flatMap f = (l.take k).flatMap f ++ f x := by
  rw [List.take_add_one, h]
  simp
theorem fns_len {l : List Fn} (h : ∀ f ∈ l, f.locals.length ≤ 32) : (l.flatMap fnE).length ≤ 140 * l.length := by
  induction l with
  | nil => simp
  | cons f l ih =>
    have h1 := h f (by simp)
    have h2 := ih fun g hg => h g (by simp [hg])
    simp only [List.flatMap_cons, List.length_append, fnE_len, List.length_cons]
    omega
/-- What holds while a code is written: the box at bx, the writer at b; X: blocks that the writer has none of. -/
structure PuR (w wr : World) (c : Co) (bx b : Nat) (X : Nat → Prop) (xs : List Int) : Prop where
  bl : Below w.heap.size w wr
  rep : c.Rep w
  box : Co.Box wr bx c
  lt : w.heap.size ≤ b ∧ bx < b
  hX : ∀ k, k < b → X k
  wr : WrO X b xs wr
theorem PuR.later {w wr w' : World} {c : Co} {bx b : Nat} {X : Nat → Prop} {xs : List Int} (h : PuR w wr c bx b X xs) (hb : Below wr.heap.size wr w') : PuR w w' c bx b X xs :=
  ⟨below_next h.bl hb, h.rep, h.box.later hb, h.lt, h.hX, h.wr.later hb⟩
theorem PuR.step {w wr w' : World} {c : Co} {bx b : Nat} {X : Nat → Prop} {xs ys : List Int} (h : PuR w wr c bx b X xs) (h1 : WrO X b ys w') (h2 : KeptX X wr w') : PuR w w' c bx b X ys := by
  have hl := h.lt
  have hx := h.hX bx hl.2
  refine ⟨h.bl.trans (h2.below fun k hk => h.hX k (by omega)), h.rep, ⟨?_, ?_, ?_, ?_, ?_, ?_, ?_⟩, h.lt, h.hX, h1⟩
  · exact h2.cell (a := ⟨bx, 0, none⟩) hx h.box.c0
  · exact h2.cell (a := ⟨bx, 1, none⟩) hx h.box.c1
  · exact h2.cell (a := ⟨bx, 2, none⟩) hx h.box.c2
  · exact h2.cell (a := ⟨bx, 3, none⟩) hx h.box.c3
  · exact h2.cell (a := ⟨bx, 4, none⟩) hx h.box.c4
  · exact h2.cell (a := ⟨bx, 5, none⟩) hx h.box.c5
  · exact h2.cell (a := ⟨bx, 6, none⟩) hx h.box.c6
/-- What a call leaves. -/
def PuE (w W : World) (c : Co) (bx b : Nat) (X : Nat → Prop) (xs : List Int) (e : Ending) (w' : World) : Prop := e = .returned (.tuple #[]) ∧ Hid (PuR w w' c bx b X xs) ∧ KeptX X W w'
section
variable {w wr : World} {c : Co} {bx b : Nat} {X : Nat → Prop} {xs : List Int} (h : PuR w wr c bx b X xs)
include h
theorem PuR.enter (o : Obj) : PuR w (wr.alloc o) c bx b (fun k => X k ∨ k = wr.heap.size) xs := by
  have hb := below_alloc (Below.refl wr.heap.size wr) o
  exact ⟨below_next h.bl hb, h.rep, h.box.later hb, h.lt, fun k hk => .inl (h.hX k hk), (h.wr.add hb).mono fun k hk => hk.imp_right fun e => by simp; omega⟩
theorem PuR.leave : PuR w wr c bx b (fun k => k < b) xs := ⟨h.bl, h.rep, h.box, h.lt, fun _ hk => hk, h.wr.mono h.hX⟩
theorem PuR.put (n : Nat) (hn : n ≤ 8) (u : Int) (hl : xs.length + n ≤ 1000000000) : Calls Tryd.prog 44 #[.pointer (some ⟨b, 0, none⟩), .int .u64 u, .int .i64 n] wr (PuE w wr c bx b X (xs ++ be u n)) := by
  refine (put_any n hn u _ b xs wr h.wr hl).mono ?_
  rintro e w' ⟨he, h1, h2⟩
  exact ⟨he, h.step h1 h2, h2⟩
/-- Numbers of a row that was there. -/
theorem PuR.nums (ns : List Int) (A : Option Addr) (cp : Nat) (hr : Rs w A (ints ns)) (hl : xs.length + 4 * ns.length ≤ 1000000000) : Calls Tryd.prog 43 #[.pointer (some ⟨b, 0, none⟩), .slice A ns.length cp] wr (PuE w wr c bx b X (xs ++ be4 ns)) := by
  refine (nums_any ns A cp _ b xs wr h.wr (fun hn a ha => ?_) (hr.later h.bl) hl).mono ?_
  · obtain ⟨b1, o1, e1, hc⟩ := hr (by simpa using hn)
    rw [ha] at e1
    obtain rfl := Option.some.inj e1
    have h1 : b1 < w.heap.size := cell_lt (hc 0 (by simpa using hn))
    have := h.lt
    exact h.hX b1 (by omega)
  · rintro e w' ⟨he, h1, h2⟩
    exact ⟨he, h.step h1 h2, h2⟩
/-- Numbers of a row just laid. -/
theorem PuR.newNums (ns : List Int) (T : TypeId) (g m : Nat) (cs : Array Value) (hg : g = wr.heap.size) (hm : m = ns.length) (hcs : cs = (ints ns).toArray) (hl : xs.length + 4 * ns.length ≤ 1000000000) : Calls Tryd.prog 43 #[.pointer (some ⟨b, 0, none⟩), .slice (some ⟨g, 0, none⟩) m m] (wr.alloc (.cells cs T)) (PuE w wr c bx b X (xs ++ be4 ns)) := by
  subst hg hm hcs
  have hb : Below wr.heap.size wr (wr.alloc (.cells (ints ns).toArray T)) := below_alloc (Below.refl _ _) _
  refine (nums_any ns _ ns.length _ b xs _ (h.wr.add hb) (fun hn a ha => ?_) (fun hn => ⟨wr.heap.size, 0, rfl, fun j hj => by rw [Nat.zero_add, blk_cell (blk_new wr _)]; simp⟩) hl).mono ?_
  · obtain rfl := Option.some.inj ha
    exact .inr (by simp)
  · rintro e w' ⟨he, h1, h2⟩
    have h3 := h2.mono (Y := X) fun k hk => .inl hk
    exact ⟨he, (h.later hb).step (h1.mono fun k hk => .inl hk) h3, (KeptX.ofBelow hb h.wr.lt).trans h3⟩
end
/-- A code's bytes, or none. -/
def PutR (w : World) (c : Co) (ec : Addr) (e : Ending) (w' : World) : Prop :=
  (checkB c = true ∧ ∃ v, e = .returned (.tuple #[v, .nilIface]) ∧ Row w' 5 1 v (encC c).length (bys (encC c)) ∧ (∀ g ∈ blk v, w.heap.size ≤ g) ∧ Below w.heap.size w w') ∨
  (checkB c = false ∧ Ret w (.tuple #[.slice none 0 0, errV ec]) e w')
theorem check_small {c : Co} (h : checkB c = true) : c.places.length ≤ 128 ∧ c.chans.length ≤ 32 ∧ c.funcs.length ≤ 16 ∧ c.body.length ≤ 8192 ∧ ∀ f ∈ c.funcs, f.locals.length ≤ 32 := by
  unfold checkB at h
  rw [Bool.and_eq_true] at h
  have h1 := h.1
  unfold shapeB at h1
  simp only [Bool.and_eq_true, decide_eq_true_eq] at h1
  obtain ⟨a1, a2, a3, a4, a5, a6, a7, a8, a9, a10, a11⟩ := h1
  have b2 := (wB_iff _ _ _).1 a2
  have b3 := (wB_iff _ _ _).1 a3
  refine ⟨a1, by omega, a5, a6, ?_⟩
  have : ∀ (l : List Fn) (last : Int) (k : Nat), fnsB last k c.body.length l = true → ∀ f ∈ l, f.locals.length ≤ 32 := by
    intro l
    induction l with
    | nil => intro _ _ _ f hf; simp at hf
    | cons g l ih =>
      intro last k hh f hf
      rw [fnsB_step, Bool.and_eq_true] at hh
      rcases List.mem_cons.1 hf with rfl | hf
      · have := hh.1
        unfold fnB at this
        simp only [Bool.and_eq_true, decide_eq_true_eq] at this
        exact this.2.2.2.2.1
      · exact ih _ _ hh.2 f hf
  exact this _ _ _ a10
end Go.Proofs.YtbpbimkadiobfaaDoor
