/-
  A code in form: its bytes are read back; bytes cut short, or with more behind, are none's.
-/
import Derived.Test.YtbpbimkadiobfaaDoorParse2
import Derived.Test.YtbpbimkadiobfaaDoorGet5
namespace Go.Proofs.YtbpbimkadiobfaaDoor
open Go.RowKit Go.Stk

theorem wrap_a {a : Int} (h : -9223372036854775808 ≤ a ∧ a ≤ 9223372036854775807) : wrap64 (deb (be (IntKind.u64.wrap a) 8)) = a := by
  rw [wrap_u64_eq]
  have h0 := Int.emod_nonneg a (show (18446744073709551616 : Int) ≠ 0 by decide)
  have h1 := Int.emod_lt_of_pos a (show (0 : Int) < 18446744073709551616 by decide)
  have h2 : (a % 18446744073709551616 - a) % 18446744073709551616 = 0 := by omega
  generalize a % 18446744073709551616 = m at *
  obtain ⟨k, rfl⟩ : ∃ k : Nat, m = k := ⟨m.toNat, by omega⟩
  rw [deb_be, Nat.mod_eq_of_lt (by have : (256 : Nat) ^ 8 = 18446744073709551616 := by decide
                                   omega)]
  unfold wrap64
  omega
theorem deb_bits {x : Int} (h0 : 0 ≤ x) (h1 : x ≤ 18446744073709551615) : deb (be x 8) = x := by
  obtain ⟨k, rfl⟩ : ∃ k : Nat, x = k := ⟨x.toNat, by omega⟩
  rw [deb_be, Nat.mod_eq_of_lt (by have : (256 : Nat) ^ 8 = 18446744073709551616 := by decide
                                   omega)]
theorem deb_one {x : Int} (h0 : 0 ≤ x) (h1 : x < 256) : deb (be (IntKind.u64.wrap x) 1) = x := by
  rw [wrap_u64_id h0 (by omega)]
  obtain ⟨k, rfl⟩ : ∃ k : Nat, x = k := ⟨x.toNat, by omega⟩
  rw [deb_be, Nat.mod_eq_of_lt (by omega)]
/-- An instruction whose numbers its bytes bear. -/
def InsF (x : Ins) : Prop := (0 ≤ x.op ∧ x.op < 256) ∧ (-9223372036854775808 ≤ x.a ∧ x.a ≤ 9223372036854775807) ∧ U32 x.b ∧ (0 ≤ x.bits ∧ x.bits ≤ 18446744073709551615) ∧ U32 x.at_
theorem be4_one (x : Int) : be4 [x] = be (IntKind.u64.wrap x) 4 := by simp [be4]
theorem pIns_enc (x : Ins) (h : InsF x) (l : List Int) : pIns (insE x ++ l) = some (x, l) := by
  obtain ⟨h1, h2, h3, h4, h5⟩ := h
  have e : insE x ++ l = be (IntKind.u64.wrap x.op) 1 ++ (be (IntKind.u64.wrap x.a) 8 ++ (be (IntKind.u64.wrap x.b) 4 ++ (be x.bits 8 ++ (be (IntKind.u64.wrap x.at_) 4 ++ l)))) := by
    simp [insE, be4_one]
  rw [pIns_some (by rw [List.length_append, insE_len]; omega), e]
  have d1 : (be (IntKind.u64.wrap x.op) 1 ++ (be (IntKind.u64.wrap x.a) 8 ++ (be (IntKind.u64.wrap x.b) 4 ++ (be x.bits 8 ++ (be (IntKind.u64.wrap x.at_) 4 ++ l))))).drop 1 = be (IntKind.u64.wrap x.a) 8 ++ (be (IntKind.u64.wrap x.b) 4 ++ (be x.bits 8 ++ (be (IntKind.u64.wrap x.at_) 4 ++ l))) := drop_app (be_len _ _)
  have d9 : (be (IntKind.u64.wrap x.op) 1 ++ (be (IntKind.u64.wrap x.a) 8 ++ (be (IntKind.u64.wrap x.b) 4 ++ (be x.bits 8 ++ (be (IntKind.u64.wrap x.at_) 4 ++ l))))).drop 9 = be (IntKind.u64.wrap x.b) 4 ++ (be x.bits 8 ++ (be (IntKind.u64.wrap x.at_) 4 ++ l)) := by
    rw [show 9 = 1 + 8 by rfl, ← List.drop_drop, d1, drop_app (be_len _ _)]
  have d13 : (be (IntKind.u64.wrap x.op) 1 ++ (be (IntKind.u64.wrap x.a) 8 ++ (be (IntKind.u64.wrap x.b) 4 ++ (be x.bits 8 ++ (be (IntKind.u64.wrap x.at_) 4 ++ l))))).drop 13 = be x.bits 8 ++ (be (IntKind.u64.wrap x.at_) 4 ++ l) := by
    rw [show 13 = 9 + 4 by rfl, ← List.drop_drop, d9, drop_app (be_len _ _)]
  have d21 : (be (IntKind.u64.wrap x.op) 1 ++ (be (IntKind.u64.wrap x.a) 8 ++ (be (IntKind.u64.wrap x.b) 4 ++ (be x.bits 8 ++ (be (IntKind.u64.wrap x.at_) 4 ++ l))))).drop 21 = be (IntKind.u64.wrap x.at_) 4 ++ l := by
    rw [show 21 = 13 + 8 by rfl, ← List.drop_drop, d13, drop_app (be_len _ _)]
  have d25 : (be (IntKind.u64.wrap x.op) 1 ++ (be (IntKind.u64.wrap x.a) 8 ++ (be (IntKind.u64.wrap x.b) 4 ++ (be x.bits 8 ++ (be (IntKind.u64.wrap x.at_) 4 ++ l))))).drop 25 = l := by
    rw [show 25 = 21 + 4 by rfl, ← List.drop_drop, d21, drop_app (be_len _ _)]
  rw [d1, d9, d13, d21, d25, take_app (be_len _ _), take_app (be_len _ _), take_app (be_len _ _), take_app (be_len _ _), take_app (be_len _ _), deb_one h1.1 h1.2, wrap_a h2, deb_be4 h3, deb_bits h4.1 h4.2, deb_be4 h5]
theorem pCh_enc (x : Int × Int) (h : U32 x.1 ∧ U32 x.2) (l : List Int) : pCh (chE x ++ l) = some (x, l) := by
  have e : chE x ++ l = be (IntKind.u64.wrap x.1) 4 ++ (be (IntKind.u64.wrap x.2) 4 ++ l) := by simp [chE, be4]
  have d4 : (be (IntKind.u64.wrap x.1) 4 ++ (be (IntKind.u64.wrap x.2) 4 ++ l)).drop 4 = be (IntKind.u64.wrap x.2) 4 ++ l := drop_app (be_len _ _)
  have d8 : (be (IntKind.u64.wrap x.1) 4 ++ (be (IntKind.u64.wrap x.2) 4 ++ l)).drop 8 = l := by rw [show 8 = 4 + 4 by rfl, ← List.drop_drop, d4, drop_app (be_len _ _)]
  rw [pCh_some (by rw [List.length_append, chE_len]; omega), e, d4, d8, take_app (be_len _ _), take_app (be_len _ _), deb_be4 h.1, deb_be4 h.2]
/-- A function's bytes. -/
def tE (p : Int × Int × List Int) : List Int := be4 [p.1, p.2.1, p.2.2.length] ++ be4 p.2.2
def FnF (p : Int × Int × List Int) : Prop := U32 p.1 ∧ U32 p.2.1 ∧ U32 p.2.2.length ∧ ∀ x ∈ p.2.2, U32 x
theorem fnE_t (f : Fn) : fnE f = tE f.pf := rfl
theorem pFn_enc (p : Int × Int × List Int) (h : FnF p) (l : List Int) : pFn (tE p ++ l) = some (p, l) := by
  obtain ⟨a, b, ls⟩ := p
  obtain ⟨h1, h2, h3, h4⟩ := h
  have e : tE (a, b, ls) ++ l = be (IntKind.u64.wrap a) 4 ++ (be (IntKind.u64.wrap b) 4 ++ (be (IntKind.u64.wrap ls.length) 4 ++ (be4 ls ++ l))) := by simp [tE, be4]
  have d4 : (be (IntKind.u64.wrap a) 4 ++ (be (IntKind.u64.wrap b) 4 ++ (be (IntKind.u64.wrap ls.length) 4 ++ (be4 ls ++ l)))).drop 4 = be (IntKind.u64.wrap b) 4 ++ (be (IntKind.u64.wrap ls.length) 4 ++ (be4 ls ++ l)) := drop_app (be_len _ _)
  have d8 : (be (IntKind.u64.wrap a) 4 ++ (be (IntKind.u64.wrap b) 4 ++ (be (IntKind.u64.wrap ls.length) 4 ++ (be4 ls ++ l)))).drop 8 = be (IntKind.u64.wrap ls.length) 4 ++ (be4 ls ++ l) := by rw [show 8 = 4 + 4 by rfl, ← List.drop_drop, d4, drop_app (be_len _ _)]
  have d12 : (be (IntKind.u64.wrap a) 4 ++ (be (IntKind.u64.wrap b) 4 ++ (be (IntKind.u64.wrap ls.length) 4 ++ (be4 ls ++ l)))).drop 12 = be4 ls ++ l := by rw [show 12 = 8 + 4 by rfl, ← List.drop_drop, d8, drop_app (be_len _ _)]
  have hm : deb (((tE (a, b, ls) ++ l).drop 8).take 4) = (ls.length : Nat) := by rw [e, d8, take_app (be_len _ _), deb_be4 h3]
  rw [pFn_some hm (by rw [e]; simp only [List.length_append, be_len, be4_len]; omega), e, d4, d12, take_app (be_len _ _), take_app (be_len _ _), deb_be4 h1, deb_be4 h2, deb4s_be4 ls l h4, drop_app (be4_len _)]
/-- A code whose numbers its bytes bear. -/
structure PcF (p : Pc) : Prop where
  pl : ∀ x ∈ p.places, U32 x
  mux : U32 p.mux
  ato : U32 p.ato
  st : U32 p.start
  ch : ∀ x ∈ p.chans, U32 x.1 ∧ U32 x.2
  fn : ∀ f ∈ p.funcs, FnF f
  bo : ∀ x ∈ p.body, InsF x
  l1 : U32 p.places.length
  l2 : U32 p.chans.length
  l3 : U32 p.funcs.length
  l4 : U32 p.body.length
def Pc.head (p : Pc) : List Int := [p.places.length, p.mux, p.ato, p.chans.length, p.funcs.length, p.body.length, p.start]
def Pc.enc (p : Pc) : List Int := be4 p.head ++ (be4 p.places ++ (p.chans.flatMap chE ++ (p.funcs.flatMap tE ++ p.body.flatMap insE)))
theorem encC_pl (c : Co) : encC c = c.pl.enc := by
  have : c.funcs.flatMap fnE = (c.funcs.map Fn.pf).flatMap tE := by
    rw [List.flatMap_map]; rfl
  simp only [encC, headE, Pc.enc, Pc.head, Co.pl, List.append_assoc, List.length_map, this]
/-- What is read, and what is left. -/
def parse0 (l : List Int) : Option (Pc × List Int) :=
  match rdInts 7 l with
  | none => none
  | some (h, l1) => match rdInts (h.getD 0 0).toNat l1 with
    | none => none
    | some (pl, l2) => match many pCh (h.getD 3 0).toNat l2 with
      | none => none
      | some (cs, l3) => match many pFn (h.getD 4 0).toNat l3 with
        | none => none
        | some (fs, l4) => match many pIns (h.getD 5 0).toNat l4 with
          | none => none
          | some (bo, l5) => some (⟨pl, h.getD 1 0, h.getD 2 0, cs, fs, h.getD 6 0, bo⟩, l5)
theorem parse_0 (l : List Int) : parse l = match parse0 l with | none => none | some (p, r) => if r = [] then some p else none := by
  unfold parse parse0 parse1
  cases h1 : rdInts 7 l with
  | none => rfl
  | some q =>
    obtain ⟨h, l1⟩ := q
    simp only
    cases h2 : rdInts (h.getD 0 0).toNat l1 with
    | none => rfl
    | some q =>
      obtain ⟨pl, l2⟩ := q
      simp only
      cases h3 : many pCh (h.getD 3 0).toNat l2 with
      | none => rfl
      | some q =>
        obtain ⟨cs, l3⟩ := q
        simp only
        cases h4 : many pFn (h.getD 4 0).toNat l3 with
        | none => rfl
        | some q =>
          obtain ⟨fs, l4⟩ := q
          simp only
          cases h5 : many pIns (h.getD 5 0).toNat l4 with
          | none => rfl
          | some q => rfl
theorem parse0_enc (p : Pc) (h : PcF p) (l : List Int) : parse0 (p.enc ++ l) = some (p, l) := by
  unfold parse0 Pc.enc
  have hh : ∀ x ∈ p.head, U32 x := fun x hx => by
    simp only [Pc.head, List.mem_cons, List.not_mem_nil, or_false] at hx
    rcases hx with rfl | rfl | rfl | rfl | rfl | rfl | rfl
    · exact h.l1
    · exact h.mux
    · exact h.ato
    · exact h.l2
    · exact h.l3
    · exact h.l4
    · exact h.st
  rw [List.append_assoc]
  have e1 := rdInts_be4 p.head ((be4 p.places ++ (p.chans.flatMap chE ++ (p.funcs.flatMap tE ++ p.body.flatMap insE))) ++ l) hh
  rw [show p.head.length = 7 from rfl] at e1
  rw [e1]
  simp only
  have e2 := rdInts_be4 p.places ((p.chans.flatMap chE ++ (p.funcs.flatMap tE ++ p.body.flatMap insE)) ++ l) h.pl
  rw [List.append_assoc, show (p.head.getD 0 0).toNat = p.places.length from rfl, e2]
  simp only
  have e3 := many_enc (f := pCh) (e := chE) p.chans ((p.funcs.flatMap tE ++ p.body.flatMap insE) ++ l) fun x hx => pCh_enc x (h.ch x hx)
  rw [List.append_assoc, show (p.head.getD 3 0).toNat = p.chans.length from rfl, e3]
  simp only
  have e4 := many_enc (f := pFn) (e := tE) p.funcs (p.body.flatMap insE ++ l) fun x hx => pFn_enc x (h.fn x hx)
  rw [List.append_assoc, show (p.head.getD 4 0).toNat = p.funcs.length from rfl, e4]
  simp only
  have e5 := many_enc (f := pIns) (e := insE) p.body l fun x hx => pIns_enc x (h.bo x hx)
  rw [show (p.head.getD 5 0).toNat = p.body.length from rfl, e5]
  rfl
theorem rdInts_more {n : Nat} {l xs l' : List Int} (m : List Int) (h : rdInts n l = some (xs, l')) : rdInts n (l ++ m) = some (xs, l' ++ m) := by
  unfold rdInts at h ⊢
  by_cases hl : l.length < 4 * n
  · rw [if_pos hl] at h; cases h
  · rw [if_neg hl] at h
    rw [if_neg (by rw [List.length_append]; omega)]
    simp only [Option.some.injEq, Prod.mk.injEq] at h ⊢
    obtain ⟨rfl, rfl⟩ := h
    refine ⟨?_, List.drop_append_of_le_length (by omega)⟩
    have : ∀ (n : Nat) (l : List Int), 4 * n ≤ l.length → deb4s n (l ++ m) = deb4s n l := by
      intro n
      induction n with
      | zero => intro l _; rfl
      | succ n ih =>
        intro l h
        rw [deb4s, deb4s, List.take_append_of_le_length (by omega), List.drop_append_of_le_length (by omega), ih _ (by rw [List.length_drop]; omega)]
    exact this n l (by omega)
theorem pCh_more (l : List Int) (x : Int × Int) (l' m : List Int) (h : pCh l = some (x, l')) : pCh (l ++ m) = some (x, l' ++ m) := by
  by_cases hl : l.length < 8
  · rw [pCh_none hl] at h; cases h
  · rw [pCh_some (by omega)] at h
    rw [pCh_some (by rw [List.length_append]; omega)]
    simp only [Option.some.injEq, Prod.mk.injEq] at h ⊢
    obtain ⟨rfl, rfl⟩ := h
    rw [List.take_append_of_le_length (by omega), List.drop_append_of_le_length (by omega), List.drop_append_of_le_length (by omega), List.take_append_of_le_length (by rw [List.length_drop]; omega)]
    exact ⟨rfl, rfl⟩
theorem pFn_more (l : List Int) (x : Int × Int × List Int) (l' m : List Int) (h : pFn l = some (x, l')) : pFn (l ++ m) = some (x, l' ++ m) := by
  unfold pFn at h ⊢
  by_cases hl : l.length < 12
  · rw [if_pos hl] at h; cases h
  · rw [if_neg hl] at h
    rw [if_neg (by rw [List.length_append]; omega), List.take_append_of_le_length (by omega), List.drop_append_of_le_length (by omega), List.drop_append_of_le_length (by omega), List.drop_append_of_le_length (by omega), List.take_append_of_le_length (by rw [List.length_drop]; omega), List.take_append_of_le_length (by rw [List.length_drop]; omega)]
    cases hr : rdInts (deb ((l.drop 8).take 4)).toNat (l.drop 12) with
    | none => rw [hr] at h; cases h
    | some q =>
      obtain ⟨ls, l1⟩ := q
      rw [hr] at h
      rw [rdInts_more m hr]
      simp only [Option.some.injEq, Prod.mk.injEq] at h ⊢
      exact ⟨h.1, by rw [h.2]⟩
theorem pIns_more (l : List Int) (x : Ins) (l' m : List Int) (h : pIns l = some (x, l')) : pIns (l ++ m) = some (x, l' ++ m) := by
  by_cases hl : l.length < 25
  · rw [pIns_none hl] at h; cases h
  · rw [pIns_some (by omega)] at h
    rw [pIns_some (by rw [List.length_append]; omega)]
    simp only [Option.some.injEq, Prod.mk.injEq] at h ⊢
    obtain ⟨rfl, rfl⟩ := h
    have t : ∀ i n, i + n ≤ l.length → ((l ++ m).drop i).take n = (l.drop i).take n := fun i n hin => by
      rw [List.drop_append_of_le_length (by omega), List.take_append_of_le_length (by rw [List.length_drop]; omega)]
    have t0 := t 0 1 (by omega)
    simp only [List.drop_zero] at t0
    rw [t0, t 1 8 (by omega), t 9 4 (by omega), t 13 8 (by omega), t 21 4 (by omega), List.drop_append_of_le_length (by omega)]
    exact ⟨rfl, rfl⟩
theorem parse0_more (l : List Int) (p : Pc) (r m : List Int) (h : parse0 l = some (p, r)) : parse0 (l ++ m) = some (p, r ++ m) := by
  unfold parse0 at h ⊢
  cases h1 : rdInts 7 l with
  | none => rw [h1] at h; cases h
  | some q =>
    obtain ⟨hd, l1⟩ := q
    rw [h1] at h
    rw [rdInts_more m h1]
    simp only at h ⊢
    cases h2 : rdInts (hd.getD 0 0).toNat l1 with
    | none => rw [h2] at h; cases h
    | some q =>
      obtain ⟨pl, l2⟩ := q
      rw [h2] at h
      rw [rdInts_more m h2]
      simp only at h ⊢
      cases h3 : many pCh (hd.getD 3 0).toNat l2 with
      | none => rw [h3] at h; cases h
      | some q =>
        obtain ⟨cs, l3⟩ := q
        rw [h3] at h
        rw [many_more pCh_more _ _ _ _ m h3]
        simp only at h ⊢
        cases h4 : many pFn (hd.getD 4 0).toNat l3 with
        | none => rw [h4] at h; cases h
        | some q =>
          obtain ⟨fs, l4⟩ := q
          rw [h4] at h
          rw [many_more pFn_more _ _ _ _ m h4]
          simp only at h ⊢
          cases h5 : many pIns (hd.getD 5 0).toNat l4 with
          | none => rw [h5] at h; cases h
          | some q =>
            obtain ⟨bo, l5⟩ := q
            rw [h5] at h
            rw [many_more pIns_more _ _ _ _ m h5]
            simp only [Option.some.injEq, Prod.mk.injEq] at h ⊢
            exact ⟨h.1, by rw [h.2]⟩
theorem parse_enc (p : Pc) (h : PcF p) : parse p.enc = some p := by
  have := parse0_enc p h []
  rw [List.append_nil] at this
  rw [parse_0, this]
  simp
theorem parse_long (p : Pc) (h : PcF p) (m : List Int) (hm : m ≠ []) : parse (p.enc ++ m) = none := by
  rw [parse_0, parse0_enc p h m]
  simp [hm]
theorem parse_short (p : Pc) (h : PcF p) (k : Nat) (hk : k < p.enc.length) : parse (p.enc.take k) = none := by
  rw [parse_0]
  cases h1 : parse0 (p.enc.take k) with
  | none => rfl
  | some q =>
    obtain ⟨p', r⟩ := q
    simp only
    by_cases hr : r = []
    · exfalso
      have h2 := parse0_more _ _ _ (p.enc.drop k) h1
      rw [List.take_append_drop, hr, List.nil_append] at h2
      have h3 := parse0_enc p h []
      rw [List.append_nil] at h3
      rw [h3] at h2
      simp only [Option.some.injEq, Prod.mk.injEq] at h2
      have := congrArg List.length h2.2
      simp at this
      omega
    · rw [if_neg hr]
end Go.Proofs.YtbpbimkadiobfaaDoor
