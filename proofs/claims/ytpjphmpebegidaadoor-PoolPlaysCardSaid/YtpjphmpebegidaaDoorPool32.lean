/-
  A pool and the models of all its arenas.
-/
import Derived.Test.YtpjphmpebegidaaDoorPool30
import Derived.Test.YtpjphmpebegidaaDoorPool31
import Derived.Test.YtpjphmpebegidaaDoorMarked2
namespace Go.Proofs.YtpjphmpebegidaaDoor
open Go.RowKit Go.Stk

theorem splice_get {α : Type} (L : List α) (o : Nat) (cs : List α) (h : o + cs.length ≤ L.length) (x : Nat) : (splice L o cs)[x]? = if o ≤ x ∧ x < o + cs.length then cs[x - o]? else L[x]? := by
  unfold splice
  by_cases h1 : x < o
  · rw [List.getElem?_append_left (by simp; omega), if_neg (by omega), List.getElem?_take, if_pos h1]
  · rw [List.getElem?_append_right (by simp; omega)]
    simp only [List.length_take, Nat.min_eq_left (show o ≤ L.length by omega)]
    by_cases h2 : x < o + cs.length
    · rw [List.getElem?_append_left (by omega), if_pos ⟨by omega, h2⟩]
    · rw [List.getElem?_append_right (by omega), if_neg (by omega), List.getElem?_drop]
      congr 1; omega
theorem fold_get {N : Nat} : ∀ (H : List MRun) (X : List Int), X.length = N → (∀ r ∈ H, 16 * r.f + r.ws.length ≤ N) → H.Pairwise (fun p q => 16 * p.f + p.ws.length ≤ 16 * q.f ∨ 16 * q.f + q.ws.length ≤ 16 * p.f) → ∀ x,
    ((∀ r ∈ H, ¬ (16 * r.f ≤ x ∧ x < 16 * r.f + r.ws.length)) → (H.foldl (fun X r => splice X (16 * r.f) r.ws) X)[x]? = X[x]?) ∧
    (∀ r ∈ H, 16 * r.f ≤ x → x < 16 * r.f + r.ws.length → (H.foldl (fun X r => splice X (16 * r.f) r.ws) X)[x]? = r.ws[x - 16 * r.f]?)
  | [], X, _, _, _, x => ⟨fun _ => rfl, by simp⟩
  | s :: H, X, hX, hb, hd, x => by
    have hs := hb s (by simp)
    rw [List.pairwise_cons] at hd
    obtain ⟨i1, i2⟩ := fold_get H (splice X (16 * s.f) s.ws) (by rw [length_splice _ _ _ (by rw [hX]; exact hs), hX]) (fun r hr => hb r (by simp [hr])) hd.2 x
    have hg := splice_get X (16 * s.f) s.ws (by rw [hX]; exact hs) x
    refine ⟨fun hno => ?_, fun r hr h1 h2 => ?_⟩
    · rw [List.foldl_cons, i1 fun r hr => hno r (by simp [hr]), hg, if_neg (hno s (by simp))]
    · rcases List.mem_cons.1 hr with rfl | hr
      · rw [List.foldl_cons, i1 fun q hq hc => ?_, hg, if_pos ⟨h1, h2⟩]
        have := hd.1 q hq
        omega
      · exact i2 r hr h1 h2
/-- The model's dump is the arena's words. -/
theorem ZM.dump {a : Ar} {ws : List Int} {H : List MRun} (z : ZM a ws H) : dumpL a.n H = (ws.drop (16 * a.off)).take (16 * a.n) := by
  have hlw := z.lw
  have hb : ∀ r ∈ H, 16 * r.f + r.ws.length ≤ 16 * a.n := fun r hr => by have := z.rg r hr; omega
  have hd : H.Pairwise (fun p q => 16 * p.f + p.ws.length ≤ 16 * q.f ∨ 16 * q.f + q.ws.length ≤ 16 * p.f) := by
    refine List.Pairwise.imp_of_mem (fun {p q} hp hq h => ?_) z.dis
    have := z.rg p hp
    have := z.rg q hq
    omega
  have hl : (dumpL a.n H).length = 16 * a.n := fold_len H _ (by simp) hb
  apply List.ext_getElem?
  intro x
  by_cases hx : x < 16 * a.n
  · rw [List.getElem?_take, if_pos hx, List.getElem?_drop]
    obtain ⟨f1, f2⟩ := fold_get H (List.replicate (16 * a.n) 0) (by simp) hb hd x
    by_cases ht : a.taken[x / 16]? = some true
    · obtain ⟨r, hr, h1, h2⟩ := (z.tkn _).1 ht
      have hrg := z.rg r hr
      have := z.held r hr (x - 16 * r.f) (by omega)
      rw [show a.off * 16 + r.f * 16 + (x - 16 * r.f) = 16 * a.off + x by omega] at this
      rw [this]
      exact f2 r hr (by omega) (by omega)
    · have hlt : x / 16 < a.taken.length := by rw [z.ok.lt]; omega
      have hf : a.taken[x / 16]? = some false := by
        rw [List.getElem?_eq_getElem hlt] at ht ⊢
        cases hv : a.taken[x / 16] with
        | true => rw [hv] at ht; exact absurd rfl ht
        | false => rfl
      have := z.free x (by omega) hf
      rw [show a.off * 16 + x = 16 * a.off + x by omega] at this
      rw [this]
      have hno : ∀ r ∈ H, ¬ (16 * r.f ≤ x ∧ x < 16 * r.f + r.ws.length) := fun r hr hc => by
        have hrg := z.rg r hr
        exact ht ((z.tkn _).2 ⟨r, hr, by omega, by omega⟩)
      show (dumpL a.n H)[x]? = _
      unfold dumpL
      rw [f1 hno, List.getElem?_replicate, if_pos hx]
  · rw [List.getElem?_eq_none (by omega), List.getElem?_eq_none (by simp; omega)]

structure MM where
  p : Nat
  rv : Value
  H : List MRun
def MM.fp (M : MM) : List Nat := mfp M.p M.rv M.H
/-- The pool, the list of its arenas, the list of their models. -/
structure PlR (w wr : World) (L : PLay) (S : PS) (ys : List Nat) (lv mv : Value) (Ms : List MM) : Prop where
  rep : PRep wr L S
  own : ∀ g, L.own g → w.heap.size ≤ g
  bl : Below w.heap.size w wr
  alen : S.ars.length = ys.length
  ars : ∀ (i : Nat) (a : Ar), S.ars[i]? = some a → a.off = (ys.take i).sum ∧ ys[i]? = some a.n
  mrep : ∀ (i : Nat) (M : MM) (a : Ar), Ms[i]? = some M → S.ars[i]? = some a → MRep wr M.p a.n M.rv M.H ∧ ZM a S.words M.H
  mlen : Ms.length ≤ ys.length
  msep : ∀ M ∈ Ms, ∀ g ∈ M.fp, ¬ L.own g ∧ w.heap.size ≤ g ∧ g ∉ blk lv ∧ g ∉ blk mv
  mdis : ∀ (i j : Nat) (M N : MM), Ms[i]? = some M → Ms[j]? = some N → i ≠ j → ∀ g ∈ M.fp, g ∉ N.fp
  lrow : Row wr 24 1 lv Ms.length ((L.als.take Ms.length).map fun l => .pointer (some ⟨l.ab, 0, none⟩))
  mrow : Row wr 54 1 mv Ms.length (Ms.map fun M => .pointer (some ⟨M.p, 0, none⟩))
  lsep : ∀ g ∈ blk lv, ¬ L.own g ∧ w.heap.size ≤ g ∧ g ∉ blk mv
  msep2 : ∀ g ∈ blk mv, ¬ L.own g ∧ w.heap.size ≤ g
  rest : ∀ x, 16 * ys.sum ≤ x → x < S.words.length → S.words[x]? = some 0
section
variable {w wr : World} {L : PLay} {S : PS} {ys : List Nat} {lv mv : Value} {Ms : List MM} (h : PlR w wr L S ys lv mv Ms)
include h
theorem PlR.later {w' : World} (hb : Below wr.heap.size wr w') : PlR w w' L S ys lv mv Ms :=
  ⟨h.rep.later hb, h.own, below_next h.bl hb, h.alen, h.ars, fun i M a h1 h2 => ⟨(h.mrep i M a h1 h2).1.later hb, (h.mrep i M a h1 h2).2⟩, h.mlen, h.msep, h.mdis, h.lrow.kept (Kept.ofBelow hb []) (by simp), h.mrow.kept (Kept.ofBelow hb []) (by simp), h.lsep, h.msep2, h.rest⟩
theorem PlR.room {i : Nat} {a : Ar} (ha : S.ars[i]? = some a) : a.off * 16 + a.n * 16 ≤ S.words.length ∧ a.n ≤ 256 := by
  have h1 := (h.rep.ar i a (L.als[i]'(by rw [h.rep.alen]; exact (List.getElem?_eq_some_iff.1 ha).1)) ha (List.getElem?_eq_getElem _)).2
  have := h.rep.lw
  have := h.rep.hnp
  omega
theorem PlR.bo {i : Nat} {M : MM} {a : Ar} (hM : Ms[i]? = some M) (ha : S.ars[i]? = some a) : Bo wr M.rv M.H wr L S M.p a.n M.rv M.H ∧ ∀ g ∈ L.fp ++ mfp M.p M.rv M.H, w.heap.size ≤ g :=
  ⟨⟨h.rep, (h.mrep i M a hM ha).1, fun g hg => (h.msep M (List.mem_of_getElem? hM) g hg).1, Kept.refl _ _, fun g hg => .inl hg⟩, fun g hg => by
    rcases List.mem_append.1 hg with h1 | h1
    · exact h.own g (PLay.mem.1 h1)
    · exact (h.msep M (List.mem_of_getElem? hM) g h1).2.1⟩
/-- After one call on an arena and its model. -/
theorem PlR.step {i : Nat} {M : MM} {a : Ar} (hM : Ms[i]? = some M) (ha : S.ars[i]? = some a) (o : Op4) {w' : World} {rv' : Value} {H' : List MRun}
    (hB : Bo wr M.rv M.H w' L { S with ars := S.ars.set i (doR a S.words o).2.1, words := (doR a S.words o).2.2 } M.p a.n rv' H') (hz : ZM (doR a S.words o).2.1 (doR a S.words o).2.2 H') :
    PlR w w' L { S with ars := S.ars.set i (doR a S.words o).2.1, words := (doR a S.words o).2.2 } ys lv mv (Ms.set i ⟨M.p, rv', H'⟩) := by
  have hMm := List.mem_of_getElem? hM
  have hil := (List.getElem?_eq_some_iff.1 hM).1
  have hal := (List.getElem?_eq_some_iff.1 ha).1
  obtain ⟨hok, hz0⟩ := h.mrep i M a hM ha
  obtain ⟨q1, q2, q3⟩ := do_plain hz0.ok S.words (h.room ha).1 o
  have hfpw : ∀ g ∈ L.fp ++ mfp M.p M.rv M.H, w.heap.size ≤ g := (h.bo hM ha).2
  have hold : ∀ g ∈ mfp M.p rv' H', g ∈ M.fp ∨ wr.heap.size ≤ g := hB.fresh
  have hoff : ∀ g, g ∈ blk lv ∨ g ∈ blk mv → g ∉ L.fp ++ mfp M.p M.rv M.H := fun g hg hx => by
    have hm := h.msep M hMm g
    rcases List.mem_append.1 hx with h1 | h1
    · rcases hg with h2 | h2
      · exact (h.lsep g h2).1 (PLay.mem.1 h1)
      · exact (h.msep2 g h2).1 (PLay.mem.1 h1)
    · rcases hg with h2 | h2
      · exact (hm h1).2.2.1 h2
      · exact (hm h1).2.2.2 h2
  have hlvlt : ∀ g ∈ blk lv, g < wr.heap.size := h.lrow.lt
  have hmvlt : ∀ g ∈ blk mv, g < wr.heap.size := h.mrow.lt
  have hnewsep : ∀ g ∈ mfp M.p rv' H', ¬ L.own g ∧ w.heap.size ≤ g ∧ g ∉ blk lv ∧ g ∉ blk mv := fun g hg => by
    rcases hold g hg with h1 | h1
    · exact h.msep M hMm g h1
    · exact ⟨fun hx => by have := h.rep.lt g hx; omega, Nat.le_trans h.bl.size h1, fun hx => by have := hlvlt g hx; omega, fun hx => by have := hmvlt g hx; omega⟩
  have hget : ∀ (j : Nat) (N : MM), (Ms.set i ⟨M.p, rv', H'⟩)[j]? = some N → (j = i ∧ N = ⟨M.p, rv', H'⟩) ∨ (j ≠ i ∧ Ms[j]? = some N) := fun j N hj => by
    by_cases hji : i = j
    · subst hji
      rw [List.getElem?_set_self hil] at hj
      exact .inl ⟨rfl, (Option.some.inj hj).symm⟩
    · rw [List.getElem?_set_ne hji] at hj
      exact .inr ⟨Ne.symm hji, hj⟩
  have hltN : ∀ (j : Nat) (N : MM), Ms[j]? = some N → ∀ g ∈ N.fp, g < wr.heap.size := fun j N hj => by
    have hjl := (List.getElem?_eq_some_iff.1 hj).1
    obtain ⟨b, hb⟩ : ∃ b, S.ars[j]? = some b := ⟨_, List.getElem?_eq_getElem (by rw [h.alen]; have := h.mlen; omega)⟩
    exact (h.mrep j N b hj hb).1.lt
  have hmm : (Ms.set i ⟨M.p, rv', H'⟩).map (fun M => Value.pointer (some ⟨M.p, 0, none⟩)) = Ms.map fun M => Value.pointer (some ⟨M.p, 0, none⟩) := by
    rw [List.map_set]; exact set_same (by simp [hM])
  refine ⟨hB.rep, h.own, h.bl.trans (hB.kept.below hfpw h.bl.size), by simpa using h.alen, fun j b hb => ?_, fun j N b hN hb => ?_, by simpa using h.mlen, fun N hN => ?_, fun j k N K hN hK hjk => ?_, ?_, ?_, h.lsep, h.msep2, fun x hx hxl => ?_⟩
  · have hb' : (S.ars.set i (doR a S.words o).2.1)[j]? = some b := hb
    by_cases hij : i = j
    · subst hij
      rw [List.getElem?_set_self hal] at hb'
      obtain rfl := Option.some.inj hb'
      rw [q2.off, q2.n]
      exact h.ars i a ha
    · rw [List.getElem?_set_ne hij] at hb'
      exact h.ars j b hb'
  · have hb' : (S.ars.set i (doR a S.words o).2.1)[j]? = some b := hb
    rcases hget j N hN with ⟨rfl, rfl⟩ | ⟨hji, hN'⟩
    · rw [List.getElem?_set_self hal] at hb'
      obtain rfl := Option.some.inj hb'
      refine ⟨?_, hz⟩
      rw [q2.n]
      exact hB.m
    · rw [List.getElem?_set_ne (Ne.symm hji)] at hb'
      obtain ⟨g1, g2⟩ := h.mrep j N b hN' hb'
      refine ⟨g1.kept hB.kept fun g hg hx => ?_, g2.words q3.1 fun x h1 h2 => ?_⟩
      · rcases List.mem_append.1 hx with h1 | h1
        · exact (h.msep N (List.mem_of_getElem? hN') g hg).1 (PLay.mem.1 h1)
        · exact h.mdis j i N M hN' hM hji g hg h1
      · refine (q3.2 x ?_).symm
        obtain ⟨a1, a2⟩ := h.ars i a ha
        obtain ⟨b1, b2⟩ := h.ars j b hb'
        rcases Nat.lt_or_gt_of_ne hji with hlt | hlt
        · have := take_sum_le ys j i hlt _ b2
          omega
        · have := take_sum_le ys i j hlt _ a2
          omega
  · obtain ⟨j, hj⟩ := List.getElem?_of_mem hN
    rcases hget j N hj with ⟨rfl, rfl⟩ | ⟨hji, hN'⟩
    · exact hnewsep
    · exact h.msep N (List.mem_of_getElem? hN')
  · rcases hget j N hN with ⟨rfl, rfl⟩ | ⟨hji, hN'⟩
    · rcases hget k K hK with ⟨rfl, rfl⟩ | ⟨hki, hK'⟩
      · exact absurd rfl hjk
      · intro g hg hx
        rcases hold g hg with h1 | h1
        · exact h.mdis j k M K hM hK' (Ne.symm hki) g h1 hx
        · have := hltN k K hK' g hx; omega
    · rcases hget k K hK with ⟨rfl, rfl⟩ | ⟨hki, hK'⟩
      · intro g hg hx
        rcases hold g hx with h1 | h1
        · exact h.mdis j k N M hN' hM hji g hg h1
        · have := hltN j N hN' g hg; omega
      · exact h.mdis j k N K hN' hK' hjk
  · rw [List.length_set]
    exact h.lrow.kept hB.kept fun g hg => hoff g (.inl hg)
  · rw [hmm, List.length_set]
    exact h.mrow.kept hB.kept fun g hg => hoff g (.inr hg)
  · have hxl' : x < (doR a S.words o).2.2.length := hxl
    rw [q3.1] at hxl'
    show (doR a S.words o).2.2[x]? = _
    rw [q3.2 x (.inr ?_)]
    · exact h.rest x hx hxl'
    · obtain ⟨a1, a2⟩ := h.ars i a ha
      have := take_sum_le ys i ys.length (List.getElem?_eq_some_iff.1 a2).1 _ a2
      rw [List.take_length] at this
      omega
/-- The words of the first k + 1 arenas. -/
theorem PlR.want {k : Nat} {M : MM} {a : Ar} (hM : Ms[k]? = some M) (ha : S.ars[k]? = some a) : S.words.take (16 * (ys.take k).sum) ++ dumpL a.n M.H = S.words.take (16 * (ys.take (k + 1)).sum) := by
  obtain ⟨a1, a2⟩ := h.ars k a ha
  rw [(h.mrep k M a hM ha).2.dump, a1, ← List.take_add]
  congr 1
  rw [List.take_add_one, a2]
  simp
  omega
end
end Go.Proofs.YtpjphmpebegidaaDoor
