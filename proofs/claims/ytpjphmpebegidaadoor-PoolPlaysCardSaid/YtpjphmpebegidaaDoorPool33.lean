/-
  The lists of arenas and models, made.
-/
import Derived.Test.YtpjphmpebegidaaDoorPool32
namespace Go.Proofs.YtpjphmpebegidaaDoor
open Go.RowKit Go.Stk

theorem infoModel : (Tryd.prog.info? 54).map (fun i => (i.zero, i.size, i.bytes)) = some (some (.pointer none), 1, 8) := by kernel_rfl
theorem newArs_at : ∀ (off : Nat) (ys : List Nat) (i : Nat) (a : Ar), (newArs off ys)[i]? = some a → ∃ n, ys[i]? = some n ∧ a = newAr (off + (ys.take i).sum) n
  | off, [], i, a, h => by simp [newArs] at h
  | off, y :: ys, 0, a, h => by
    simp only [newArs, List.getElem?_cons_zero, Option.some.injEq] at h
    exact ⟨y, rfl, by rw [← h]; simp⟩
  | off, y :: ys, i + 1, a, h => by
    simp only [newArs, List.getElem?_cons_succ] at h
    obtain ⟨n, h1, h2⟩ := newArs_at (off + y) ys i a h
    exact ⟨n, by simpa using h1, by rw [h2]; simp [Nat.add_assoc]⟩
theorem plr_start {w w0 w1 wr : World} {np : Nat} {xs : List Int} {e : Ending} (hb : Below w.heap.size w w0) (hm : Made w0 np xs e w1) (hb1 : Below w1.heap.size w1 wr) (A B : Option Addr) :
    ∃ L ys, e = .returned (.tuple #[.pointer (some ⟨L.pb, 0, none⟩), .nilIface]) ∧ xs = ints' ys ∧ ys.sum ≤ np ∧ PlR w wr L (newPS np ys) ys (.slice A 0 0) (.slice B 0 0) [] := by
  obtain ⟨L, ys, r1, r2, r3, r4, r5, r6⟩ := hm
  have hbl : ∀ A : Option Addr, blk (.slice A 0 0) = [] := fun A => by cases A <;> rfl
  refine ⟨L, ys, r1, r5, r6, ⟨r2.later hb1, fun g hg => Nat.le_trans hb.size (r3 g hg), below_next (below_next hb r4) hb1, newArs_len _ _, fun i a ha => ?_, by simp, by simp, by simp, by simp, Row.empty _ _ _ _, Row.empty _ _ _ _, by simp [hbl], by simp [hbl], fun x hx hl => ?_⟩⟩
  · obtain ⟨n, h1, h2⟩ := newArs_at 0 ys i a ha
    subst h2
    exact ⟨by simp [newAr], h1⟩
  · have hl' : x < (List.replicate (np * 16) (0 : Int)).length := hl
    show (List.replicate (np * 16) (0 : Int))[x]? = _
    rw [List.getElem?_replicate, if_pos (by simpa using hl')]
section
variable {w wr : World} {L : PLay} {S : PS} {ys : List Nat} {lv mv : Value} {Ms : List MM} (h : PlR w wr L S ys lv mv Ms)
include h
theorem PlR.push {k : Nat} (hk : Ms.length = k) (hky : k < ys.length) {a : Ar} (ha : S.ars[k]? = some a) (z : ZM a S.words []) {l : AL} (hl : L.als[k]? = some l)
    {wA w5 wB w7 : World} {v1 v2 : Value} (hA : Below wr.heap.size wr wA) (hk1 : Kept (blk lv) wA w5) (hg1 : ∀ g ∈ blk v1, g ∈ blk lv ∨ wA.heap.size ≤ g)
    (hr1 : Row w5 24 1 v1 (k + 1) (((L.als.take k).map fun l => .pointer (some ⟨l.ab, 0, none⟩)) ++ [.pointer (some ⟨l.ab, 0, none⟩)]))
    (hB : Below w5.heap.size w5 wB) {p : Nat} (hp : w5.heap.size ≤ p) (hpb : wB.heap[p]? = some (.cells #[.int .i64 a.n, .slice none 0 0] 57 (0, 0)))
    (hk2 : Kept (blk mv) wB w7) (hg2 : ∀ g ∈ blk v2, g ∈ blk mv ∨ wB.heap.size ≤ g)
    (hr2 : Row w7 54 1 v2 (k + 1) ((Ms.map fun M => .pointer (some ⟨M.p, 0, none⟩)) ++ [.pointer (some ⟨p, 0, none⟩)])) :
    PlR w w7 L S ys v1 v2 (Ms ++ [⟨p, .slice none 0 0, []⟩]) := by
  subst hk
  have hlvlt : ∀ g ∈ blk lv, g < wr.heap.size := h.lrow.lt
  have hmvlt : ∀ g ∈ blk mv, g < wr.heap.size := h.mrow.lt
  have s1 := hA.size
  have s2 := hk1.size
  have s3 := hB.size
  have hpl := blk_lt hpb
  have s0 := h.bl.size
  have k1 : Kept (blk lv ++ blk mv) wr wA := (Kept.ofBelow hA []).mono (by simp)
  have k2 : Kept (blk lv ++ blk mv) wr w5 := k1.trans (hk1.mono (fp2 := blk lv ++ blk mv) fun i hi => by simp [hi]) fun i hi => .inl hi
  have k3 : Kept (blk lv ++ blk mv) wr wB := k2.trans ((Kept.ofBelow hB []).mono (fp2 := blk lv ++ blk mv) (by simp)) fun i hi => .inl hi
  have hall : Kept (blk lv ++ blk mv) wr w7 := k3.trans (hk2.mono (fp2 := blk lv ++ blk mv) fun i hi => by simp [hi]) fun i hi => .inl hi
  have hoff : ∀ g, L.own g → g ∉ blk lv ++ blk mv := fun g hg hx => by
    rcases List.mem_append.1 hx with h1 | h1
    · exact (h.lsep g h1).1 hg
    · exact (h.msep2 g h1).1 hg
  have hv1 : ∀ g ∈ blk v1, g ∈ blk lv ∨ wr.heap.size ≤ g := fun g hg => (hg1 g hg).imp_right fun hx => Nat.le_trans s1 hx
  have hv2 : ∀ g ∈ blk v2, g ∈ blk mv ∨ wB.heap.size ≤ g := hg2
  have hv1lt : ∀ g ∈ blk v1, g < w5.heap.size := hr1.lt
  have hltN : ∀ (j : Nat) (N : MM), Ms[j]? = some N → ∀ g ∈ N.fp, g < wr.heap.size := fun j N hj => by
    have hjl := (List.getElem?_eq_some_iff.1 hj).1
    obtain ⟨b, hb⟩ : ∃ b, S.ars[j]? = some b := ⟨_, List.getElem?_eq_getElem (by rw [h.alen]; have := h.mlen; omega)⟩
    exact (h.mrep j N b hj hb).1.lt
  have hfpn : ∀ g, g ∈ (⟨p, .slice none 0 0, []⟩ : MM).fp → g = p := fun g hg => by simpa [MM.fp, mfp, blk] using hg
  have hget : ∀ (j : Nat) (N : MM), (Ms ++ [(⟨p, .slice none 0 0, []⟩ : MM)])[j]? = some N → (j < Ms.length ∧ Ms[j]? = some N) ∨ (j = Ms.length ∧ N = ⟨p, .slice none 0 0, []⟩) := fun j N hj => by
    by_cases hjl : j < Ms.length
    · rw [List.getElem?_append_left hjl] at hj
      exact .inl ⟨hjl, hj⟩
    · rw [List.getElem?_append_right (by omega)] at hj
      have hz : j - Ms.length = 0 := by
        have := (List.getElem?_eq_some_iff.1 hj).1
        simp at this; omega
      rw [hz] at hj
      exact .inr ⟨by omega, by simpa using hj.symm⟩
  have hpv : p ∉ blk mv := fun hx => by have := hmvlt p hx; omega
  refine ⟨h.rep.kept hall hoff, h.own, h.bl.trans (hall.below (fun g hg => ?_) s0), h.alen, h.ars, fun j N b hN hb => ?_, by simp; omega, fun N hN g hg => ?_, fun i j N K hN hK hij g hg hx => ?_, ?_, ?_, fun g hg => ⟨?_, ?_, fun hx => ?_⟩, fun g hg => ⟨?_, ?_⟩, h.rest⟩
  · rcases List.mem_append.1 hg with h1 | h1
    · exact (h.lsep g h1).2.1
    · exact (h.msep2 g h1).2
  · rcases hget j N hN with ⟨_, hN'⟩ | ⟨rfl, rfl⟩
    · obtain ⟨g1, g2⟩ := h.mrep j N b hN' hb
      refine ⟨g1.kept hall fun g hg hx => ?_, g2⟩
      have hm := h.msep N (List.mem_of_getElem? hN') g hg
      rcases List.mem_append.1 hx with h1 | h1
      · exact hm.2.2.1 h1
      · exact hm.2.2.2 h1
    · obtain rfl : a = b := by rw [ha] at hb; exact Option.some.inj hb
      exact ⟨⟨hk2.heap hpb hpv, Row.empty _ _ _ _, by simp, by simp [mfp, blk]⟩, z⟩
  · simp only [List.mem_append, List.mem_singleton] at hN
    rcases hN with hN | rfl
    · have hm := h.msep N hN g hg
      obtain ⟨j, hj⟩ := List.getElem?_of_mem hN
      have hlt := hltN j N hj g hg
      refine ⟨hm.1, hm.2.1, fun hx => ?_, fun hx => ?_⟩
      · rcases hv1 g hx with h1 | h1
        · exact hm.2.2.1 h1
        · omega
      · rcases hv2 g hx with h1 | h1
        · exact hm.2.2.2 h1
        · omega
    · obtain rfl := hfpn g hg
      refine ⟨fun hx => by have := h.rep.lt g hx; omega, by omega, fun hx => by have := hv1lt g hx; omega, fun hx => ?_⟩
      rcases hv2 g hx with h1 | h1
      · exact hpv h1
      · omega
  · rcases hget i N hN with ⟨_, hN'⟩ | ⟨rfl, rfl⟩
    · rcases hget j K hK with ⟨_, hK'⟩ | ⟨rfl, rfl⟩
      · exact h.mdis i j N K hN' hK' hij g hg hx
      · obtain rfl := hfpn g hx
        have := hltN i N hN' g hg; omega
    · rcases hget j K hK with ⟨_, hK'⟩ | ⟨rfl, rfl⟩
      · obtain rfl := hfpn g hg
        have := hltN j K hK' g hx; omega
      · exact absurd rfl hij
  · rw [show (Ms ++ [(⟨p, .slice none 0 0, []⟩ : MM)]).length = Ms.length + 1 by simp, List.take_add_one, hl]
    have : Row w7 24 1 v1 (Ms.length + 1) _ := (hr1.kept (Kept.ofBelow hB []) (by simp)).kept hk2 fun g hg hx => by
      rcases hv1 g hg with h1 | h1
      · exact (h.lsep g h1).2.2 hx
      · have := hmvlt g hx; omega
    simpa using this
  · rw [List.length_append, List.map_append]
    exact hr2
  · rcases hv1 g hg with h1 | h1
    · exact (h.lsep g h1).1
    · exact fun hx => by have := h.rep.lt g hx; omega
  · rcases hv1 g hg with h1 | h1
    · exact (h.lsep g h1).2.1
    · omega
  · have := hv1lt g hg
    rcases hv2 g hx with h2 | h2
    · rcases hv1 g hg with h1 | h1
      · exact (h.lsep g h1).2.2 h2
      · have := hmvlt g h2; omega
    · omega
  · rcases hv2 g hg with h1 | h1
    · exact (h.msep2 g h1).1
    · exact fun hx => by have := h.rep.lt g hx; omega
  · rcases hv2 g hg with h1 | h1
    · exact (h.msep2 g h1).2
    · omega
end
end Go.Proofs.YtpjphmpebegidaaDoor
