/-
  A pool of one arena, and the chapter's example.
-/
import Derived.Test.YtpjphmpebegidaaDoorPool9
import Derived.Test.YtpjphmpebegidaaDoorPool10
import Derived.Test.YtpjphmpebegidaaDoorNum11
namespace Go.Proofs.YtpjphmpebegidaaDoor
open Go.RowKit Go.Stk
attribute [local go_sem ↓] Go.wp_at_zero Go.wp_at_succ

/-- A pool made of one share. -/
theorem made_one {w w' : World} {np : Nat} {xs : List Int} {e : Ending} (h : Made w np xs e w') (i n : Nat) (hi : xs[i]? = some (n : Int)) : ∃ L l ys, e = .returned (.tuple #[.pointer (some ⟨L.pb, 0, none⟩), .nilIface]) ∧ Oa w w' L (newPS np ys) ∧ xs = ints' ys ∧ L.als[i]? = some l ∧ (newPS np ys).ars[i]? = some (newAr (ys.take i).sum n) := by
  obtain ⟨L, ys, he, hp, ho, hb, hx, hs⟩ := h
  have hy : ys[i]? = some n := by
    rw [hx] at hi
    simp only [ints', List.getElem?_map, Option.map_eq_some_iff] at hi
    obtain ⟨y, h1, h2⟩ := hi
    rw [h1]
    have : (y : Int) = (n : Int) := h2
    rw [show y = n by omega]
  have har : ∀ (off : Nat) (ys : List Nat) (i : Nat), ys[i]? = some n → (newArs off ys)[i]? = some (newAr (off + (ys.take i).sum) n) := by
    intro off ys
    induction ys generalizing off with
    | nil => intro i h; simp at h
    | cons y r ih =>
      intro i h
      cases i with
      | zero => simp at h; subst h; simp [newArs]
      | succ i => simp at h; simpa [newArs, Nat.add_assoc] using ih (off + y) i h
  have h1 := har 0 ys i hy
  have h2 : i < L.als.length := by
    rw [hp.alen]
    exact (List.getElem?_eq_some_iff.1 h1).1
  exact ⟨L, _, ys, he, ⟨hp, ho, hb⟩, hx, List.getElem?_eq_getElem h2, by simpa [newPS] using h1⟩
def RetSole (B : World) (n : Nat) (e : Ending) (W' : World) : Prop := ∃ p, e = .returned (.pointer (some ⟨p, 0, none⟩)) ∧ AOb B W' p ⟨0, n, List.replicate n 0, List.replicate n false⟩ (List.replicate (n * 16) 0)
theorem sole_ok (n : Nat) (h1 : 1 ≤ n) (h2 : n ≤ 256) (w : World) (er en ea : Addr) (hE : Errs w er en ea) : Calls Tryd.prog 10 #[.int .i64 n] w (RetSole w n) := by
  have hR : RI (w.alloc (.cells #[.int .i64 n] 3)) (some ⟨w.heap.size, 0, none⟩) [(n : Int)] := rd_blk (T := 3) (blk_new w _) (by simp [maxLen])
  have hb0 : Below w.heap.size w (w.alloc (.cells #[.int .i64 n] 3)) := below_alloc (Below.refl _ _) _
  have HN := Lib.hid (new_ok n [(n : Int)] (some ⟨w.heap.size, 0, none⟩) 1 _ er en ea (hE.later hb0) hR h1 h2 (by simp))
  clear hE hR
  go_enter Tryd.func10, Tryd.ntmps10
  go_wp2_with fail
  refine HN.out.mono ?_
  rintro e w1 (⟨_, hm⟩ | ⟨hno, _⟩)
  · obtain ⟨L, l, ys, rfl, ho, hx, hl, ha⟩ := made_one hm 0 n rfl
    have hbase : Below w.heap.size w w1 := below_next hb0 ho.bl
    have hOa : Oa w w1 L (newPS n ys) := ⟨ho.rep, fun g hg => by have := ho.own g hg; simp at this; omega, hbase⟩
    have hys : (newPS n ys).words = List.replicate (n * 16) 0 := rfl
    have HO := Lib.hid hOa
    have HA := Lib.hid ha
    clear hm ho hx ha hbase hOa HN
    go_wp2_with fail
    refine (arena_in HO.out.rep 0 l hl).mono ?_
    rintro e w2 ⟨rfl, hb2⟩
    go_wp2_with fail
    go_ret
    refine ⟨l.ab, rfl, L, _, 0, l, HO.out.later hb2, ?_, hl, rfl, rfl⟩
    simpa [newAr] using HA.out
  · exfalso
    simp [newOk, okSh] at hno
    omega
set_option maxRecDepth 100000 in
set_option maxHeartbeats 2000000 in
theorem alive_any (w : World) (ads : List Addr) (hS : Sent w 94 errGs ads) (er en ea : Addr) (hE : Errs w er en ea) (h13 : ads[13]? = some ea) : Calls Tryd.prog 9 #[] w (Ret w (.bool true)) := by
  have hR : RI (w.alloc (.cells #[.int .i64 3, .int .i64 2] 3)) (some ⟨w.heap.size, 0, none⟩) [3, 2] := rd_blk (T := 3) (blk_new w _) (by simp [maxLen, ints])
  have hb0 : Below w.heap.size w (w.alloc (.cells #[.int .i64 3, .int .i64 2] 3)) := below_alloc (Below.refl _ _) _
  have HN := Lib.hid (new_ok 8 [3, 2] (some ⟨w.heap.size, 0, none⟩) 2 _ er en ea (hE.later hb0) hR (by omega) (by omega) (by simp))
  have HS := Lib.hid hS
  have HE := Lib.hid hE
  clear hE hR hS
  go_enter Tryd.func9, Tryd.ntmps9
  go_wp2_with fail
  refine HN.out.mono ?_
  rintro e w1 (⟨_, hm⟩ | ⟨hno, _⟩)
  · obtain ⟨L, l, ys, rfl, ho, hx, hl, ha⟩ := made_one hm 0 3 rfl
    have hbase : Below w.heap.size w w1 := below_next hb0 ho.bl
    have hOa : Oa w w1 L (newPS 8 ys) := ⟨ho.rep, fun g hg => by have := ho.own g hg; simp at this; omega, hbase⟩
    have HO := Lib.hid hOa
    have HA := Lib.hid ha
    clear hm ho hx ha hbase hOa HN
    go_wp2_with fail
    refine (arena_in HO.out.rep 0 l hl).mono ?_
    rintro e w2 ⟨rfl, hb2⟩
    obtain ⟨p, hp⟩ : ∃ p, p = l.ab := ⟨_, rfl⟩
    obtain ⟨ws, A0⟩ : ∃ ws, Hid (AOb w w2 p ⟨0, 3, [0, 0, 0], [false, false, false]⟩ ws) := ⟨_, L, _, 0, l, HO.out.later hb2, by simpa [newAr] using HA.out, hl, hp.symm, rfl⟩
    rw [← hp]
    clear HO HA hb2 hp hl
    go_wp2_with fail
    refine (o_alloc_ok A0.out 17 2 0 (by omega) (by omega) (by omega) ((fits_iff _ _ _).2 rfl) (fun f hf => by omega)).mono ?_
    rintro e w3 ⟨rfl, h3⟩
    have A1 : Hid (AOb w w3 p ⟨0, 3, [2, 0, 0], [true, true, false]⟩ ws) := h3
    clear h3 A0
    go_wp2_with fail
    refine (o_alloc_ok A1.out 1 1 2 (by omega) (by omega) (by omega) ((fits_iff _ _ _).2 rfl) (fun f hf => by rw [fits_iff]; rcases (show f = 0 ∨ f = 1 by omega) with rfl | rfl <;> decide)).mono ?_
    rintro e w4 ⟨rfl, h4⟩
    have A2 : Hid (AOb w w4 p ⟨0, 3, [2, 0, 1], [true, true, true]⟩ ws) := h4
    clear h4 A1
    go_wp2_with fail
    refine (o_alloc_none A2.out 1 1 er en ea HE.out (by omega) (by omega) (by omega) (fun f => by
      rw [fits_iff]
      by_cases hf : f < 3
      · rcases (show f = 0 ∨ f = 1 ∨ f = 2 by omega) with rfl | rfl | rfl <;> decide
      · rw [← fits_iff]; exact fits_short (by simp; omega))).mono ?_
    rintro e w5 ⟨rfl, h5⟩
    replace A2 := Lib.hid h5
    clear h5
    unfold errV
    go_wp2_with fail
    refine (o_free_ok A2.out 0 2 0 rfl rfl (by omega) (by simp)).mono ?_
    rintro e w6 ⟨rfl, h6⟩
    obtain ⟨ws6, A3⟩ : ∃ ws, Hid (AOb w w6 p ⟨0, 3, [0, 0, 1], [false, false, true]⟩ ws) := ⟨_, h6⟩
    clear h6 A2
    go_wp2_with fail
    refine (o_alloc_ok A3.out 16 1 0 (by omega) (by omega) (by omega) ((fits_iff _ _ _).2 rfl) (fun f hf => by omega)).mono ?_
    rintro e w7 ⟨rfl, h7⟩
    have A4 := Lib.hid h7
    clear h7 A3
    have hb7 := A4.out.bl
    go_wp2_with fail
    refine (num_err w7 ads (HS.out.later hb7) 13 ea h13).mono ?_
    rintro e w8 ⟨rfl, hb8⟩
    have hb := below_next hb7 hb8
    go_wp2_with fail
    go_ret
    exact ⟨rfl, hb⟩
  · exfalso
    exact absurd hno (by decide)
end Go.Proofs.YtpjphmpebegidaaDoor
