/-
  The walks of the document's own functions: Leq, Short, Join.
-/
import Derived.Test.YtcipikacgkkapaaDoorWe
namespace Go.Proofs.YtcipikacgkkapaaDoor
open Go.RowKit Go.Stk
attribute [local go_sem] max2_int max_two

theorem leq_any (a b : List Int) (A B : Option Addr) (ca cb : Nat) (w : World) (ha : RI w A a) (hb : RI w B b) (hla : a.length ≤ 1000000000) (hlb : b.length ≤ 1000000000) :
    Calls Tryd.prog 28 #[.slice A a.length ca, .slice B b.length cb] w fun e w' => e = .returned (.bool (atMost a b)) ∧ w = w' := by
  have hal := ha.len
  have hbl := hb.len
  obtain ⟨n, hn⟩ : ∃ n : Nat, n = max a.length b.length := ⟨_, rfl⟩
  have hlon := longer_any a b A B ca cb w hal hbl
  rw [← hn] at hlon
  have HLON := Lib.hid hlon
  have hnb : n ≤ 1000000000 := by omega
  have HN := Lib.hid hn
  clear hlon hn
  go_enter Tryd.func28, Tryd.ntmps28
  go_wp2_with fail
  go_loop [5] (fun i => ∃ k : Nat, k ≤ n ∧ i = .int .i64 k ∧ Hid (∀ j : Nat, j < k → getL a j ≤ getL b j)) (fun i => n - (intOf i).toNat)
  case atStart => exact ⟨0, Nat.zero_le _, rfl, fun j hj => absurd hj (by omega)⟩
  case round =>
    obtain ⟨k, hk, rfl, hall⟩ := hrel
    go_wp2_with fail
    refine HLON.out.mono ?_
    rintro e w' ⟨rfl, rfl⟩
    by_cases hlt : k < n
    · go_wp2_with fail
      refine (at_any a A ca k w ha).mono ?_
      rintro e w' ⟨rfl, rfl⟩
      go_wp2_with fail
      refine (at_any b B cb k w hb).mono ?_
      rintro e w' ⟨rfl, rfl⟩
      by_cases hgt : getL b k < getL a k
      · go_wp2_with fail
        go_ret
        refine ⟨?_, rfl⟩
        have : atMost a b = false := by
          cases h : atMost a b
          · rfl
          · have := (atMost_iff a b).1 h k; omega
        rw [this]; rfl
      · go_wp2_with fail
        go_round
        case rel => exact ⟨k + 1, by omega, by go_num, fun j hj => by
          by_cases hjk : j = k
          · subst hjk; omega
          · exact hall.out j (by omega)⟩
        case measure => simp [intOf]; omega
    · go_wp2_with fail
      go_ret
      refine ⟨?_, rfl⟩
      have : atMost a b = true := by
        rw [atMost_iff]
        intro g
        rcases intSplit g 0 with hg | hg
        · rw [getL_neg _ _ hg, getL_neg _ _ hg]; omega
        · obtain ⟨j, rfl⟩ := Int.eq_ofNat_of_zero_le hg
          by_cases hj : j < k
          · exact hall.out j hj
          · have h1 := HN.out
            have h2 : getL a j = 0 := by rw [getL_nat]; simp [List.getElem?_eq_none (show a.length ≤ j by omega)]
            rw [h2]; exact getL_nonneg _ _
      rw [this]; rfl

theorem Own.cell {w : World} {B g c : Nat} {l : List Int} (h : Own w B (.slice (some ⟨g, 0, none⟩) l.length c) l) (k : Nat) (hk : k < l.length) : w.cell? ⟨g, k, none⟩ = some (.int .i64 (l.getD k 0)) := by
  have h1 := World.ownsRow.cellAt h k (by omega)
  rw [h1]
  simp [ints, hk]
theorem Own.free {w : World} {B g c : Nat} {l : List Int} (h : Own w B (.slice (some ⟨g, 0, none⟩) l.length c) l) (k : Nat) : w.frozen? ⟨g, k, none⟩ = false := World.ownsRow.frozenAt h k
theorem Own.set {w : World} {B g c : Nat} {l : List Int} (h : Own w B (.slice (some ⟨g, 0, none⟩) l.length c) l) (k : Nat) (x : Int) : Own (w.setCell ⟨g, k, none⟩ (.int .i64 x)) B (.slice (some ⟨g, 0, none⟩) l.length c) (l.set k x) := by
  have h1 := (World.ownsRow.stored h k (.int .i64 x)).1
  simpa [Own, ints] using h1
theorem own_zeros (W : World) (m : Nat) (hm : m ≤ 9223372036854775807) : Own (W.alloc (.cells (madeCells #[.int .i64 0] m) 3)) W.heap.size (.slice (some ⟨W.heap.size, 0, none⟩) m m) (List.replicate m 0) := by
  have h := own_new W W.heap.size 3 (madeCells #[.int .i64 0] m) (Nat.le_refl _) (by simp [size_madeCells, maxLen]; omega)
  simpa [Own, ints, size_madeCells, madeCells_rep] using h

/-- The first k filled in. -/
def fill (f : Nat → Int) (k n : Nat) : List Int := (List.range n).map fun i => if i < k then f i else 0
theorem fill_len (f : Nat → Int) (k n : Nat) : (fill f k n).length = n := by simp [fill]
theorem fill_zero (f : Nat → Int) (n : Nat) : fill f 0 n = List.replicate n 0 := by
  apply List.ext_getElem
  · simp [fill]
  · intro i h1 h2; simp [fill]
theorem fill_succ (f : Nat → Int) (k n : Nat) (_h : k < n) : (fill f k n).set k (f k) = fill f (k + 1) n := by
  apply List.ext_getElem
  · simp [fill]
  · intro i h1 h2
    rw [List.getElem_set]
    simp only [fill, List.getElem_map, List.getElem_range]
    by_cases h : k = i
    · subst h; simp
    · rw [if_neg h]
      by_cases h3 : i < k
      · rw [if_pos h3, if_pos (by omega)]
      · rw [if_neg h3, if_neg (by omega)]
theorem fill_all (f : Nat → Int) (n : Nat) : fill f n n = (List.range n).map f := by
  apply List.ext_getElem
  · simp [fill]
  · intro i h1 h2
    simp [fill] at h1 ⊢
    intro h; omega

/-- The document's short form is ours. -/
theorem short_eq (c : List Int) (n : Nat) (hz : ∀ j : Nat, n ≤ j → j < c.length → getL c j = 0) (hl : 0 < n → 0 < getL c ((n - 1 : Nat) : Int)) : (List.range n).map (fun (i : Nat) => getL c i) = joinL c [] := by
  have h1 : trim ((List.range n).map (fun (i : Nat) => getL c i)) = (List.range n).map (fun (i : Nat) => getL c i) := by
    by_cases hn : 0 < n
    · refine trim_keep _ (by simpa using hn) ?_
      have := hl hn
      simp [show n - 1 < n by omega]
      omega
    · have : n = 0 := by omega
      subst this; rfl
  rw [← h1]
  unfold joinL
  refine trim_ext fun k => ?_
  rw [joinRaw_getD _ _ _ _ (Nat.le_refl _), getL_nil]
  have hk := getL_nonneg c k
  by_cases h : k < n
  · simp [h]; omega
  · rw [List.getD_eq_getElem?_getD, List.getElem?_eq_none (by simp; omega)]
    by_cases h2 : k < c.length
    · rw [hz k (by omega) h2]; rfl
    · have : getL c k = 0 := by rw [getL_nat]; simp [List.getElem?_eq_none (show c.length ≤ k by omega)]
      rw [this]; rfl

theorem rshort_any (c : List Int) (A : Option Addr) (ca : Nat) (w : World) (hc : RI w A c) (hlc : c.length ≤ 1000000000) :
    Calls Tryd.prog 27 #[.slice A c.length ca] w (OwnRet w.heap.size w (joinL c [])) := by
  have hcl := hc.len
  go_enter Tryd.func27, Tryd.ntmps27
  go_wp2_with fail
  go_loop [3, 9] (fun n i => ∃ k m : Nat, k ≤ c.length ∧ m ≤ k ∧ i = .int .i64 k ∧ n = .int .i64 m ∧ Hid ((∀ j : Nat, m ≤ j → j < k → getL c j = 0) ∧ (0 < m → 0 < getL c ((m - 1 : Nat) : Int)))) (fun _ i => c.length - (intOf i).toNat)
  case atStart => exact ⟨0, 0, Nat.zero_le _, Nat.zero_le _, rfl, rfl, ⟨fun j _ hj => absurd hj (by omega), fun h => absurd h (by omega)⟩⟩
  case round =>
    obtain ⟨k, m, hk, hm, rfl, rfl, hall⟩ := hrel
    by_cases hlt : k < c.length
    · obtain ⟨b, off, rfl, hcell⟩ := hc.at k hlt
      obtain ⟨x, hx⟩ : ∃ x, c.getD k 0 = x := ⟨_, rfl⟩
      rw [hx] at hcell
      have HG := Lib.hid (show getL c k = max x 0 by rw [getL_nat, hx])
      clear hx
      by_cases hpos : 0 < x
      · go_wp2_with fail
        go_round
        case rel => exact ⟨k + 1, k + 1, by omega, by omega, by go_num, by go_num, ⟨fun j h1 h2 => absurd h2 (by omega), fun _ => by
          have h3 := HG.out
          simp only [Nat.add_sub_cancel]
          omega⟩⟩
        case measure => simp [intOf]; omega
      · go_wp2_with fail
        go_round
        case rel => exact ⟨k + 1, m, by omega, by omega, by go_num, rfl, ⟨fun j h1 h2 => by
          by_cases hjk : j = k
          · subst hjk; rw [HG.out]; omega
          · exact hall.out.1 j h1 (by omega), hall.out.2⟩⟩
        case measure => simp [intOf]; omega
    · obtain rfl : k = c.length := by omega
      have hmk := make_one (P := Tryd.prog) 22 3 (.int .i64 0) 8 Tryd.underlying22 info3 rfl (by decide) m (by omega)
      have HF := Lib.hid (short_eq c m hall.out.1 hall.out.2)
      go_wp2_with fail
      have ho := own_zeros w m (by omega)
      have hb : Below w.heap.size w (w.alloc (.cells (madeCells #[.int .i64 0] m) 3)) := (Below.refl _ _).alloc (Nat.le_refl _) _
      rw [← fill_zero (fun i => getL c i)] at ho
      clear hmk
      go_loopw [24] (fun i wr => ∃ k : Nat, k ≤ m ∧ i = .int .i64 k ∧ Own wr w.heap.size (.slice (some ⟨w.heap.size, 0, none⟩) m m) (fill (fun i => getL c i) k m) ∧ Below w.heap.size w wr) (fun i _ => m - (intOf i).toNat)
      case atStart => exact ⟨0, Nat.zero_le _, rfl, ho, hb⟩
      case round =>
        clear ho hb
        obtain ⟨k, hk, rfl, ho, hb⟩ := hrel
        by_cases hlt : k < m
        · have ho' := ho
          rw [show Value.slice (some ⟨w.heap.size, 0, none⟩) m m = .slice (some ⟨w.heap.size, 0, none⟩) (fill (fun i => getL c i) k m).length m by rw [fill_len]] at ho'
          have hcell := ho'.cell k (by rw [fill_len]; exact hlt)
          have hfree := ho'.free k
          have hset := ho'.set k (getL c k)
          rw [fill_len, fill_succ (fun i => getL c i) k m hlt] at hset
          have HS := Lib.hid hset
          clear hset ho' ho
          go_wp2_with fail
          refine (at_any c A ca k wr (hc.later hb)).mono ?_
          rintro e w' ⟨rfl, rfl⟩
          go_wp2_with fail
          go_roundw
          case rel => exact ⟨k + 1, by omega, by go_num, HS.out, hb.setCell (Nat.le_refl _) _⟩
          case measure => simp [intOf]; omega
        · obtain rfl : k = m := by omega
          go_wp2_with fail
          go_ret
          rw [fill_all, HF.out] at ho
          exact ⟨_, rfl, ho, hb⟩
end Go.Proofs.YtcipikacgkkapaaDoor
