/-
  SyncLocks: a mutex is locked and unlocked in turn.
-/
import Derived.Test.YtmalbdoneghnmaaDoorSync9
import Derived.Test.YtmalbdoneghnmaaDoorArith
namespace Go.Proofs.YtmalbdoneghnmaaDoor
open Go.RowKit Go.Stk
attribute [local go_sem ↓] Go.wp_at_zero Go.wp_at_succ

/-- Where a round stands. -/
structure LkR (w wr : World) (X : Nat → Prop) (b lb : Nat) (bs : List Bool) : Prop where
  ob : Ob X b ⟨[], bs, [], []⟩ wr
  blk : wr.heap[lb]? = some (.cells (bcells bs).toArray 43 (0, 0))
  len : bs.length = 3
  inX : X lb
  low : ∀ k, k < w.heap.size → X k
  bl : Below w.heap.size w wr
  hi : w.heap.size ≤ lb
theorem LkR.later {w wr w' : World} {X : Nat → Prop} {b lb : Nat} {bs : List Bool} (h : LkR w wr X b lb bs) (hb : Below wr.heap.size wr w') : LkR w w' X b lb bs := ⟨h.ob.later hb, blk_later hb h.blk, h.len, h.inX, h.low, below_next h.bl hb, h.hi⟩
theorem LkR.cell {w wr : World} {X : Nat → Prop} {b lb : Nat} {bs : List Bool} (h : LkR w wr X b lb bs) {m : Nat} {x : Bool} (hx : bs[m]? = some x) : wr.cell? ⟨lb, m, none⟩ = some (.bool x) := by
  rw [blk_cell h.blk]
  simpa using bcells_at hx
theorem LkR.free {w wr : World} {X : Nat → Prop} {b lb : Nat} {bs : List Bool} (h : LkR w wr X b lb bs) (m : Nat) : wr.frozen? ⟨lb, m, none⟩ = false := blk_free h.blk m
/-- A call has turned the state; the list is turned with it. -/
theorem LkR.turn {w wr w' : World} {X : Nat → Prop} {b lb : Nat} {bs : List Bool} (h : LkR w wr X b lb bs) {m : Nat} {x : Bool} (ho : Ob X b ⟨[], bs.set m x, [], []⟩ w') (hk : KeptX X wr w') : LkR w (w'.setCell ⟨lb, m, none⟩ (.bool x)) X b lb (bs.set m x) := by
  refine ⟨ho.set _ _ h.inX, ?_, by simpa using h.len, h.inX, h.low, (h.bl.trans (hk.below h.low)).setCell h.hi _, h.hi⟩
  · have := blk_set ((hk.block lb h.inX).trans h.blk) m (.bool x)
    rw [this]
    simp [bcells, List.map_set]
/-- .. or has not. -/
theorem LkR.stay {w wr w' : World} {X : Nat → Prop} {b lb : Nat} {bs : List Bool} (h : LkR w wr X b lb bs) {m : Nat} {x : Bool} (hx : bs[m]? = some x) (hb : Below wr.heap.size wr w') : LkR w (w'.setCell ⟨lb, m, none⟩ (.bool x)) X b lb bs := by
  have h2 := h.later hb
  refine ⟨h2.ob.set _ _ h.inX, ?_, h.len, h.inX, h.low, h2.bl.setCell h.hi _, h.hi⟩
  have := blk_set h2.blk m (.bool x)
  rw [this]
  have e : (bcells bs).set m (.bool x) = bcells bs := by
    have := bcells_at hx
    apply List.ext_getElem?
    intro i
    rw [List.getElem?_set]
    by_cases hi : m = i
    · subst hi
      rw [if_pos rfl, if_pos (List.getElem?_eq_some_iff.1 this).1, this]
    · simp [hi]
  simp [e]
set_option maxRecDepth 100000 in
set_option maxHeartbeats 4000000 in
theorem locks_law (xs : List Int) (A : Option Addr) (c : Nat) (w : World) (er et : Addr) (hE : Errs w er et) (hx : RI w A xs) : Calls Tryd.prog 4 #[.slice A xs.length c] w (Ret w (.bool true)) := by
  have hxl := hx.len
  have HE := Lib.hid hE
  have HX := Lib.hid hx
  clear hE hx
  go_enter Tryd.func4, Tryd.ntmps4
  go_wp2_with fail
  refine (alive_any w er et HE.out).mono ?_
  rintro e w1 ⟨rfl, hb⟩
  go_wp2_with fail
  refine (new_made [] 3 0 [] none none 0 0 w1 er et (HE.out.later hb) (ri_none _) (rd_none _) (by decide)).mono ?_
  rintro e w2 ⟨b, rfl, hO, hb2⟩
  have hs1 := hb.size
  replace hb := below_next hb hb2
  have HO := Lib.hid hO
  have HB := Lib.hid hb2
  clear hO hb2
  go_wp2_with fail
  obtain ⟨W, hW⟩ : ∃ W, w2.alloc (.cells #[.bool false, .bool false, .bool false] 43) = W := ⟨_, rfl⟩
  rw [hW]
  obtain ⟨X, hXd⟩ : ∃ X : Nat → Prop, X = fun k => k < w1.heap.size ∨ k = w2.heap.size := ⟨_, rfl⟩
  have H0 : Hid (LkR w W X b w2.heap.size [false, false, false]) := by
    subst hW hXd
    exact ⟨HO.out.add _, blk_new _ _, rfl, .inr rfl, fun k hk => .inl (by omega), below_alloc hb _, hb.size⟩
  obtain ⟨lb, hlb⟩ : ∃ lb, lb = w2.heap.size := ⟨_, rfl⟩
  rw [← hlb] at H0 ⊢
  clear hlb hW hXd HO HB hb hs1
  go_loopw [29] (fun i wr => ∃ (k : Nat) (bs : List Bool), k ≤ xs.length ∧ i = .int .i64 k ∧ Hid (LkR w wr X b lb bs)) (fun i _ => xs.length - (intOf i).toNat)
  case atStart => exact ⟨0, _, Nat.zero_le _, rfl, H0⟩
  case round =>
    obtain ⟨k, bs, hk, rfl, hP⟩ := hrel
    by_cases hlt : k < xs.length
    · obtain ⟨b1, o1, rfl, c1⟩ := (HX.out.later hP.out.bl).at k hlt
      obtain ⟨n, en⟩ : ∃ n, xs.getD k 0 = n := ⟨_, rfl⟩
      rw [en] at c1
      have EN := Lib.hid en
      clear en
      by_cases h200 : 200 < k
      · have d2 : decide (200 < (k : Int)) = true := decide_eq_true (by omega)
        have hb := hP.out.bl
        go_wp2_with fail
        go_ret
        exact ⟨rfl, hb⟩
      · have d2 : decide (200 < (k : Int)) = false := decide_eq_false (by omega)
        obtain ⟨m, hm, em⟩ := mod_nat n 3 (by omega) (by omega)
        have em : wrap64 ((IntKind.u64.wrap n).tmod 3) = (m : Int) := em
        have hm2 : (m : Int) < 3 := by omega
        have hl3 := hP.out.len
        obtain ⟨x, hx⟩ : ∃ x, bs[m]? = some x := ⟨_, List.getElem?_eq_getElem (by omega)⟩
        have HX2 := Lib.hid hx
        clear hx
        have HL3 := Lib.hid hl3
        clear hl3
        cases x
        all_goals go_wp2_with fail
        · refine (o_lock_new hP.out.ob m HX2.out).mono ?_
          rintro e w3 ⟨rfl, hO3, hk3⟩
          have hc3 := (World.cell?_of_block (hk3.block lb hP.out.inX)).trans (hP.out.cell HX2.out)
          have hf3 := (World.frozen?_of_block (hk3.block lb hP.out.inX)).trans (hP.out.free m)
          have HN := Lib.hid (hP.out.turn hO3 hk3)
          clear hO3 hk3 HX2
          go_wp2_with fail
          clear hP HL3 hc3 hf3
          generalize w3.setCell ⟨lb, m, none⟩ (.bool true) = W3 at HN ⊢
          obtain ⟨bs2, HN⟩ : ∃ bs2, Hid (LkR w W3 X b lb bs2) := ⟨_, HN⟩
          go_loopw [77] (fun i wr => ∃ j : Nat, j ≤ 3 ∧ i = .int .i64 j ∧ Hid (LkR w wr X b lb bs2)) (fun i _ => 3 - (intOf i).toNat)
          case atStart => exact ⟨0, by omega, rfl, HN⟩
          case round =>
            obtain ⟨j, hj, rfl, hQ⟩ := hrel
            rename_i wq
            by_cases hj3 : j < 3
            · have hlen2 := hQ.out.len
              obtain ⟨y, hy⟩ : ∃ y, bs2[j]? = some y := ⟨_, List.getElem?_eq_getElem (by omega)⟩
              have cj := hQ.out.cell hy
              have HY := Lib.hid hy
              clear hy hlen2
              have j0 : (0 : Int) ≤ (j : Int) := by omega
              have j3 : (j : Int) < 3 := by omega
              go_wp2_with fail
              go_region_held3 (fun w' => w'.cell? ⟨lb, j, none⟩ = some (.bool y)) (go_keep) (first | (go_at_call 16; refine (o_locked_in (hQ.out.ob.later (below_drew0 _)) j y HY.out).mono ?_; rintro e w7 ⟨rfl, hb7⟩; have k7 := (hQ.out.later (below_next (below_drew0 _) hb7)).cell HY.out))
              all_goals
                go_wp2_with fail
                go_roundw
                case rel => exact ⟨j + 1, by omega, by go_num, hQ.out.later (below_next (below_drew0 _) hb7)⟩
                case measure => simp [intOf]; omega
            · have HJ : Hid (j = 3) := by show _ = _; omega
              go_wp2_with fail
              go_roundw
              case rel => exact ⟨k + 1, bs2, by omega, by go_num, hQ⟩
              case measure => simp [intOf]; omega
        · refine (o_unlock_same hP.out.ob m HX2.out).mono ?_
          rintro e w3 ⟨rfl, hb3⟩
          have hc3 := (hP.out.later hb3).cell HX2.out
          have hf3 := (hP.out.later hb3).free m
          have HN := Lib.hid (hP.out.stay HX2.out hb3)
          clear hb3 HX2
          go_wp2_with fail
          clear hP HL3 hc3 hf3
          generalize w3.setCell ⟨lb, m, none⟩ (.bool false) = W3 at HN ⊢
          obtain ⟨bs2, HN⟩ : ∃ bs2, Hid (LkR w W3 X b lb bs2) := ⟨_, HN⟩
          go_loopw [77] (fun i wr => ∃ j : Nat, j ≤ 3 ∧ i = .int .i64 j ∧ Hid (LkR w wr X b lb bs2)) (fun i _ => 3 - (intOf i).toNat)
          case atStart => exact ⟨0, by omega, rfl, HN⟩
          case round =>
            obtain ⟨j, hj, rfl, hQ⟩ := hrel
            rename_i wq
            by_cases hj3 : j < 3
            · have hlen2 := hQ.out.len
              obtain ⟨y, hy⟩ : ∃ y, bs2[j]? = some y := ⟨_, List.getElem?_eq_getElem (by omega)⟩
              have cj := hQ.out.cell hy
              have HY := Lib.hid hy
              clear hy hlen2
              have j0 : (0 : Int) ≤ (j : Int) := by omega
              have j3 : (j : Int) < 3 := by omega
              go_wp2_with fail
              go_region_held3 (fun w' => w'.cell? ⟨lb, j, none⟩ = some (.bool y)) (go_keep) (first | (go_at_call 16; refine (o_locked_in (hQ.out.ob.later (below_drew0 _)) j y HY.out).mono ?_; rintro e w7 ⟨rfl, hb7⟩; have k7 := (hQ.out.later (below_next (below_drew0 _) hb7)).cell HY.out))
              all_goals
                go_wp2_with fail
                go_roundw
                case rel => exact ⟨j + 1, by omega, by go_num, hQ.out.later (below_next (below_drew0 _) hb7)⟩
                case measure => simp [intOf]; omega
            · have HJ : Hid (j = 3) := by show _ = _; omega
              go_wp2_with fail
              go_roundw
              case rel => exact ⟨k + 1, bs2, by omega, by go_num, hQ⟩
              case measure => simp [intOf]; omega
        · refine (o_lock_same hP.out.ob m HX2.out).mono ?_
          rintro e w3 ⟨rfl, hb3⟩
          have hc3 := (hP.out.later hb3).cell HX2.out
          have hf3 := (hP.out.later hb3).free m
          have HN := Lib.hid (hP.out.stay HX2.out hb3)
          clear hb3 HX2
          go_wp2_with fail
          clear hP HL3 hc3 hf3
          generalize w3.setCell ⟨lb, m, none⟩ (.bool true) = W3 at HN ⊢
          obtain ⟨bs2, HN⟩ : ∃ bs2, Hid (LkR w W3 X b lb bs2) := ⟨_, HN⟩
          go_loopw [77] (fun i wr => ∃ j : Nat, j ≤ 3 ∧ i = .int .i64 j ∧ Hid (LkR w wr X b lb bs2)) (fun i _ => 3 - (intOf i).toNat)
          case atStart => exact ⟨0, by omega, rfl, HN⟩
          case round =>
            obtain ⟨j, hj, rfl, hQ⟩ := hrel
            rename_i wq
            by_cases hj3 : j < 3
            · have hlen2 := hQ.out.len
              obtain ⟨y, hy⟩ : ∃ y, bs2[j]? = some y := ⟨_, List.getElem?_eq_getElem (by omega)⟩
              have cj := hQ.out.cell hy
              have HY := Lib.hid hy
              clear hy hlen2
              have j0 : (0 : Int) ≤ (j : Int) := by omega
              have j3 : (j : Int) < 3 := by omega
              go_wp2_with fail
              go_region_held3 (fun w' => w'.cell? ⟨lb, j, none⟩ = some (.bool y)) (go_keep) (first | (go_at_call 16; refine (o_locked_in (hQ.out.ob.later (below_drew0 _)) j y HY.out).mono ?_; rintro e w7 ⟨rfl, hb7⟩; have k7 := (hQ.out.later (below_next (below_drew0 _) hb7)).cell HY.out))
              all_goals
                go_wp2_with fail
                go_roundw
                case rel => exact ⟨j + 1, by omega, by go_num, hQ.out.later (below_next (below_drew0 _) hb7)⟩
                case measure => simp [intOf]; omega
            · have HJ : Hid (j = 3) := by show _ = _; omega
              go_wp2_with fail
              go_roundw
              case rel => exact ⟨k + 1, bs2, by omega, by go_num, hQ⟩
              case measure => simp [intOf]; omega
        · refine (o_unlock_new hP.out.ob m HX2.out).mono ?_
          rintro e w3 ⟨rfl, hO3, hk3⟩
          have hc3 := (World.cell?_of_block (hk3.block lb hP.out.inX)).trans (hP.out.cell HX2.out)
          have hf3 := (World.frozen?_of_block (hk3.block lb hP.out.inX)).trans (hP.out.free m)
          have HN := Lib.hid (hP.out.turn hO3 hk3)
          clear hO3 hk3 HX2
          go_wp2_with fail
          clear hP HL3 hc3 hf3
          generalize w3.setCell ⟨lb, m, none⟩ (.bool false) = W3 at HN ⊢
          obtain ⟨bs2, HN⟩ : ∃ bs2, Hid (LkR w W3 X b lb bs2) := ⟨_, HN⟩
          go_loopw [77] (fun i wr => ∃ j : Nat, j ≤ 3 ∧ i = .int .i64 j ∧ Hid (LkR w wr X b lb bs2)) (fun i _ => 3 - (intOf i).toNat)
          case atStart => exact ⟨0, by omega, rfl, HN⟩
          case round =>
            obtain ⟨j, hj, rfl, hQ⟩ := hrel
            rename_i wq
            by_cases hj3 : j < 3
            · have hlen2 := hQ.out.len
              obtain ⟨y, hy⟩ : ∃ y, bs2[j]? = some y := ⟨_, List.getElem?_eq_getElem (by omega)⟩
              have cj := hQ.out.cell hy
              have HY := Lib.hid hy
              clear hy hlen2
              have j0 : (0 : Int) ≤ (j : Int) := by omega
              have j3 : (j : Int) < 3 := by omega
              go_wp2_with fail
              go_region_held3 (fun w' => w'.cell? ⟨lb, j, none⟩ = some (.bool y)) (go_keep) (first | (go_at_call 16; refine (o_locked_in (hQ.out.ob.later (below_drew0 _)) j y HY.out).mono ?_; rintro e w7 ⟨rfl, hb7⟩; have k7 := (hQ.out.later (below_next (below_drew0 _) hb7)).cell HY.out))
              all_goals
                go_wp2_with fail
                go_roundw
                case rel => exact ⟨j + 1, by omega, by go_num, hQ.out.later (below_next (below_drew0 _) hb7)⟩
                case measure => simp [intOf]; omega
            · have HJ : Hid (j = 3) := by show _ = _; omega
              go_wp2_with fail
              go_roundw
              case rel => exact ⟨k + 1, bs2, by omega, by go_num, hQ⟩
              case measure => simp [intOf]; omega
    · have hb := hP.out.bl
      go_wp2_with fail
      go_ret
      exact ⟨rfl, hb⟩
end Go.Proofs.YtmalbdoneghnmaaDoor
