/-
  One call by its kind; which pools there are; all words of a pool; an error's number.
-/
import Derived.Test.YtpjphmpebegidaaDoorPool19
import Derived.Test.YtpjphmpebegidaaDoorNum11
import Derived.Deep.RegionHeld3
namespace Go.Proofs.YtpjphmpebegidaaDoor
open Go.RowKit Go.Stk
attribute [local go_sem ↓] Go.wp_at_zero Go.wp_at_succ

def numOf (c : Nat) : Int := if c = 0 then 0 else if c = 1 then 1 else if c = 8 then 8 else 14
theorem num_ev (w : World) (ads : List Addr) (hS : Sent w 94 errGs ads) (er en ea : Addr) (h0 : ads[0]? = some er) (h7 : ads[7]? = some en) (h13 : ads[13]? = some ea) (c : Nat) : Calls Tryd.prog 17 #[ev er en ea c] w (Ret w (.int .i64 (numOf c))) := by
  unfold ev numOf
  by_cases c0 : c = 0
  · rw [if_pos c0, if_pos c0]
    exact num_nil w
  · rw [if_neg c0, if_neg c0]
    by_cases c1 : c = 1
    · rw [if_pos c1, if_pos c1]
      exact num_err w ads hS 0 er h0
    · rw [if_neg c1, if_neg c1]
      by_cases c8 : c = 8
      · rw [if_pos c8, if_pos c8]
        exact num_err w ads hS 7 en h7
      · rw [if_neg c8, if_neg c8]
        exact num_err w ads hS 13 ea h13
theorem RetP.from {w w0 : World} {L : PLay} {S : PS} {v : Value} {e : Ending} {w' : World} (hb : Below w.heap.size w w0) (h : RetP w0 L S v e w') : RetP w L S v e w' :=
  ⟨h.1, h.2.1, (Kept.ofBelow hb L.fp).trans h.2.2 (fun _ h => .inl h)⟩
section
variable {w : World} {L : PLay} {S : PS} (h : PRep w L S)
variable {i : Nat} {a : Ar} {l : AL} (ha : S.ars[i]? = some a) (hl : L.als[i]? = some l)
include h ha hl
set_option maxHeartbeats 2000000 in
theorem step_all (hok : RunsOk a) (o : Op4) (ht : o.t ≤ 9223372036854775807) (hv : o.v ≤ 9223372036854775807) (er en ea : Addr) (hE : Errs w er en ea) : Calls Tryd.prog 22 #[.pointer (some ⟨l.ab, 0, none⟩), .agg #[.int .i64 o.k, .int .i64 o.a, .int .i64 o.t, .int .i64 o.v]] w
    (RetP w L { S with ars := S.ars.set i (doR a S.words o).2.1, words := (doR a S.words o).2.2 } (.tuple #[.int .i64 (doR a S.words o).1.1, ev er en ea (doR a S.words o).1.2])) := by
  obtain ⟨k, a', t, v⟩ := o
  simp only at ht hv
  have hb : Below w.heap.size w (w.alloc (.cells #[.int .i64 k, .int .i64 a', .int .i64 t, .int .i64 v] 47)) := below_alloc (Below.refl _ _) _
  have HB := Lib.hid hb
  have HP := Lib.hid (h.later hb)
  have HE := Lib.hid (hE.later hb)
  have HA := Lib.hid ha
  have HL := Lib.hid hl
  have HO := Lib.hid hok
  clear h ha hl hok hE hb
  by_cases k1 : k = 1
  · subst k1
    rw [show doR a S.words ⟨1, a', t, v⟩ = ((allocR a v).1, (allocR a v).2, S.words) from rfl]
    go_enter Tryd.func22, Tryd.ntmps22
    go_wp2_with fail
    refine (alloc_all HP.out HA.out HL.out v hv er en ea HE.out).mono ?_
    rintro e w1 hr
    have HR := Lib.hid (RetP.from HB.out hr)
    obtain ⟨rfl, _, _⟩ := hr
    go_wp2_with fail
    go_ret2
    exact ⟨rfl, HR.out.2⟩
  have d1 : (k == 1) = false := by simpa using k1
  by_cases k2 : k = 2
  · subst k2
    rw [show doR a S.words ⟨2, a', t, v⟩ = ((0, (freeR a S.words t).1), (freeR a S.words t).2) from rfl]
    go_enter Tryd.func22, Tryd.ntmps22
    go_wp2_with fail
    refine (free_all HP.out HA.out HL.out HO.out t ht er en ea HE.out).mono ?_
    rintro e w1 hr
    have HR := Lib.hid (RetP.from HB.out hr)
    obtain ⟨rfl, _, _⟩ := hr
    go_wp2_with fail
    go_ret2
    exact ⟨rfl, HR.out.2⟩
  have d2 : (k == 2) = false := by simpa using k2
  by_cases k3 : k = 3
  · subst k3
    rw [show doR a S.words ⟨3, a', t, v⟩ = (getR a S.words t, a, S.words) from rfl, set_same HA.out]
    go_enter Tryd.func22, Tryd.ntmps22
    go_wp2_with fail
    refine (get_all HP.out HA.out HL.out t ht er en ea HE.out).mono ?_
    rintro e w1 hr
    have HR := Lib.hid (RetP.from HB.out (show RetP _ L S _ _ _ from ⟨hr.1, HP.out.later hr.2, (Kept.ofBelow hr.2 []).mono (by simp)⟩))
    obtain ⟨rfl, _⟩ := hr
    go_wp2_with fail
    go_ret2
    exact ⟨rfl, HR.out.2⟩
  have d3 : (k == 3) = false := by simpa using k3
  by_cases k4 : k = 4
  · subst k4
    rw [show doR a S.words ⟨4, a', t, v⟩ = ((0, (setR a S.words t v).1), a, (setR a S.words t v).2) from rfl]
    go_enter Tryd.func22, Tryd.ntmps22
    go_wp2_with fail
    refine (set_all HP.out HA.out HL.out t v ht er en ea HE.out).mono ?_
    rintro e w1 hr
    have HR := Lib.hid (RetP.from HB.out hr)
    obtain ⟨rfl, _, _⟩ := hr
    go_wp2_with fail
    go_ret2
    exact ⟨rfl, HR.out.2⟩
  have d4 : (k == 4) = false := by simpa using k4
  by_cases k5 : k = 5
  · subst k5
    rw [show doR a S.words ⟨5, a', t, v⟩ = ((0, 0), cleared a, rng S.words (a.off * 16) (a.off * 16 + a.n * 16) 0) from rfl]
    go_enter Tryd.func22, Tryd.ntmps22
    go_wp2_with fail
    refine (clear_any HP.out HA.out HL.out).mono ?_
    rintro e w1 hr
    have HR := Lib.hid (RetP.from HB.out hr)
    obtain ⟨rfl, _, _⟩ := hr
    go_wp2_with fail
    go_ret2
    exact ⟨rfl, HR.out.2⟩
  have d5 : (k == 5) = false := by simpa using k5
  have e : doR a S.words ⟨k, a', t, v⟩ = ((0, 0), a, S.words) := by simp [doR, k1, k2, k3, k4, k5]
  rw [e, set_same HA.out]
  clear e k1 k2 k3 k4 k5
  go_enter Tryd.func22, Tryd.ntmps22
  go_wp2_with fail
  go_ret2
  exact ⟨rfl, HP.out, (Kept.ofBelow HB.out []).mono (by simp)⟩
end
/-- May a pool be of this? -/
theorem may_any (np : Int) (xs : List Int) (A : Option Addr) (c : Nat) (w : World) (hx : RI w A xs) (h64 : np ≤ 9223372036854775807) : Calls Tryd.prog 21 #[.int .i64 np, .slice A xs.length c] w (fun e w' => e = .returned (.bool (newOk np xs)) ∧ w = w') := by
  have hxl := hx.len
  have HX := Lib.hid hx
  clear hx
  by_cases h1 : np < 1
  · have e : newOk np xs = false := by unfold newOk; rw [show decide (1 ≤ np) = false from decide_eq_false (by omega)]; rfl
    rw [e]
    go_enter Tryd.func21, Tryd.ntmps21
    go_wp2_with fail
    go_ret
    exact ⟨rfl, rfl⟩
  have d1 : decide (np < 1) = false := decide_eq_false h1
  by_cases h2 : 256 < np
  · have e : newOk np xs = false := by unfold newOk; rw [show decide (np ≤ 256) = false from decide_eq_false (by omega)]; simp
    rw [e]
    go_enter Tryd.func21, Tryd.ntmps21
    go_wp2_with fail
    go_ret
    exact ⟨rfl, rfl⟩
  have d2 : decide (256 < np) = false := decide_eq_false h2
  by_cases h3 : 8 < xs.length
  · have e : newOk np xs = false := by unfold newOk; rw [show decide (xs.length ≤ 8) = false from decide_eq_false (by omega)]; simp
    rw [e]
    have d3 : decide (8 < (xs.length : Int)) = true := decide_eq_true (by omega)
    go_enter Tryd.func21, Tryd.ntmps21
    go_wp2_with fail
    go_ret
    exact ⟨rfl, rfl⟩
  have d3 : decide (8 < (xs.length : Int)) = false := decide_eq_false (by omega)
  have e : newOk np xs = okSh np xs := by
    unfold newOk
    rw [show decide (np ≤ 256) = true from decide_eq_true (by omega), show decide (1 ≤ np) = true from decide_eq_true (by omega), show decide (xs.length ≤ 8) = true from decide_eq_true (by omega)]
    simp
  rw [e]
  obtain ⟨R, hR⟩ : ∃ R, okSh np xs = R := ⟨_, rfl⟩
  rw [hR]
  have HR := Lib.hid hR
  clear e hR
  go_enter Tryd.func21, Tryd.ntmps21
  go_wp2_with fail
  go_loop [5, 22] (fun lv iv => ∃ (k : Nat) (left : Int), k ≤ xs.length ∧ iv = .int .i64 k ∧ lv = .int .i64 left ∧ 0 ≤ left ∧ left ≤ 256 ∧ Hid (okSh left (xs.drop k) = R)) (fun _ iv => xs.length - (intOf iv).toNat)
  case atStart => exact ⟨0, np, Nat.zero_le _, rfl, rfl, by omega, by omega, by simpa using HR⟩
  case round =>
    obtain ⟨k, left, hk, rfl, rfl, hl0, hl1, hP⟩ := hrel
    by_cases hlt : k < xs.length
    · obtain ⟨b1, o1, rfl, c1⟩ := HX.out.at k hlt
      obtain ⟨n, en⟩ : ∃ n, xs.getD k 0 = n := ⟨_, rfl⟩
      rw [en] at c1
      have hd : xs.drop k = n :: xs.drop (k + 1) := by
        rw [List.drop_eq_getElem_cons hlt]
        congr 1
        rw [← en, List.getD_eq_getElem?_getD, List.getElem?_eq_getElem hlt]; rfl
      have HD := Lib.hid hd
      clear en hd
      by_cases hb : n < 0 ∨ left < n
      · have HF : Hid (R = false) := by
          show _ = _
          have := hP.out
          rw [HD.out] at this
          rw [← this]
          unfold okSh
          rw [show (decide (0 ≤ n) && (decide (n ≤ left) && okSh (left - n) (xs.drop (k + 1)))) = false from ?_]
          rcases hb with hb | hb
          · rw [show decide (0 ≤ n) = false from decide_eq_false (by omega)]; rfl
          · rw [show decide (n ≤ left) = false from decide_eq_false (by omega)]; simp
        by_cases hn : n < 0
        · clear hb
          go_wp2_with fail
          go_ret
          exact ⟨by rw [HF.out]; rfl, rfl⟩
        · have d5 : decide (n < 0) = false := decide_eq_false hn
          have d6 : decide (left < n) = true := decide_eq_true (by omega)
          clear hb
          go_wp2_with fail
          go_ret
          exact ⟨by rw [HF.out]; rfl, rfl⟩
      · have d5 : decide (n < 0) = false := decide_eq_false (by omega)
        have d6 : decide (left < n) = false := decide_eq_false (by omega)
        have HN : Hid (okSh (left - n) (xs.drop (k + 1)) = R) := by
          show _ = _
          have := hP.out
          rw [HD.out] at this
          rw [← this]
          conv => rhs; unfold okSh
          rw [show decide (0 ≤ n) = true from decide_eq_true (by omega), show decide (n ≤ left) = true from decide_eq_true (by omega)]
          simp
        have n0 : 0 ≤ n := by omega
        have n1 : n ≤ left := by omega
        clear hb hP
        go_wp2_with fail
        go_round
        case rel => exact ⟨k + 1, left - n, by omega, by go_num, rfl, by omega, by omega, HN⟩
        case measure => simp [intOf]; omega
    · have HF : Hid (R = true) := by
        show _ = _
        have := hP.out
        rw [List.drop_eq_nil_of_le (by omega)] at this
        rw [← this]
        rfl
      go_wp2_with fail
      go_ret
      exact ⟨by rw [HF.out]; rfl, rfl⟩
end Go.Proofs.YtpjphmpebegidaaDoor
