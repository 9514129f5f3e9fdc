/-
  CodeTurns: an instruction that looks at the text alone is in form at every byte of a text, and at no other.
-/
import Derived.Test.YtbpbimkadiobfaaDoorCode11
import Derived.Test.YtbpbimkadiobfaaDoorArith
namespace Go.Proofs.YtbpbimkadiobfaaDoor
open Go.RowKit Go.Stk

def turnI : Ins := ⟨24, 0, 0, 0, 0⟩
theorem turns_ins (c : Co) : insB c turnI = true := by rfl
theorem turns_last (c : Co) (a : Int) : insB c ⟨25, 0, 0, 0, a⟩ = wB a 0 8192 := by
  unfold insB opB
  simp
theorem turns_check (g n : Nat) (bA : Option Addr) (bc : Nat) (hn : 1 ≤ n) (h50 : n ≤ 50) : checkB (oneFn g bA bc (List.replicate n turnI)) = true := by
  unfold checkB
  rw [Bool.and_eq_true]
  constructor
  · simp [shapeB, oneFn, fnsB, fnB, wB, List.length_replicate]
    omega
  · rw [List.all_eq_true]
    intro x hx
    rw [show (oneFn g bA bc (List.replicate n turnI)).body = List.replicate n turnI from rfl] at hx
    rw [List.eq_of_mem_replicate hx]
    exact turns_ins _
theorem turns_check2 (g n : Nat) (bA : Option Addr) (bc : Nat) (a : Int) (hn : 1 ≤ n) (h50 : n ≤ 50) : checkB (oneFn g bA bc (List.replicate n turnI ++ [⟨25, 0, 0, 0, a⟩])) = wB a 0 8192 := by
  unfold checkB
  rw [show shapeB (oneFn g bA bc (List.replicate n turnI ++ [⟨25, 0, 0, 0, a⟩])) = true by
    simp [shapeB, oneFn, fnsB, fnB, wB, List.length_replicate]
    omega]
  rw [show (oneFn g bA bc (List.replicate n turnI ++ [⟨25, 0, 0, 0, a⟩])).body = List.replicate n turnI ++ [⟨25, 0, 0, 0, a⟩] from rfl, List.all_append]
  rw [show (List.replicate n turnI).all (insB (oneFn g bA bc (List.replicate n turnI ++ [⟨25, 0, 0, 0, a⟩]))) = true by
    rw [List.all_eq_true]
    intro x hx
    rw [List.eq_of_mem_replicate hx]
    exact turns_ins _]
  simp [turns_last]
/-- The code under way: its box, its one function, its instructions. -/
structure TuR (w wr : World) (g b : Nat) (v : Value) (body : List Ins) : Prop where
  fn : wr.heap[g]? = some (.cells #[.int .i64 0, .int .i64 0, .slice none 0 0] 26 (0, 0))
  bx : wr.heap[b]? = some (.cells #[.slice none 0 0, .int .i64 0, .int .i64 0, .slice none 0 0, .slice (some ⟨g, 0, none⟩) 1 1, .int .i64 0, v] 31 (0, 0))
  row : Row wr 34 5 v body.length (icells body)
  gb : g ≠ b
  gv : g ∉ blk v
  bv : b ∉ blk v
  g0 : w.heap.size ≤ g
  b0 : w.heap.size ≤ b
  v0 : ∀ x ∈ blk v, w.heap.size ≤ x
  bl : Below w.heap.size w wr
theorem TuR.later {w wr w' : World} {g b : Nat} {v : Value} {body : List Ins} (h : TuR w wr g b v body) (hb : Below wr.heap.size wr w') : TuR w w' g b v body :=
  ⟨blk_later hb h.fn, blk_later hb h.bx, h.row.kept (Kept.ofBelow hb []) (by simp), h.gb, h.gv, h.bv, h.g0, h.b0, h.v0, below_next h.bl hb⟩
theorem TuR.code {w wr : World} {g b : Nat} {A : Option Addr} {n c : Nat} {body : List Ins} (h : TuR w wr g b (.slice A n c) body) (hl : body.length ≤ 140737488351232) : n = body.length ∧ (oneFn g A c body).Rep wr := by
  obtain ⟨A2, c2, e, h1, h2, h3, h4⟩ := h.row.form
  injection e with e1 e2 e3
  subst e1 e2 e3
  refine ⟨rfl, oneFn_rep h.fn (fun hp => ?_) hl⟩
  have hn : 0 < body.length := by
    rcases Nat.eq_zero_or_pos body.length with h0 | h0
    · rw [List.eq_nil_of_length_eq_zero h0] at hp; simp [icells] at hp
    · exact h0
  obtain ⟨g2, cap, e, _, _, _, _, hcell, _⟩ := h.row.mid hn
  injection e with e1 _ _
  exact ⟨g2, 0, e1, fun j hj => by rw [Nat.zero_add]; exact hcell j _ (List.getElem?_eq_getElem hj)⟩
theorem TuR.cells {w wr : World} {g b : Nat} {v : Value} {body : List Ins} (h : TuR w wr g b v body) : wr.cell? ⟨b, 0, none⟩ = some (.slice none 0 0) ∧ wr.cell? ⟨b, 1, none⟩ = some (.int .i64 0) ∧ wr.cell? ⟨b, 2, none⟩ = some (.int .i64 0) ∧ wr.cell? ⟨b, 3, none⟩ = some (.slice none 0 0) ∧ wr.cell? ⟨b, 4, none⟩ = some (.slice (some ⟨g, 0, none⟩) 1 1) ∧ wr.cell? ⟨b, 5, none⟩ = some (.int .i64 0) ∧ wr.cell? ⟨b, 6, none⟩ = some v ∧ wr.frozen? ⟨b, 6, none⟩ = false ∧ b < wr.heap.size :=
  ⟨by rw [blk_cell h.bx]; rfl, by rw [blk_cell h.bx]; rfl, by rw [blk_cell h.bx]; rfl, by rw [blk_cell h.bx]; rfl, by rw [blk_cell h.bx]; rfl, by rw [blk_cell h.bx]; rfl, by rw [blk_cell h.bx]; rfl, blk_free h.bx _, blk_lt h.bx⟩
/-- One instruction more. -/
theorem TuR.push {w wr w3 : World} {g b : Nat} {v v1 : Value} {body : List Ins} {x : Ins} (h : TuR w wr g b v body) (o : Obj) (hr : Row w3 34 5 v1 (body.length + 1) (icells body ++ x.cells)) (hk : Kept (blk v) (wr.alloc o) w3) (hb : ∀ y ∈ blk v1, y ∈ blk v ∨ (wr.alloc o).heap.size ≤ y) :
    TuR w (w3.setCell ⟨b, 6, none⟩ v1) g b v1 (body ++ [x]) := by
  have hg := blk_lt h.fn
  have hbx := blk_lt h.bx
  have ha : ∀ y ∈ blk v1, y ≠ g ∧ y ≠ b ∧ w.heap.size ≤ y := fun y hy => by
    rcases hb y hy with h1 | h1
    · exact ⟨fun e => h.gv (e ▸ h1), fun e => h.bv (e ▸ h1), h.v0 y h1⟩
    · simp at h1
      have := h.bl.size
      exact ⟨by omega, by omega, by omega⟩
  have hf := hk.heap (blk_alloc h.fn o) h.gv
  have hx := hk.heap (blk_alloc h.bx o) h.bv
  have hsz : wr.heap.size ≤ (wr.alloc o).heap.size := by simp
  refine ⟨blk_set_ne hf _ _ h.gb, ?_, ?_, h.gb, fun hm => (ha g hm).1 rfl, fun hm => (ha b hm).2.1 rfl, h.g0, h.b0, fun y hy => (ha y hy).2.2, ?_⟩
  · rw [blk_set hx]
    rfl
  · have e : icells (body ++ [x]) = icells body ++ x.cells := by simp [icells]
    rw [e]
    simp only [List.length_append, List.length_singleton]
    exact hr.kept ((Kept.refl [b] w3).set ⟨b, 6, none⟩ v1 (.inl (by simp))) (fun y hy => by have := (ha y hy).2.1; simpa using this)
  · exact ((below_alloc h.bl o).trans (hk.below h.v0 (below_alloc h.bl o).size)).setCell h.b0 _
theorem lt_alloc {w : World} {b : Nat} (h : b < w.heap.size) (o : Obj) : b < (w.alloc o).heap.size := by simp; omega
theorem check_at {w : World} (g k : Nat) (A : Option Addr) (c : Nat) (body : List Ins) (hk : body.length = k) (h : (oneFn g A c body).Rep w) (ec : Addr) (hE : Errs w ec) :
    Calls Tryd.prog 10 #[.agg #[.slice none 0 0, .int .i64 0, .int .i64 0, .slice none 0 0, .slice (some ⟨g, 0, none⟩) 1 1, .int .i64 0, .slice A k c]] w (Ret w (checkV (oneFn g A c body) ec)) := by
  subst hk
  exact check_any (oneFn g A c body) w h ec hE
theorem row_len {w : World} {e : TypeId} {v : Value} {k : Nat} {cs : List Value} (h : Row w e 5 v (k + 1) cs) : Row w e 5 v ((List.replicate k turnI).length + 1) cs := by rw [List.length_replicate]; exact h
theorem infoIns : (Tryd.prog.info? 34).map (fun i => (i.zero, i.size, i.bytes)) = some (some (.agg #[.int .i64 0, .int .i64 0, .int .i64 0, .int .u64 0, .int .i64 0]), 5, 40) := by kernel_rfl
set_option maxRecDepth 100000 in
set_option maxHeartbeats 4000000 in
theorem turns_law (m a : Int) (w : World) (ec : Addr) (hE : Errs w ec) : Calls Tryd.prog 3 #[.int .i64 m, .int .i64 a] w (Ret w (.bool true)) := by
  have HA := Lib.hid (alive_any w ec hE)
  have HE := Lib.hid hE
  clear hE
  obtain ⟨r, hr, er⟩ := mod_nat m 50 (by omega) (by omega)
  have er : wrap64 ((IntKind.u64.wrap m).tmod 50) = (r : Int) := er
  have r50 : (r : Int) < 50 := by omega
  have r0 : (0 : Int) ≤ (r : Int) := by omega
  go_enter Tryd.func3, Tryd.ntmps3
  go_wp2_with fail
  refine HA.out.mono ?_
  rintro e w1 ⟨rfl, hb1⟩
  have HB1 := Lib.hid hb1
  clear hb1 HA
  go_wp2_with fail
  have H0 : Hid (TuR w ((w1.alloc (.cells #[.int .i64 0, .int .i64 0, .slice none 0 0] 26)).alloc (.cells #[.slice none 0 0, .int .i64 0, .int .i64 0, .slice none 0 0, .slice (some ⟨w1.heap.size, 0, none⟩) 1 1, .int .i64 0, .slice none 0 0] 31)) w1.heap.size (w1.heap.size + 1) (.slice none 0 0) (List.replicate 0 turnI)) :=
    ⟨blk_alloc (blk_new w1 _) _, blk_new2 w1 _ _, Row.empty _ _ _ _, by omega, by simp [blk], by simp [blk], HB1.out.size, by have := HB1.out.size; omega, by simp [blk], below_alloc (below_alloc HB1.out _) _⟩
  generalize ((w1.alloc (.cells #[.int .i64 0, .int .i64 0, .slice none 0 0] 26)).alloc (.cells #[.slice none 0 0, .int .i64 0, .int .i64 0, .slice none 0 0, .slice (some ⟨w1.heap.size, 0, none⟩) 1 1, .int .i64 0, .slice none 0 0] 31)) = W0 at H0 ⊢
  clear HB1
  rw [er]
  clear er
  go_loopw [17] (fun iv wr => ∃ (k : Nat) (A : Option Addr) (c : Nat), k ≤ r + 1 ∧ iv = .int .i64 k ∧ Hid (TuR w wr w1.heap.size (w1.heap.size + 1) (.slice A k c) (List.replicate k turnI))) (fun iv _ => r + 1 - (intOf iv).toNat)
  case atStart => exact ⟨0, _, _, Nat.zero_le _, rfl, H0⟩
  case round =>
    clear H0
    obtain ⟨k, A, c, hk, rfl, hP⟩ := hrel
    obtain ⟨q0, q1, q2, q3, q4, q5, q6, q7, q8⟩ := hP.out.cells
    by_cases hlt : k < r + 1
    · have d1 : decide ((k : Int) < 1 + (r : Int)) = true := decide_eq_true (by omega)
      clear q0 q1 q2 q3 q4 q5
      go_wp2_with (at_builtin; refine append_row (by rfl) _ _ _ 34 _ 5 40 (by rfl) Tryd.underlying29 infoIns (by rfl) (by omega) (.slice A k c) k (icells (List.replicate k turnI)) (by rfl) (by have := (hP.out.later (below_alloc (Below.refl wr.heap.size wr) (.cells #[.int .i64 24, .int .i64 0, .int .i64 0, .int .u64 0, .int .i64 0] 34))).row; rw [List.length_replicate] at this; exact this) (some ⟨wr.heap.size, 0, none⟩) 1 1 turnI.cells (by rfl) (by rfl) (by simp) (by omega) (rd_blk0 (T := 34) (cs := turnI.cells) (blk_new wr _) (by simp [maxLen, turnI, Ins.cells])) (by simp [Value.oneCell', turnI, Ins.cells]) (by simp only [maxLen]; omega) (by omega) ?_; intro v1 w3 hrow3 hkk hb3; obtain ⟨A3, c3, rfl, _⟩ := hrow3.form; have hz3 := hkk.cell (a := ⟨w1.heap.size + 1, 6, none⟩) (cell_later (below_alloc (Below.refl wr.heap.size wr) _) q6) hP.out.bv; have hf3 := (hkk.frozen (a := ⟨w1.heap.size + 1, 6, none⟩) (lt_alloc q8 _) hP.out.bv).trans (((below_alloc (Below.refl wr.heap.size wr) _).frozen (p := ⟨w1.heap.size + 1, 6, none⟩) q8).trans q7); have hs3 := Nat.lt_of_lt_of_le (lt_alloc q8 _) hkk.size)
      have HN : Hid (TuR w (w3.setCell ⟨w1.heap.size + 1, 6, none⟩ (.slice A3 (k + 1) c3)) w1.heap.size (w1.heap.size + 1) (.slice A3 (k + 1) c3) (List.replicate (k + 1) turnI)) := by
        rw [List.replicate_succ']
        exact hP.out.push _ (by rw [List.length_replicate]; exact hrow3) hkk hb3
      clear hP hrow3 hkk hb3 q6 q7 q8
      go_wp2_with fail
      go_roundw
      case rel => exact ⟨k + 1, A3, c3, by omega, by go_num, HN⟩
      case measure => simp [intOf]; omega
    · have d1 : decide ((k : Int) < 1 + (r : Int)) = false := decide_eq_false (by omega)
      have ek : k = r + 1 := by omega
      have HK := Lib.hid ek
      clear ek
      have HC := Lib.hid (hP.out.code (by rw [List.length_replicate]; omega))
      go_wp2_with fail
      refine (check_at w1.heap.size k A c (List.replicate k turnI) (by rw [List.length_replicate]) HC.out.2 ec (HE.out.later hP.out.bl)).mono ?_
      rintro e w2 ⟨rfl, hb2⟩
      rw [show checkV (oneFn w1.heap.size A c (List.replicate k turnI)) ec = .nilIface by unfold checkV; rw [turns_check _ _ _ _ (by have := HK.out; omega) (by have := HK.out; omega)]; rfl]
      have HP2 := Lib.hid (hP.out.later hb2)
      clear hP hb2 q0 q1 q2 q3 q4 q5 q6 q7 q8 HC
      obtain ⟨q0, q1, q2, q3, q4, q5, q6, q7, q8⟩ := HP2.out.cells
      clear q0 q1 q2 q3 q4 q5
      have k51 : k ≤ 50 := by have := HK.out; omega
      go_wp2_with (at_builtin; refine append_row (by rfl) _ _ _ 34 _ 5 40 (by rfl) Tryd.underlying29 infoIns (by rfl) (by omega) (.slice A k c) k (icells (List.replicate k turnI)) (by rfl) (by have := (HP2.out.later (below_alloc (Below.refl w2.heap.size w2) (.cells #[.int .i64 25, .int .i64 0, .int .i64 0, .int .u64 0, .int .i64 a] 34))).row; rw [List.length_replicate] at this; exact this) (some ⟨w2.heap.size, 0, none⟩) 1 1 (Ins.cells ⟨25, 0, 0, 0, a⟩) (by rfl) (by rfl) (by simp) (by omega) (rd_blk0 (T := 34) (cs := Ins.cells ⟨25, 0, 0, 0, a⟩) (blk_new w2 _) (by simp [maxLen, Ins.cells])) (by simp [Value.oneCell', Ins.cells]) (by simp only [maxLen]; omega) (by omega) ?_; intro v1 w3 hrow3 hkk hb3; obtain ⟨A3, c3, rfl, _⟩ := hrow3.form; have hz3 := hkk.cell (a := ⟨w1.heap.size + 1, 6, none⟩) (cell_later (below_alloc (Below.refl w2.heap.size w2) _) q6) HP2.out.bv; have hf3 := (hkk.frozen (a := ⟨w1.heap.size + 1, 6, none⟩) (lt_alloc q8 _) HP2.out.bv).trans (((below_alloc (Below.refl w2.heap.size w2) _).frozen (p := ⟨w1.heap.size + 1, 6, none⟩) q8).trans q7); have hs3 := Nat.lt_of_lt_of_le (lt_alloc q8 _) hkk.size; have HN := Lib.hid (HP2.out.push (x := ⟨25, 0, 0, 0, a⟩) _ (row_len hrow3) hkk hb3); have qs := HN.out.cells)
      clear q6 q7 q8 hrow3 hkk hb3 hz3 hf3 hs3 HP2
      obtain ⟨q0, q1, q2, q3, q4, q5, q6, q7, q8⟩ := qs
      have HC := Lib.hid (HN.out.code (by simp; omega))
      generalize w3.setCell ⟨w1.heap.size + 1, 6, none⟩ (.slice A3 (k + 1) c3) = w4 at HN HC q0 q1 q2 q3 q4 q5 q6 q7 q8 ⊢
      obtain ⟨z, hz⟩ : ∃ z, wB a 0 8192 = z := ⟨_, rfl⟩
      have HV : Hid (checkV (oneFn w1.heap.size A3 c3 (List.replicate k turnI ++ [⟨25, 0, 0, 0, a⟩])) ec = if z = true then .nilIface else errV ec) := by
        show _ = _
        unfold checkV
        rw [turns_check2 _ _ _ _ _ (by have := HK.out; omega) (by have := HK.out; omega), hz]
      have HL : Hid ((List.replicate k turnI ++ [(⟨25, 0, 0, 0, a⟩ : Ins)]).length = k + 1) := by show _ = _; simp
      have HZ := Lib.hid hz
      clear hz HK k51
      go_wp2_with fail
      refine (check_at w1.heap.size (k + 1) A3 c3 _ HL.out HC.out.2 ec (HE.out.later HN.out.bl)).mono ?_
      rintro e w5 ⟨rfl, hb5⟩
      rw [HV.out]
      have HB5 := Lib.hid (below_next HN.out.bl hb5)
      clear hb5 q0 q1 q2 q3 q4 q5 q6 q7 q8 HC HN
      cases z
      · rw [if_neg (by simp)]
        unfold errV
        by_cases h0 : 0 ≤ a
        · have h1 : ¬ a ≤ 8192 := fun h => by have := HZ.out; rw [wB_t h0 h] at this; cases this
          have d0 : decide (0 ≤ a) = true := decide_eq_true h0
          have d2 : decide (a ≤ 8192) = false := decide_eq_false h1
          go_wp2_with fail
          go_ret
          exact ⟨rfl, HB5.out⟩
        · have d0 : decide (0 ≤ a) = false := decide_eq_false h0
          go_wp2_with fail
          go_ret
          exact ⟨rfl, HB5.out⟩
      · rw [if_pos rfl]
        obtain ⟨h0, h1⟩ := (wB_iff _ _ _).1 HZ.out
        have d0 : decide (0 ≤ a) = true := decide_eq_true h0
        have d2 : decide (a ≤ 8192) = true := decide_eq_true h1
        go_wp2_with fail
        go_ret
        exact ⟨rfl, HB5.out⟩
end Go.Proofs.YtbpbimkadiobfaaDoor
