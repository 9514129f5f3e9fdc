/-
  A code's form asked.
-/
import Derived.Test.YtbpbimkadiobfaaDoorCode6
import Derived.Test.YtbpbimkadiobfaaDoorCode9
namespace Go.Proofs.YtbpbimkadiobfaaDoor
open Go.RowKit Go.Stk

theorem bnd_of (c : Co) (h : shapeB c = true) : Bnd c := by
  unfold shapeB at h
  simp only [Bool.and_eq_true, decide_eq_true_eq] at h
  obtain ⟨h1, h2, h3, h4, h5, h6, h7, _⟩ := h
  have m := (wB_iff _ _ _).1 h2
  have a := (wB_iff _ _ _).1 h3
  exact ⟨h1, m.1, m.2, a.1, a.2, by omega, h5, h6⟩
theorem checkC_any (c : Co) (x : Ins) (b : Nat) (w : World) (h : c.Rep w) (hb : Bnd c) (hbx : Co.Box w b c) :
    Calls Tryd.prog 29 (#[x.agg] ++ #[.pointer (some ⟨b, 0, none⟩)]) w (Ret w (.bool (!insB c x))) := by
  obtain ⟨q0, q1, q2, q3, q4, q5, q6⟩ := hbx.later (below_alloc (Below.refl w.heap.size w) (.cells #[.int .i64 x.op, .int .i64 x.a, .int .i64 x.b, .int .u64 x.bits, .int .i64 x.at_] 34))
  have HB := Lib.hid (below_alloc (Below.refl w.heap.size w) (.cells #[.int .i64 x.op, .int .i64 x.a, .int .i64 x.b, .int .u64 x.bits, .int .i64 x.at_] 34))
  have HI := Lib.hid (instr_any c x _ (h.later HB.out) hb)
  clear h hb hbx
  show Calls Tryd.prog 29 #[x.agg, .pointer (some ⟨b, 0, none⟩)] w _
  unfold Ins.agg
  go_enter Tryd.func29, Tryd.ntmps29
  go_wp2_with fail
  refine HI.out.mono ?_
  rintro e w1 ⟨rfl, hb1⟩
  have HB2 := Lib.hid (below_next HB.out hb1)
  clear hb1
  obtain ⟨z, hz⟩ : ∃ z, insB c x = z := ⟨_, rfl⟩
  rw [hz]
  have HZ := Lib.hid hz
  clear hz
  cases z
  · go_wp2_with fail
    go_ret
    exact ⟨by rw [HZ.out]; rfl, HB2.out⟩
  · go_wp2_with fail
    go_ret
    exact ⟨by rw [HZ.out]; rfl, HB2.out⟩
/-- Is a code in form? -/
def checkB (c : Co) : Bool := shapeB c && c.body.all (insB c)
def errV (a : Addr) : Value := .iface 116 (.pointer (some a))
/-- What is answered. -/
def checkV (c : Co) (ec : Addr) : Value := if checkB c = true then .nilIface else errV ec
structure Errs (w : World) (ec : Addr) : Prop where
  c : w.cell? ⟨0, 0, none⟩ = some (.iface 116 (.pointer (some ec)))
theorem Errs.later {w w' : World} {ec : Addr} (h : Errs w ec) (hb : Below w.heap.size w w') : Errs w' ec := ⟨cell_later hb h.c⟩
set_option maxRecDepth 100000 in
set_option maxHeartbeats 4000000 in
theorem check_any (c : Co) (w : World) (h : c.Rep w) (ec : Addr) (hE : Errs w ec) : Calls Tryd.prog 10 #[c.agg] w (Ret w (checkV c ec)) := by
  have hlb := h.lb
  have HB := Lib.hid (below_alloc (Below.refl w.heap.size w) (.cells #[.slice c.pA c.places.length c.pc, .int .i64 c.mux, .int .i64 c.ato, .slice c.cA c.chans.length c.cc, .slice c.fA c.funcs.length c.fc, .int .i64 c.start, .slice c.bA c.body.length c.bc] 31))
  have HS := Lib.hid (shape_any c _ (h.later HB.out))
  have HBX := Lib.hid (Co.box_new w c 31)
  have HR := Lib.hid (h.later HB.out)
  have HE := Lib.hid (hE.later HB.out)
  clear h hE
  unfold Co.agg
  by_cases hs : shapeB c = true
  · have HSS := Lib.hid hs
    have hbd := bnd_of c hs
    have e29 : ∀ (xs : Array Value) (W : World), (callFunc 29 xs).run Tryd.prog W = .ok (.enter 29 xs) W := fun xs W => by simp [go_sem]
    have HK := Lib.hid (fun (W : World) (hbl : Below (w.alloc (.cells #[.slice c.pA c.places.length c.pc, .int .i64 c.mux, .int .i64 c.ato, .slice c.cA c.chans.length c.cc, .slice c.fA c.funcs.length c.fc, .int .i64 c.start, .slice c.bA c.body.length c.bc] 31)).heap.size (w.alloc (.cells #[.slice c.pA c.places.length c.pc, .int .i64 c.mux, .int .i64 c.ato, .slice c.cA c.chans.length c.cc, .slice c.fA c.funcs.length c.fc, .int .i64 c.start, .slice c.bA c.body.length c.bc] 31)) W) =>
      containsIns_any c.body 29 #[.pointer (some ⟨w.heap.size, 0, none⟩)] (fun x => !insB c x) c.bA c.bc W (by omega) (HR.out.later hbl).bo e29 fun x W2 hb2 => checkC_any c x w.heap.size W2 ((HR.out.later hbl).later hb2) hbd ((HBX.out.later hbl).later hb2))
    clear hs hbd e29
    go_enter Tryd.func10, Tryd.ntmps10
    go_wp2_with fail
    refine HS.out.mono ?_
    rintro e w1 ⟨rfl, hb1⟩
    rw [HSS.out]
    have HB1 := Lib.hid hb1
    obtain ⟨q0, q1, q2, q3, q4, q5, q6⟩ := HBX.out.later hb1
    clear q0 q1 q2 q3 q4 q5 hb1
    go_wp2_with fail
    refine (HK.out w1 HB1.out).mono ?_
    rintro e w2 ⟨rfl, hb2⟩
    obtain ⟨z, hz⟩ : ∃ z, c.body.any (fun x => !insB c x) = z := ⟨_, rfl⟩
    rw [hz]
    have hc : checkB c = !z := by
      unfold checkB
      rw [HSS.out, ← hz, ← List.not_all_eq_any_not]
      simp
    have HC := Lib.hid hc
    have HB2 := Lib.hid (below_next HB1.out hb2)
    have he := (HE.out.later HB2.out).c
    clear hz hc hb2 q6
    cases z
    · go_wp2_with fail
      go_ret
      exact ⟨by unfold checkV; rw [HC.out]; rfl, below_next HB.out HB2.out⟩
    · go_wp2_with fail
      go_ret
      exact ⟨by unfold checkV; rw [HC.out]; rfl, below_next HB.out HB2.out⟩
  · have hf : shapeB c = false := by simpa using hs
    have HC : Hid (checkB c = false) := by show _ = _; unfold checkB; rw [hf]; rfl
    have HSS := Lib.hid hf
    clear hs hf
    go_enter Tryd.func10, Tryd.ntmps10
    go_wp2_with fail
    refine HS.out.mono ?_
    rintro e w1 ⟨rfl, hb1⟩
    rw [HSS.out]
    have he := (HE.out.later hb1).c
    have HB1 := Lib.hid (below_next HB.out hb1)
    clear hb1
    go_wp2_with fail
    go_ret
    exact ⟨by unfold checkV; rw [HC.out]; rfl, HB1.out⟩
end Go.Proofs.YtbpbimkadiobfaaDoor
