/-
  The number of an error: nil is 0, a sentinel its place in the document's table.
-/
import Derived.Test.YtbpbimkadiobfaaDoorIs
import Derived.Test.YtbpbimkadiobfaaDoorSent
namespace Go.Proofs.YtbpbimkadiobfaaDoor
open Go.RowKit Go.Stk

/-- The 17 errors' variables, in the document's order. -/
def errGs : List Nat := [1, 2, 3, 4, 5, 6, 7, 8, 0, 9, 10, 11, 12, 13, 14, 15, 16]

theorem num_nil (w : World) : Calls Tryd.prog 21 #[.nilIface] w fun e w' => e = .returned (.int .i64 0) ∧ Below w.heap.size w w' := by
  go_enter Tryd.func21, Tryd.ntmps21
  go_wp2
  go_ret
  exact ⟨rfl, Below.refl _ _⟩

theorem seventeen {ads : List Addr} (h : ads.length = 17) : ∃ e0 e1 e2 e3 e4 e5 e6 e7 e8 e9 e10 e11 e12 e13 e14 e15 e16, ads = [e0, e1, e2, e3, e4, e5, e6, e7, e8, e9, e10, e11, e12, e13, e14, e15, e16] := by
  match ads, h with
  | [e0, e1, e2, e3, e4, e5, e6, e7, e8, e9, e10, e11, e12, e13, e14, e15, e16], _ => exact ⟨e0, e1, e2, e3, e4, e5, e6, e7, e8, e9, e10, e11, e12, e13, e14, e15, e16, rfl⟩

def nErrV (a : Addr) : Value := .iface 116 (.pointer (some a))

set_option maxHeartbeats 4000000 in
theorem num_err (w : World) (ads : List Addr) (hS : Sent w 116 errGs ads) (p : Nat) (a : Addr) (hp : ads[p]? = some a) :
    Calls Tryd.prog 21 #[.iface 116 (.pointer (some a))] w fun e w' => e = .returned (.int .i64 ((p : Int) + 1)) ∧ Below w.heap.size w w' := by
  have hlen := hS.len
  obtain ⟨e0, e1, e2, e3, e4, e5, e6, e7, e8, e9, e10, e11, e12, e13, e14, e15, e16, he⟩ := seventeen (hlen.trans rfl)
  have hp17 : p < 17 := by
    have := (List.getElem?_eq_some_iff.1 hp).1
    rw [hlen] at this
    exact this
  have hall : ∀ k, k < 17 → ∃ b, ads[k]? = some b := fun k hk => ⟨_, List.getElem?_eq_getElem (show k < ads.length by rw [hlen]; exact hk)⟩
  have HALL := Lib.hid hall
  clear hall
  have HL := Lib.hid hlen
  clear hlen
  have HP := Lib.hid hp
  clear hp
  have g0 : w.cell? ⟨1, 0, none⟩ = some (.iface 116 (.pointer (some e0))) := hS.var 0 _ _ rfl (by rw [he]; rfl)
  have g1 : w.cell? ⟨2, 0, none⟩ = some (.iface 116 (.pointer (some e1))) := hS.var 1 _ _ rfl (by rw [he]; rfl)
  have g2 : w.cell? ⟨3, 0, none⟩ = some (.iface 116 (.pointer (some e2))) := hS.var 2 _ _ rfl (by rw [he]; rfl)
  have g3 : w.cell? ⟨4, 0, none⟩ = some (.iface 116 (.pointer (some e3))) := hS.var 3 _ _ rfl (by rw [he]; rfl)
  have g4 : w.cell? ⟨5, 0, none⟩ = some (.iface 116 (.pointer (some e4))) := hS.var 4 _ _ rfl (by rw [he]; rfl)
  have g5 : w.cell? ⟨6, 0, none⟩ = some (.iface 116 (.pointer (some e5))) := hS.var 5 _ _ rfl (by rw [he]; rfl)
  have g6 : w.cell? ⟨7, 0, none⟩ = some (.iface 116 (.pointer (some e6))) := hS.var 6 _ _ rfl (by rw [he]; rfl)
  have g7 : w.cell? ⟨8, 0, none⟩ = some (.iface 116 (.pointer (some e7))) := hS.var 7 _ _ rfl (by rw [he]; rfl)
  have g8 : w.cell? ⟨0, 0, none⟩ = some (.iface 116 (.pointer (some e8))) := hS.var 8 _ _ rfl (by rw [he]; rfl)
  have g9 : w.cell? ⟨9, 0, none⟩ = some (.iface 116 (.pointer (some e9))) := hS.var 9 _ _ rfl (by rw [he]; rfl)
  have g10 : w.cell? ⟨10, 0, none⟩ = some (.iface 116 (.pointer (some e10))) := hS.var 10 _ _ rfl (by rw [he]; rfl)
  have g11 : w.cell? ⟨11, 0, none⟩ = some (.iface 116 (.pointer (some e11))) := hS.var 11 _ _ rfl (by rw [he]; rfl)
  have g12 : w.cell? ⟨12, 0, none⟩ = some (.iface 116 (.pointer (some e12))) := hS.var 12 _ _ rfl (by rw [he]; rfl)
  have g13 : w.cell? ⟨13, 0, none⟩ = some (.iface 116 (.pointer (some e13))) := hS.var 13 _ _ rfl (by rw [he]; rfl)
  have g14 : w.cell? ⟨14, 0, none⟩ = some (.iface 116 (.pointer (some e14))) := hS.var 14 _ _ rfl (by rw [he]; rfl)
  have g15 : w.cell? ⟨15, 0, none⟩ = some (.iface 116 (.pointer (some e15))) := hS.var 15 _ _ rfl (by rw [he]; rfl)
  have g16 : w.cell? ⟨16, 0, none⟩ = some (.iface 116 (.pointer (some e16))) := hS.var 16 _ _ rfl (by rw [he]; rfl)
  have HE := Lib.hid he
  clear he
  go_enter Tryd.func21, Tryd.ntmps21
  go_wp2_with fail
  obtain ⟨W, hW⟩ : ∃ W, W = w.alloc (.cells #[.iface 116 (.pointer (some e0)), .iface 116 (.pointer (some e1)), .iface 116 (.pointer (some e2)), .iface 116 (.pointer (some e3)), .iface 116 (.pointer (some e4)), .iface 116 (.pointer (some e5)), .iface 116 (.pointer (some e6)), .iface 116 (.pointer (some e7)), .iface 116 (.pointer (some e8)), .iface 116 (.pointer (some e9)), .iface 116 (.pointer (some e10)), .iface 116 (.pointer (some e11)), .iface 116 (.pointer (some e12)), .iface 116 (.pointer (some e13)), .iface 116 (.pointer (some e14)), .iface 116 (.pointer (some e15)), .iface 116 (.pointer (some e16))] 36) := ⟨_, rfl⟩
  have hb : Below w.heap.size w W := by rw [hW]; exact (Below.refl _ _).alloc (Nat.le_refl _) _
  have hcells : Hid (∀ k b, ads[k]? = some b → W.cell? ⟨w.heap.size, k, none⟩ = some (.iface 116 (.pointer (some b)))) := by
    intro k b hk
    rw [hW, World.cell?_alloc_new]
    rw [HE.out] at hk
    have h1 : (([e0, e1, e2, e3, e4, e5, e6, e7, e8, e9, e10, e11, e12, e13, e14, e15, e16] : List Addr).map nErrV)[k]? = some (nErrV b) := by rw [List.getElem?_map, hk]; rfl
    simpa [nErrV] using h1
  rw [← hW]
  clear hW g0 g1 g2 g3 g4 g5 g6 g7 g8 g9 g10 g11 g12 g13 g14 g15 g16
  have hSW := hS.later hb
  go_loop [28] (fun i => ∃ k : Nat, k ≤ p ∧ i = .int .i64 k) (fun i => p - (intOf i).toNat)
  case atStart => exact ⟨0, Nat.zero_le _, rfl⟩
  case round =>
    obtain ⟨k, hk, rfl⟩ := hrel
    obtain ⟨b, hbk⟩ := HALL.out k (by omega)
    have hc := hcells.out k b hbk
    have hlt : k < 17 := by omega
    by_cases hkp : k = p
    · subst hkp
      obtain rfl : b = a := by
        have h1 := HP.out
        rw [hbk] at h1
        exact Option.some.inj h1
      clear hbk
      go_wp2_with fail
      refine (is_same b W).mono ?_
      rintro e w' ⟨rfl, rfl⟩
      go_wp2_with fail
      go_ret
      exact ⟨rfl, hb⟩
    · have hne : a ≠ b := by
        intro e
        subst e
        have h1 : p < ads.length := (List.getElem?_eq_some_iff.1 HP.out).1
        have h2 : k < ads.length := (List.getElem?_eq_some_iff.1 hbk).1
        have h3 : ads[k] = ads[p] := by
          rw [(List.getElem?_eq_some_iff.1 hbk).2, (List.getElem?_eq_some_iff.1 HP.out).2]
        exact hkp ((List.getElem_inj hSW.nodup).1 h3)
      obtain ⟨ca, ta, ra⟩ := hSW.row p a HP.out
      obtain ⟨cb, tb, rb⟩ := hSW.row k b hbk
      have RA := Lib.hid ra
      have RB := Lib.hid rb
      clear ra rb hbk
      go_wp2_with fail
      refine (is_other a b ca cb ta tb W hne RA.out RB.out).mono ?_
      rintro e w' ⟨rfl, rfl⟩
      go_wp2_with fail
      go_round
      case rel => exact ⟨k + 1, by omega, by go_num⟩
      case measure => simp [intOf]; omega
end Go.Proofs.YtbpbimkadiobfaaDoor
