/-
  PoolPlays: both ways; its arguments.
-/
import Derived.Test.YtpjphmpebegidaaDoorPool35
import Derived.Test.YtpjphmpebegidaaDoorArgs02
import Derived.Test.YtpjphmpebegidaaDoorOpen2
namespace Go.Proofs.YtpjphmpebegidaaDoor
open Go.RowKit Go.Stk

theorem top64 {n : Int} (h : (Lit.int .i64 n).wf = true) : n ≤ 9223372036854775807 := by
  have h1 : IntKind.i64.min ≤ n ∧ n ≤ 9223372036854775807 := by simpa [Lit.wf] using h
  exact h1.2
theorem cells_int2 : Tryd.prog.cellsOf 3 = 1 := by kernel_rfl
theorem bytes_int2 : Tryd.prog.bytesOf 3 = 8 := by kernel_rfl
theorem reach_is2 : reachBytes = 140737488351232 := by rfl
def I64 (n : Int) : Prop := -9223372036854775808 ≤ n ∧ n ≤ 9223372036854775807
theorem opns_int : OpnS Tryd.prog 3 fun _ cs => ∃ n : Int, cs = [.int .i64 n] ∧ I64 n := (opn_i64 Tryd.underlying3).s
theorem opns_ints : OpnS Tryd.prog 37 fun w cs => ∃ A c, ∃ os : List Int, cs = [.slice A os.length c] ∧ os.length ≤ c ∧ c ≤ maxLen ∧ (A = none → c = 0) ∧ Rs w A (ints os) ∧ os.length ≤ 17592186043904 ∧ ∀ o ∈ os, I64 o :=
  (opns_slice Tryd.underlying37 cells_int2 (by omega) (fun n : Int => [Value.int .i64 n]) (fun _ => rfl) (fun _ n => I64 n) opns_int).mono fun w cs ⟨A, c, os, h1, h2, h3, h4, h5, h6, h7⟩ => by
    rw [bytes_int2, reach_is2] at h6
    rw [flat_ints] at h5
    exact ⟨A, c, os, h1, h2, h3, h4, h5, by omega, h7⟩
theorem plays_law (pages : Int) (xs : List Int) (os : List Op4) (A D : Option Addr) (c d : Nat) (w : World) (hx : Rs w A (ints xs)) (hnil : A = none → c = 0) (hl : xs.length ≤ 17592186043904) (hp64 : pages ≤ 9223372036854775807) (hy : Rs w D (ocells os)) (hol0 : os.length ≤ 9223372036854775807) (hos : ∀ o ∈ os, o.t ≤ 9223372036854775807 ∧ o.v ≤ 9223372036854775807) (ads : List Addr) (hS : Sent w 94 errGs ads) (er en ea : Addr) (hE : Errs w er en ea) (h0 : ads[0]? = some er) (h7 : ads[7]? = some en) (h13 : ads[13]? = some ea) :
    Calls Tryd.prog 8 #[.int .i64 pages, .slice A xs.length c, .slice D os.length d] w (Ret w (.bool true)) := by
  have hx' : RI w A xs := Rs.rd hx (by rw [ints_length]; simp only [maxLen]; omega)
  cases hok : newOk pages xs with
  | false => exact plays_bad pages xs os A D c d w hx' hnil hl hp64 ads hS er en ea hE h0 h7 h13 hok
  | true =>
    have h1 := (newOk_size hok).1
    obtain ⟨np, rfl⟩ : ∃ np : Nat, pages = np := ⟨pages.toNat, by omega⟩
    exact plays_ok np xs os A D c d w hx' hnil hy hol0 hos ads hS er en ea hE h0 h7 h13 hok
end Go.Proofs.YtpjphmpebegidaaDoor
