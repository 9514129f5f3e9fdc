/-
  PoolPlays: pools of all sizes; all calls on all arenas; each word.
-/
import Derived.Test.YtpjphmpebegidaaDoorPool33
import Derived.Test.YtpjphmpebegidaaDoorPool23
namespace Go.Proofs.YtpjphmpebegidaaDoor
open Go.RowKit Go.Stk
attribute [local go_sem ↓] Go.wp_at_zero Go.wp_at_succ

theorem PlR.empty {w wr : World} {L : PLay} {S : PS} {ys : List Nat} {A B : Option Addr} (h : PlR w wr L S ys (.slice A 0 0) (.slice B 0 0) []) (A' B' : Option Addr) : PlR w wr L S ys (.slice A' 0 0) (.slice B' 0 0) [] := by
  have hbl : ∀ A : Option Addr, blk (.slice A 0 0) = [] := fun A => by cases A <;> rfl
  exact ⟨h.rep, h.own, h.bl, h.alen, h.ars, h.mrep, h.mlen, by simp, h.mdis, Row.empty _ _ _ _, Row.empty _ _ _ _, by simp [hbl], by simp [hbl], h.rest⟩
theorem plr_z {np : Nat} {ys : List Nat} (hs : ys.sum ≤ np) {k : Nat} {a : Ar} (ha : (newPS np ys).ars[k]? = some a) : ZM a (newPS np ys).words [] := by
  obtain ⟨n, h1, rfl⟩ := newArs_at 0 ys k a ha
  have := take_sum_le ys k ys.length (List.getElem?_eq_some_iff.1 h1).1 _ h1
  rw [List.take_length] at this
  have e : (newPS np ys).words = List.replicate (np * 16) 0 := rfl
  rw [e]
  refine ZM.start _ _ _ (by rw [List.length_replicate]; omega) fun x hx => ?_
  rw [List.getElem?_replicate, if_pos (by omega)]
theorem PlR.cells {w wr : World} {L : PLay} {S : PS} {ys : List Nat} {gl gm n cl cm : Nat} {Ms : List MM} (h : PlR w wr L S ys (.slice (some ⟨gl, 0, none⟩) n cl) (.slice (some ⟨gm, 0, none⟩) n cm) Ms) (hn : Ms.length = n) {r : Nat} {M : MM} {l : AL} (hM : Ms[r]? = some M) (hl : L.als[r]? = some l) :
    wr.cell? ⟨gl, r, none⟩ = some (.pointer (some ⟨l.ab, 0, none⟩)) ∧ wr.cell? ⟨gm, r, none⟩ = some (.pointer (some ⟨M.p, 0, none⟩)) := by
  have hr := (List.getElem?_eq_some_iff.1 hM).1
  obtain ⟨g1, c1, e1, _, _, _, _, h1, _⟩ := h.lrow.mid (by omega)
  obtain ⟨g2, c2, e2, _, _, _, _, h2, _⟩ := h.mrow.mid (by omega)
  injection e1 with e1 _ _
  injection e2 with e2 _ _
  injection e1 with e1
  injection e1 with e1 _ _
  injection e2 with e2
  injection e2 with e2 _ _
  subst e1 e2
  exact ⟨h1 r _ (by simp [hl, hr]), h2 r _ (by simp [hM])⟩
/-- What a call of `do` leaves. -/
def DoneP (w wA : World) (L : PLay) (ys : List Nat) (lv mv : Value) (np n r : Nat) (p : Nat) (x : Nat) (e : Ending) (w' : World) : Prop :=
  e = .returned (.bool true) ∧ ∃ (S' : PS) (Ms' : List MM) (M' : MM) (a' : Ar), PlR w w' L S' ys lv mv Ms' ∧ Ms'.length = n ∧ S'.np = np ∧ Ms'[r]? = some M' ∧ M'.p = p ∧ S'.ars[r]? = some a' ∧ ∀ j v, wA.cell? ⟨x, j, none⟩ = some v → w'.cell? ⟨x, j, none⟩ = some v
theorem PlR.doStep {w wA W : World} {L : PLay} {S : PS} {ys : List Nat} {lv mv : Value} {Ms : List MM} (h : PlR w wA L S ys lv mv Ms) (hW : Below wA.heap.size wA W) {r : Nat} {M : MM} {a : Ar} {l : AL} (hM : Ms[r]? = some M) (ha : S.ars[r]? = some a) (hl : L.als[r]? = some l)
    (ads : List Addr) (hS : Sent w 94 errGs ads) (er en ea : Addr) (hE : Errs w er en ea) (h0 : ads[0]? = some er) (h7 : ads[7]? = some en) (h13 : ads[13]? = some ea)
    (o : Op4) (ht : o.t ≤ 9223372036854775807) (hv : o.v ≤ 9223372036854775807) (x : Nat) (hx : x ∉ L.fp ++ mfp M.p M.rv M.H) :
    Calls Tryd.prog 29 #[.pointer (some ⟨l.ab, 0, none⟩), .pointer (some ⟨M.p, 0, none⟩), .agg #[.int .i64 o.k, .int .i64 o.a, .int .i64 o.t, .int .i64 o.v]] W (DoneP w wA L ys lv mv S.np Ms.length r M.p x) := by
  have hP := h.later hW
  obtain ⟨hB, hfp⟩ := hP.bo hM ha
  refine (do_any hB ha hl (hP.mrep r M a hM ha).2 (hP.room ha).2 hP.bl hfp ads hS er en ea hE h0 h7 h13 o ht hv).mono ?_
  rintro e w' ⟨he, rv', H', hB', hz'⟩
  have hil := (List.getElem?_eq_some_iff.1 hM).1
  have hal := (List.getElem?_eq_some_iff.1 ha).1
  exact ⟨he, _, _, ⟨M.p, rv', H'⟩, (doR a S.words o).2.1, hP.step hM ha o hB' hz', by simp, rfl, List.getElem?_set_self hil, rfl, List.getElem?_set_self hal, fun j v hc => hB'.kept.cell (cell_later hW hc) hx⟩
theorem PlR.mUsed {w W : World} {L : PLay} {S : PS} {ys : List Nat} {lv mv : Value} {Ms : List MM} (h : PlR w W L S ys lv mv Ms) {r p : Nat} {M : MM} {a : Ar} (hM : Ms[r]? = some M) (ha : S.ars[r]? = some a) (hp : M.p = p) : Calls Tryd.prog 30 #[.pointer (some ⟨p, 0, none⟩)] W (Ret W (.int .i64 (trues a.taken : Nat))) := by
  subst hp
  exact bo_mused (h.bo hM ha).1 (h.mrep r M a hM ha).2 (h.room ha).2
theorem PlR.notBox {w wr : World} {L : PLay} {S : PS} {ys : List Nat} {lv mv : Value} {Ms : List MM} (h : PlR w wr L S ys lv mv Ms) {r : Nat} {M : MM} {a : Ar} (hM : Ms[r]? = some M) (ha : S.ars[r]? = some a) : wr.heap.size ∉ L.fp ++ mfp M.p M.rv M.H := fun hx => by
  rcases List.mem_append.1 hx with h1 | h1
  · have := h.rep.lt _ (PLay.mem.1 h1); omega
  · have := (h.mrep r M a hM ha).1.lt _ h1; omega
theorem newOk_size {pages : Int} {xs : List Int} (h : newOk pages xs = true) : 1 ≤ pages ∧ pages ≤ 256 ∧ xs.length ≤ 8 := by
  unfold newOk at h
  simp only [Bool.and_eq_true, decide_eq_true_eq] at h
  omega
set_option maxRecDepth 100000 in
set_option maxHeartbeats 4000000 in
theorem plays_bad (pages : Int) (xs : List Int) (os : List Op4) (A D : Option Addr) (c d : Nat) (w : World) (hx : RI w A xs) (hnil : A = none → c = 0) (hl : xs.length ≤ 17592186043904) (hp64 : pages ≤ 9223372036854775807) (ads : List Addr) (hS : Sent w 94 errGs ads) (er en ea : Addr) (hE : Errs w er en ea) (h0 : ads[0]? = some er) (h7 : ads[7]? = some en) (h13 : ads[13]? = some ea) (hok : newOk pages xs = false) :
    Calls Tryd.prog 8 #[.int .i64 pages, .slice A xs.length c, .slice D os.length d] w (Ret w (.bool true)) := by
  have HA := Lib.hid (alive_any w ads hS er en ea hE h13)
  have HE := Lib.hid hE
  have HS := Lib.hid hS
  have HX := Lib.hid hx
  have HNIL := Lib.hid hnil
  have HOK := Lib.hid hok
  have hxl := hx.len
  clear hx hS hE hok hnil
  go_enter Tryd.func8, Tryd.ntmps8
  go_wp2_with fail
  refine HA.out.mono ?_
  rintro e w1 ⟨rfl, hb1⟩
  go_wp2_with fail
  refine (ints_any xs A c w1 (HX.out.later hb1) HNIL.out hl).mono ?_
  rintro e w2 ⟨g, cg, rfl, hcg, hcg2, hM, hb2⟩
  have HM := Lib.hid hM
  have HB2 := Lib.hid (below_next hb1 hb2)
  clear hM hb1 hb2
  go_wp2_with fail
  refine (new_all pages xs (some ⟨g, 0, none⟩) cg w2 er en ea (HE.out.later HB2.out) (HM.out.ri (by omega))).mono ?_
  rintro e w3 hq
  have hq2 : Ret w2 (.tuple #[.pointer none, errV er]) e w3 := by
    rcases hq with ⟨h1, _⟩ | ⟨_, h2⟩
    · rw [HOK.out] at h1; cases h1
    · exact h2
  obtain ⟨rfl, hb3⟩ := hq2
  clear hq
  have HB3 := Lib.hid (below_next HB2.out hb3)
  unfold errV
  go_wp2_with fail
  refine (may_any pages xs A c w3 (HX.out.later HB3.out) hp64).mono ?_
  rintro e w4 ⟨rfl, rfl⟩
  rw [HOK.out]
  go_wp2_with fail
  refine (num_ev w3 ads (HS.out.later HB3.out) er en ea h0 h7 h13 1).mono ?_
  rw [show numOf 1 = 1 from rfl]
  rintro e w5 ⟨rfl, hb5⟩
  go_wp2_with fail
  go_ret
  exact ⟨rfl, below_next HB3.out hb5⟩
end Go.Proofs.YtpjphmpebegidaaDoor
