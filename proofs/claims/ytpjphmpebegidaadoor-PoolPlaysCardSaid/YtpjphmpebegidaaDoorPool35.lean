/-
  PoolPlays where the pool is made: all calls on all arenas; each word.
-/
import Derived.Test.YtpjphmpebegidaaDoorPool34
import Derived.Deep.RegionHeld3
import Derived.Deep.DeepCutAuto
import Derived.Deep.CutBlock
import Derived.Deep.DrawnRows
import Derived.IntWalk
namespace Go.Proofs.YtpjphmpebegidaaDoor
open Go.RowKit Go.Stk
attribute [local go_sem ↓] Go.wp_at_zero Go.wp_at_succ

/-- What Find tells. -/
def FoundZ (H : List MRun) (q z : Int) : Prop := (∃ (k : Nat) (r : MRun), H[k]? = some r ∧ 16 * (r.f : Int) = q ∧ z = k) ∨ ((∀ r ∈ H, 16 * (r.f : Int) ≠ q) ∧ z = -1)
def FoundR (W : World) (H : List MRun) (q : Int) (e : Ending) (w' : World) : Prop := ∃ z : Int, e = .returned (.int .i64 z) ∧ Hid (FoundZ H q z) ∧ Below W.heap.size W w'
section
variable {w W : World} {L : PLay} {S : PS} {ys : List Nat} {lv mv : Value} {Ms : List MM} (h : PlR w W L S ys lv mv Ms) {r p : Nat} {M : MM} {a : Ar} {l : AL} (hM : Ms[r]? = some M) (ha : S.ars[r]? = some a)
include h hM ha
theorem PlR.find (hp : M.p = p) (q : Int) : Calls Tryd.prog 31 #[.pointer (some ⟨p, 0, none⟩), .int .i64 q] W (FoundR W M.H q) := by
  subst hp
  obtain ⟨h1, h2⟩ := h.mrep r M a hM ha
  have hn := (h.room ha).2
  refine (find_any h1 (h2.len hn) (h2.rg2 hn) q).mono ?_
  rintro e w' ⟨hb, ⟨k, s, g1, g2, rfl⟩ | ⟨g1, rfl⟩⟩
  · exact ⟨_, rfl, .inl ⟨k, s, g1, g2, rfl⟩, hb⟩
  · exact ⟨_, rfl, .inr ⟨g1, rfl⟩, hb⟩
/-- A run's pages, of the model; what the arena says. -/
theorem PlR.runCells {k : Nat} {s : MRun} {q : Int} (hp : M.p = p) (hk : M.H[k]? = some s) (hq : 16 * (s.f : Int) = q) : ∃ g c, W.cell? ⟨p, 1, none⟩ = some (.slice (some ⟨g, 0, none⟩) M.H.length c) ∧ W.cell? ⟨g, k * 3 + 1, none⟩ = some (.int .i64 s.m) ∧ k < M.H.length ∧ M.H.length ≤ 256 ∧ s.m ≤ 256 ∧ sizeR a q = 16 * (s.m : Int) := by
  subst hp
  obtain ⟨h1, h2⟩ := h.mrep r M a hM ha
  have hn := (h.room ha).2
  obtain ⟨A, c, ev, _, _, _, _⟩ := h1.row.form
  have h3 := h1
  rw [ev] at h3
  obtain ⟨g, rfl, _, c1, _⟩ := h3.cat hk
  have hm := List.mem_of_getElem? hk
  have := h2.rg s hm
  refine ⟨g, c, by rw [← ev]; exact h1.hc.2.1, c1, (List.getElem?_eq_some_iff.1 hk).1, h2.len hn, by omega, ?_⟩
  unfold sizeR
  rw [h2.runIn hm hq]
  simp only
  omega
theorem PlR.noRun {q : Int} (hq : ∀ s ∈ M.H, 16 * (s.f : Int) ≠ q) : sizeR a q = 0 := by
  unfold sizeR
  rw [(h.mrep r M a hM ha).2.runOut hq]
theorem PlR.size (hl : L.als[r]? = some l) {q z : Int} (hq : q ≤ 9223372036854775807) (hz : sizeR a q = z) : Calls Tryd.prog 12 #[.pointer (some ⟨l.ab, 0, none⟩), .int .i64 q] W (Ret W (.int .i64 z)) := by
  subst hz
  exact size_all h.rep ha hl (h.mrep r M a hM ha).2.ok.ok q hq
theorem PlR.mdump (hp : M.p = p) : Calls Tryd.prog 32 #[.pointer (some ⟨p, 0, none⟩)] W (Listed W (dumpL a.n M.H)) := by
  subst hp
  obtain ⟨h1, h2⟩ := h.mrep r M a hM ha
  have hn := (h.room ha).2
  exact mdump_any h1 hn (h2.len hn) h2.rg
theorem PlR.wantLen : 16 * (ys.take (r + 1)).sum ≤ 4096 ∧ 16 * (ys.take r).sum + (dumpL a.n M.H).length = 16 * (ys.take (r + 1)).sum ∧ ints (S.words.take (16 * (ys.take r).sum)) ++ ints (dumpL a.n M.H) = ints (S.words.take (16 * (ys.take (r + 1)).sum)) := by
  have h1 := h.want hM ha
  obtain ⟨a1, a2⟩ := h.ars r a ha
  have h3 := h.room ha
  have hl := h.rep.lw
  have hnp := h.rep.hnp
  have e : (ys.take (r + 1)).sum = (ys.take r).sum + a.n := by rw [List.take_add_one, a2]; simp
  have h4 := congrArg List.length h1
  rw [List.length_append, List.length_take, List.length_take] at h4
  refine ⟨by omega, by omega, by rw [← ints_append, h1]⟩
end
theorem words_next {w W : World} {L : PLay} {S : PS} {ys : List Nat} {lv mv : Value} {Ms : List MM} (h : PlR w W L S ys lv mv Ms) {n : Nat} (h1 : 16 * ys.sum ≤ n) (h2 : n < 16 * S.np) : ints (S.words.take n) ++ [.int .i64 0] = ints (S.words.take (n + 1)) := by
  have hl := h.rep.lw
  have h3 := h.rest n h1 (by omega)
  rw [List.take_add_one, h3]
  simp [ints]
/-- What holds in the tail. -/
structure TailR (wt wr : World) (S : PS) (n : Nat) (v : Value) : Prop where
  bl : Below wt.heap.size wt wr
  row : Row wr 3 1 v n (ints (S.words.take n))
  own : ∀ g ∈ blk v, wt.heap.size ≤ g
theorem TailR.later {wt wr w' : World} {S : PS} {n : Nat} {v : Value} (h : TailR wt wr S n v) (hb : Below wr.heap.size wr w') : TailR wt w' S n v :=
  ⟨below_next h.bl hb, h.row.kept (Kept.ofBelow hb []) (by simp), h.own⟩
theorem TailR.grow {wt wr w1 w' : World} {S : PS} {n m : Nat} {v v' : Value} (h : TailR wt wr S n v) (hb : Below wr.heap.size wr w1) (hk : Kept (blk v) w1 w') (hr : Row w' 3 1 v' m (ints (S.words.take m))) (hg : ∀ g ∈ blk v', g ∈ blk v ∨ w1.heap.size ≤ g) : TailR wt w' S m v' := by
  have h1 := below_next h.bl hb
  exact ⟨h1.trans (hk.below h.own h1.size), hr, fun g hx => by
    rcases hg g hx with h2 | h2
    · exact h.own g h2
    · exact Nat.le_trans h1.size h2⟩
theorem row_ri {w : World} {T : TypeId} {A : Option Addr} {n c : Nat} {xs : List Int} (h : Row w T 1 (.slice A n c) n (ints xs)) : RI w A xs := by
  obtain ⟨A2, c2, e, hc, hm, _, hl⟩ := h.form
  refine ⟨by simp only [ints_length, maxLen, Nat.mul_one] at *; omega, fun hp => ?_⟩
  obtain ⟨g, cap, e, _, _, _, _, hcell, _⟩ := h.mid (by simp only [ints_length, Nat.mul_one] at *; omega)
  injection e with e1 e2 e3
  exact ⟨g, 0, e1, fun j hj => by rw [Nat.zero_add]; exact hcell j _ (List.getElem?_eq_getElem hj)⟩
theorem infoInt8 : (Tryd.prog.info? 3).map (fun i => (i.zero, i.size, i.bytes)) = some (some (.int .i64 0), 1, 8) := by kernel_rfl
set_option maxRecDepth 100000 in
set_option maxHeartbeats 8000000 in
theorem plays_ok (np : Nat) (xs : List Int) (os : List Op4) (A D : Option Addr) (c d : Nat) (w : World) (hx : RI w A xs) (hnil : A = none → c = 0) (hy : Rs w D (ocells os)) (hol0 : os.length ≤ 9223372036854775807) (hos : ∀ o ∈ os, o.t ≤ 9223372036854775807 ∧ o.v ≤ 9223372036854775807) (ads : List Addr) (hS : Sent w 94 errGs ads) (er en ea : Addr) (hE : Errs w er en ea) (h0 : ads[0]? = some er) (h7 : ads[7]? = some en) (h13 : ads[13]? = some ea) (hok : newOk np xs = true) :
    Calls Tryd.prog 8 #[.int .i64 np, .slice A xs.length c, .slice D os.length d] w (Ret w (.bool true)) := by
  have HA := Lib.hid (alive_any w ads hS er en ea hE h13)
  have HE := Lib.hid hE
  have HS := Lib.hid hS
  have HX := Lib.hid hx
  have HY := Lib.hid hy
  have HOS := Lib.hid hos
  have HNIL := Lib.hid hnil
  have HOK := Lib.hid hok
  have hol := hol0
  obtain ⟨n1, n2, l8⟩ := newOk_size hok
  have n1' : 1 ≤ np := by omega
  have n2' : np ≤ 256 := by omega
  clear hx hy hS hE hos hok hnil
  go_enter Tryd.func8, Tryd.ntmps8
  go_wp2_with fail
  refine HA.out.mono ?_
  rintro e w1 ⟨rfl, hb1⟩
  go_wp2_with fail
  refine (ints_any xs A c w1 (HX.out.later hb1) HNIL.out (by omega)).mono ?_
  rintro e w2 ⟨g, cg, rfl, hcg, hcg2, hM, hb2⟩
  have HM := Lib.hid hM
  have HB2 := Lib.hid (below_next hb1 hb2)
  clear hM hb1 hb2
  go_wp2_with fail
  refine (new_ok np xs (some ⟨g, 0, none⟩) cg w2 er en ea (HE.out.later HB2.out) (HM.out.ri (by omega)) n1' n2' l8).mono ?_
  rintro e w3 hq
  have hm : Made w2 np xs e w3 := by
    rcases hq with ⟨_, h2⟩ | ⟨h1, _⟩
    · exact h2
    · rw [HOK.out] at h1; cases h1
  clear hq
  obtain ⟨L, ys, rfl, hxy, hsum, hP⟩ := plr_start HB2.out hm (Below.refl _ _) none none
  have HM3 := Lib.hid (HM.out.later (show Below w2.heap.size w2 w3 from by obtain ⟨_, _, _, _, _, hb, _⟩ := hm; exact hb))
  have HMD := Lib.hid hm
  have HP := Lib.hid hP
  have HB3 := Lib.hid hP.bl
  have HXY := Lib.hid hxy
  have HSUM := Lib.hid hsum
  clear hm hP hxy hsum HM
  go_wp2_with fail
  refine (may_any (np : Int) xs A c w3 (HX.out.later HB3.out) (by omega)).mono ?_
  rintro e w4 ⟨rfl, rfl⟩
  rw [HOK.out]
  go_wp2_with fail
  refine (pages_any HP.out.rep).mono ?_
  rintro e w4 ⟨rfl, hb4⟩
  rw [show (newPS np ys).np = np from rfl]
  go_wp2_with fail
  refine (kept_any xs g cg A c w4 (HM3.out.later hb4) ((HX.out.later HB3.out).later hb4) (by omega) hcg hcg2).mono ?_
  rintro e w5 ⟨rfl, hb5⟩
  go_wp2_with fail
  have HQ0 : Hid (PlR w ((w5.alloc (.cells #[] 24)).alloc (.cells #[] 54)) L (newPS np ys) ys (.slice (some ⟨w5.heap.size, 0, none⟩) 0 0) (.slice (some ⟨w5.heap.size + 1, 0, none⟩) 0 0) []) :=
    (HP.out.later (below_alloc (below_alloc (below_next hb4 hb5) _) _)).empty _ _
  clear HP HM3 HMD HB2 HB3 hb4 hb5 HA HNIL
  generalize (w5.alloc (.cells #[] 24)).alloc (.cells #[] 54) = w6 at HQ0 ⊢
  go_loopw [10, 11, 71] (fun av bv iv wr => ∃ (k : Nat) (lv mv : Value) (Ms : List MM), k ≤ xs.length ∧ iv = .int .i64 k ∧ av = lv ∧ bv = mv ∧ Hid (Ms.length = k ∧ PlR w wr L (newPS np ys) ys lv mv Ms)) (fun _ _ iv _ => xs.length - (intOf iv).toNat)
  case atStart => exact ⟨0, _, _, [], Nat.zero_le _, rfl, rfl, rfl, rfl, HQ0.out⟩
  case round =>
    clear HQ0
    obtain ⟨k, lv, mv, Ms, hk, rfl, rfl, rfl, hP⟩ := hrel
    obtain ⟨hMl, hPl⟩ := hP.out
    have HML := Lib.hid hMl
    have HP := Lib.hid hPl
    clear hP hMl hPl
    have hyl : xs.length = ys.length := by rw [HXY.out]; simp [ints']
    have HYL := Lib.hid hyl
    have hlr := HP.out.lrow
    have hmr := HP.out.mrow
    rw [HML.out] at hlr hmr
    obtain ⟨AL, cl, rfl, hcl, hcm, hnl, _⟩ := hlr.form
    obtain ⟨AM, cm, rfl, hcl2, hcm2, hnm, _⟩ := hmr.form
    clear hlr hmr
    by_cases hlt : k < xs.length
    · obtain ⟨b1, o1, rfl, c1⟩ := (HX.out.later HP.out.bl).at k hlt
      obtain ⟨a, ha⟩ : ∃ a, (newPS np ys).ars[k]? = some a := ⟨_, List.getElem?_eq_getElem (by rw [HP.out.alen]; omega)⟩
      obtain ⟨l, hl⟩ : ∃ l, L.als[k]? = some l := ⟨_, List.getElem?_eq_getElem (by rw [HP.out.rep.alen, HP.out.alen]; omega)⟩
      obtain ⟨_, ay⟩ := HP.out.ars k a ha
      rw [show xs.getD k 0 = (a.n : Int) by rw [HXY.out]; simp [ints', ay]] at c1
      have HA := Lib.hid ha
      have HL := Lib.hid hl
      clear ha hl ay hyl
      go_wp2_with fail
      refine (arena_in HP.out.rep k l HL.out).mono ?_
      rintro e w7 ⟨rfl, hb7⟩
      have HP7 := Lib.hid (HP.out.later hb7)
      replace c1 := cell_later hb7 c1
      go_wp2_with fail
      refine (share_any HP7.out.rep HA.out HL.out).mono ?_
      rintro e w8 ⟨rfl, hb8⟩
      have HP8 := Lib.hid (HP7.out.later hb8)
      clear HP HP7 hb7 hb8 c1
      have hlr := HP8.out.lrow
      have hmr := HP8.out.mrow
      rw [HML.out] at hlr hmr
      have HLR := Lib.hid hlr
      have HMR := Lib.hid hmr
      clear hlr hmr
      go_wp2_with (first
        | (at_builtin; refine append_row (by rfl) _ _ _ 24 _ 1 8 (by rfl) Tryd.underlying52 infoPtr3 (by rfl) (by omega) (.slice AL k cl) k ((L.als.take k).map fun l => .pointer (some ⟨l.ab, 0, none⟩)) (by rfl) (HLR.out.kept (Kept.ofBelow (below_alloc (Below.refl _ _) _) []) (by simp)) (some ⟨w8.heap.size, 0, none⟩) 1 1 [.pointer (some ⟨l.ab, 0, none⟩)] (by rfl) (by rfl) (by simp) (by omega) (rd_blk (T := 24) (blk_new w8 _) (by simp [maxLen])) (by simp [Value.oneCell']) (by simp only [maxLen]; omega) (by omega) ?_; intro v1 w9 hr1 hk1 hg1; have hmr9 := Lib.hid ((HMR.out.kept (Kept.ofBelow (below_alloc (Below.refl _ _) _) []) (by simp)).kept hk1 (fun g hg hx => (HP8.out.lsep g hx).2.2 hg)); replace hr1 := Lib.hid hr1; replace hk1 := Lib.hid hk1; replace hg1 := Lib.hid hg1)
        | (at_builtin; refine append_row (by rfl) _ _ _ 54 _ 1 8 (by rfl) Tryd.underlying53 infoModel (by rfl) (by omega) (.slice AM k cm) k (Ms.map fun M => .pointer (some ⟨M.p, 0, none⟩)) (by rfl) (hmr9.out.kept (Kept.ofBelow (below_alloc (below_alloc (Below.refl _ _) _) _) []) (by simp)) (some ⟨w9.heap.size + 1, 0, none⟩) 1 1 [.pointer (some ⟨w9.heap.size, 0, none⟩)] (by rfl) (by rfl) (by simp) (by omega) (rd_blk (T := 54) (blk_new2 w9 _ _) (by simp [maxLen])) (by simp [Value.oneCell']) (by simp only [maxLen]; omega) (by omega) ?_; intro v2 w10 hr2 hk2 hg2; replace hr2 := Lib.hid hr2; replace hk2 := Lib.hid hk2; replace hg2 := Lib.hid hg2))
      have hky : k < ys.length := by have := HYL.out; omega
      have HPN := Lib.hid (HP8.out.push HML.out hky HA.out (plr_z HSUM.out HA.out) HL.out (below_alloc (Below.refl _ _) _) hk1.out hg1.out hr1.out (below_alloc (below_alloc (Below.refl _ _) _) _) (Nat.le_refl _) (blk_alloc (blk_new w9 _) _) hk2.out hg2.out hr2.out)
      go_roundw
      case rel => exact ⟨k + 1, v1, v2, _, by omega, by go_num, rfl, rfl, by simp [HML.out], HPN.out⟩
      case measure => simp [intOf]; omega
    · obtain rfl : k = xs.length := by omega
      clear hyl
      go_wp2_with fail
      refine (arena_out HP.out.rep (xs.length : Int) er en ea (HE.out.later HP.out.bl) (.inr (by rw [HP.out.alen, HYL.out]; omega))).mono ?_
      rintro e w7 ⟨rfl, hb7⟩
      have HP7 := Lib.hid (HP.out.later hb7)
      clear HP hb7
      unfold errV
      go_wp2_with fail
      refine (num_ev w7 ads (HS.out.later HP7.out.bl) er en ea h0 h7 h13 1).mono ?_
      rw [show numOf 1 = 1 from rfl]
      rintro e w8 ⟨rfl, hb8⟩
      have HP8 := Lib.hid (HP7.out.later hb8)
      clear HP7 hb8
      go_wp2_with fail
      refine (arena_out HP8.out.rep (-1) er en ea (HE.out.later HP8.out.bl) (.inl (by omega))).mono ?_
      rintro e w9 ⟨rfl, hb9⟩
      have HP9 := Lib.hid (HP8.out.later hb9)
      clear HP8 hb9
      unfold errV
      go_wp2_with fail
      refine (num_ev w9 ads (HS.out.later HP9.out.bl) er en ea h0 h7 h13 1).mono ?_
      rw [show numOf 1 = 1 from rfl]
      rintro e w10 ⟨rfl, hb10⟩
      have HP10 := Lib.hid (HP9.out.later hb10)
      clear HP9 hb10
      have HLP : Hid (Ms.length = xs.length ∧ (newPS np ys).np = np ∧ PlR w w10 L (newPS np ys) ys (.slice AL xs.length cl) (.slice AM xs.length cm) Ms) := ⟨HML.out, rfl, HP10.out⟩
      clear HP10 HML
      go_upto_block 2 with fail
      go_cut [] (fun wx => ∃ (S : PS) (Ms : List MM), Hid (Ms.length = xs.length ∧ S.np = np ∧ PlR w wx L S ys (.slice AL xs.length cl) (.slice AM xs.length cm) Ms))
      case first =>
       go_wp2_with fail
       go_loopw [125] (fun kv wr => ∃ (k : Nat) (S : PS) (Ms : List MM), k ≤ os.length ∧ kv = .int .i64 k ∧ Hid (Ms.length = xs.length ∧ S.np = np ∧ PlR w wr L S ys (.slice AL xs.length cl) (.slice AM xs.length cm) Ms)) (fun kv _ => os.length - (intOf kv).toNat)
       case atStart => exact ⟨0, _, _, Nat.zero_le _, rfl, HLP.out⟩
       case round =>
         clear HLP
         obtain ⟨k, S, Ms, hk, rfl, hP⟩ := hrel
         by_cases hgo : k < os.length ∧ k ≤ 150 ∧ 0 < xs.length
         · obtain ⟨hlt, h150, l1⟩ := hgo
           obtain ⟨o, ho⟩ : ∃ o, os[k]? = some o := ⟨_, List.getElem?_eq_getElem hlt⟩
           obtain ⟨b1, o1, rfl, c1, c2, c3, c4⟩ := ocells_at (HY.out.later hP.out.2.2.bl) k o ho
           obtain ⟨ot, ov⟩ := HOS.out o (List.mem_of_getElem? ho)
           have d2 : decide (150 < (k : Int)) = false := decide_eq_false (by omega)
           have dl : ((xs.length : Int) == 0) = false := beq_eq_false_iff_ne.2 (by omega)
           have l0 : (0 : Int) < (xs.length : Int) := by omega
           obtain ⟨r, hr, er'⟩ := mod_nat o.a xs.length l1 (by omega)
           have hr' : (r : Int) < (xs.length : Int) := by omega
           have HMQ := Lib.hid hP.out.1
           have HNP := Lib.hid hP.out.2.1
           have HPA := Lib.hid (hP.out.2.2.later (below_alloc (Below.refl wr.heap.size wr) (.cells #[.int .i64 o.k, .int .i64 o.a, .int .i64 o.t, .int .i64 o.v] 47)))
           obtain ⟨M, hM⟩ : ∃ M, Ms[r]? = some M := ⟨_, List.getElem?_eq_getElem (by rw [HMQ.out]; exact hr)⟩
           obtain ⟨a, ha⟩ : ∃ a, S.ars[r]? = some a := ⟨_, List.getElem?_eq_getElem (by rw [HPA.out.alen, ← HYL.out]; exact hr)⟩
           obtain ⟨l, hl⟩ : ∃ l, L.als[r]? = some l := ⟨_, List.getElem?_eq_getElem (by rw [HPA.out.rep.alen, HPA.out.alen, ← HYL.out]; exact hr)⟩
           obtain ⟨gl, capl, evl, ebl, _, _, hgl, hcl', _⟩ := HPA.out.lrow.mid (by rw [HMQ.out]; exact l1)
           obtain ⟨gm, capm, evm, ebm, _, _, hgm, hcm', _⟩ := HPA.out.mrow.mid (by rw [HMQ.out]; exact l1)
           injection evl with e1 e1b e1c
           injection evm with e2 e2b e2c
           clear e1b e1c e2b e2c
           subst e1 e2
           have k0 := hcl' r (.pointer (some ⟨l.ab, 0, none⟩)) (by simp [hl, HMQ.out, hr])
           have k1 := hcm' r (.pointer (some ⟨M.p, 0, none⟩)) (by simp [hM])
           have HM := Lib.hid hM
           have HA := Lib.hid ha
           have HL := Lib.hid hl
           have HXX := Lib.hid (hP.out.2.2.notBox hM ha)
           clear ho hM ha hl hcl' hcm' hP
           obtain ⟨q0, q1, q2, q3⟩ := blk4 (blk_new wr (.cells #[.int .i64 o.k, .int .i64 o.a, .int .i64 o.t, .int .i64 o.v] 47))
           obtain ⟨wA, hwA⟩ : ∃ W, wr.alloc (.cells #[.int .i64 o.k, .int .i64 o.a, .int .i64 o.t, .int .i64 o.v] 47) = W := ⟨_, rfl⟩
           have hxl : wr.heap.size < wA.heap.size := by rw [← hwA]; simp
           rw [hwA] at q0 q1 q2 q3 k0 k1 HPA
           have HDO := Lib.hid (fun (W : World) (hW : Below wA.heap.size wA W) => HPA.out.doStep hW HM.out HA.out HL.out ads HS.out er en ea HE.out h0 h7 h13 o ot ov wr.heap.size HXX.out)
           rw [HMQ.out, HNP.out] at HDO
           go_wp2_with fail
           go_region_held3 (fun W => W.cell? ⟨gl, r, none⟩ = some (.pointer (some ⟨l.ab, 0, none⟩)) ∧ W.cell? ⟨gm, r, none⟩ = some (.pointer (some ⟨M.p, 0, none⟩)) ∧ W.cell? ⟨wr.heap.size, 0, none⟩ = some (.int .i64 o.k) ∧ W.cell? ⟨wr.heap.size, 1, none⟩ = some (.int .i64 o.a) ∧ W.cell? ⟨wr.heap.size, 2, none⟩ = some (.int .i64 o.t) ∧ W.cell? ⟨wr.heap.size, 3, none⟩ = some (.int .i64 o.v))
             (first | (refine ⟨?_, ?_, ?_, ?_, ?_, ?_⟩ <;> first | assumption | (rw [World.cell?_drew]; assumption)) | go_keep)
             (first
               | (go_at_call 29; ((with_reducible refine (HDO.out _ (by first | exact below_drewN0 _ _ | exact below_drew1 (Below.refl _ _))).mono ?_); rintro e w11 ⟨rfl, S2, Ms2, M2, a2, hp2, hn2, hnp2, hM2, hpp, ha2, hkeep⟩; have k20 := (hp2.cells hn2 hM2 HL.out).1; have k21 := (hp2.cells hn2 hM2 HL.out).2; have q20 := hkeep _ _ q0; have q21 := hkeep _ _ q1; have q22 := hkeep _ _ q2; have q23 := hkeep _ _ q3; simp only [hpp] at k21; replace hp2 := Lib.hid hp2; replace hM2 := Lib.hid hM2; replace ha2 := Lib.hid ha2; replace hpp := Lib.hid hpp; replace hn2 := Lib.hid hn2; replace hnp2 := Lib.hid hnp2; clear hkeep))
               | (go_at_call 13; ((with_reducible refine (used_any (hp2.out.later (by first | exact below_drewN0 _ _ | exact below_drew1 (Below.refl _ _) | exact Below.refl _ _)).rep ha2.out HL.out).mono ?_); rintro e w12 ⟨rfl, hb12⟩; have hp3 := Lib.hid (hp2.out.later (below_next (by first | exact below_drewN0 _ _ | exact below_drew1 (Below.refl _ _) | exact Below.refl _ _) hb12)); have k30 := cell_later hb12 k20; have k31 := cell_later hb12 k21; have q30 := cell_later hb12 q20; have q31 := cell_later hb12 q21; have q32 := cell_later hb12 q22; have q33 := cell_later hb12 q23))
               | (go_at_call 30; ((with_reducible refine ((hp3.out.later (by first | exact below_drewN0 _ _ | exact below_drew1 (Below.refl _ _) | exact Below.refl _ _)).mUsed hM2.out ha2.out hpp.out).mono ?_); rintro e w13 ⟨rfl, hb13⟩; have hp4 := Lib.hid (hp3.out.later (below_next (by first | exact below_drewN0 _ _ | exact below_drew1 (Below.refl _ _) | exact Below.refl _ _) hb13)); have k40 := cell_later hb13 k30; have k41 := cell_later hb13 k31; have q40 := cell_later hb13 q30; have q41 := cell_later hb13 q31; have q42 := cell_later hb13 q32; have q43 := cell_later hb13 q33)))
           clear k0 k1 q0 q1 q2 q3 k20 k21 q20 q21 q22 q23 k30 k31 q30 q31 q32 q33 hb12 hb13
           clear HDO HPA HMQ HNP HM HA HXX hp2 hp3
           go_wp2_with fail
           go_region_held3 (fun W => W.cell? ⟨gl, r, none⟩ = some (.pointer (some ⟨l.ab, 0, none⟩)) ∧ W.cell? ⟨gm, r, none⟩ = some (.pointer (some ⟨M.p, 0, none⟩)) ∧ W.cell? ⟨wr.heap.size, 0, none⟩ = some (.int .i64 o.k) ∧ W.cell? ⟨wr.heap.size, 1, none⟩ = some (.int .i64 o.a) ∧ W.cell? ⟨wr.heap.size, 2, none⟩ = some (.int .i64 o.t) ∧ W.cell? ⟨wr.heap.size, 3, none⟩ = some (.int .i64 o.v))
             (first | (refine ⟨?_, ?_, ?_, ?_, ?_, ?_⟩ <;> first | assumption | (rw [World.cell?_drew]; assumption)) | go_keep)
             (first | (go_at_call 31; ((with_reducible refine ((hp4.out.later (by first | exact below_drewN0 _ _ | exact below_drew1 (Below.refl _ _) | exact Below.refl _ _)).find hM2.out ha2.out hpp.out o.t).mono ?_); rintro e w14 ⟨z, rfl, hz, hb14⟩); have hp5 := Lib.hid (hp4.out.later (below_next (by first | exact below_drewN0 _ _ | exact below_drew1 (Below.refl _ _) | exact Below.refl _ _) hb14)); have k50 := cell_later hb14 k40; have k51 := cell_later hb14 k41; have q50 := cell_later hb14 q40; have q51 := cell_later hb14 q41; have q52 := cell_later hb14 q42; have q53 := cell_later hb14 q43))
           clear k40 k41 q40 q41 q42 q43 hp4
           rcases hz.out with ⟨kk, s, hs1, hs2, rfl⟩ | ⟨hs1, hs2⟩
           · obtain ⟨gg, cc, j0, j1, j2, j3, j4, j5⟩ := hp5.out.runCells hM2.out ha2.out hpp.out hs1 hs2
             have HZ := Lib.hid j5
             clear j5 hs1 hs2 hz
             go_wp2_with fail
             go_region_held3 (fun W => W.cell? ⟨gl, r, none⟩ = some (.pointer (some ⟨l.ab, 0, none⟩)) ∧ W.cell? ⟨gm, r, none⟩ = some (.pointer (some ⟨M.p, 0, none⟩)) ∧ W.cell? ⟨wr.heap.size, 0, none⟩ = some (.int .i64 o.k) ∧ W.cell? ⟨wr.heap.size, 1, none⟩ = some (.int .i64 o.a) ∧ W.cell? ⟨wr.heap.size, 2, none⟩ = some (.int .i64 o.t) ∧ W.cell? ⟨wr.heap.size, 3, none⟩ = some (.int .i64 o.v))
               (first | (refine ⟨?_, ?_, ?_, ?_, ?_, ?_⟩ <;> first | assumption | (rw [World.cell?_drew]; assumption)) | go_keep)
               (first | (go_at_call 12; ((with_reducible refine ((hp5.out.later (by first | exact below_drewN0 _ _ | exact below_drew1 (Below.refl _ _) | exact Below.refl _ _)).size hM2.out ha2.out HL.out ot HZ.out).mono ?_); rintro e w15 ⟨rfl, hb15⟩); have hp6 := Lib.hid (hp5.out.later (below_next (by first | exact below_drewN0 _ _ | exact below_drew1 (Below.refl _ _) | exact Below.refl _ _) hb15)); have k60 := cell_later hb15 k50; have k61 := cell_later hb15 k51; have q60 := cell_later hb15 q50; have q61 := cell_later hb15 q51; have q62 := cell_later hb15 q52; have q63 := cell_later hb15 q53))
             clear k50 k51 q50 q51 q52 q53 k60 k61 q60 q61 q62 q63 hp5 hb15
             go_wp2_with fail
             go_roundw
             case rel => exact ⟨k + 1, S2, Ms2, by omega, by go_num, hn2.out, hnp2.out, hp6.out⟩
             case measure => simp [intOf]; omega
           · have hz0 : z < 0 := by omega
             have HZ := Lib.hid (hp5.out.noRun hM2.out ha2.out hs1)
             clear hs1 hs2 hz
             go_wp2_with fail
             go_region_held3 (fun W => W.cell? ⟨gl, r, none⟩ = some (.pointer (some ⟨l.ab, 0, none⟩)) ∧ W.cell? ⟨gm, r, none⟩ = some (.pointer (some ⟨M.p, 0, none⟩)) ∧ W.cell? ⟨wr.heap.size, 0, none⟩ = some (.int .i64 o.k) ∧ W.cell? ⟨wr.heap.size, 1, none⟩ = some (.int .i64 o.a) ∧ W.cell? ⟨wr.heap.size, 2, none⟩ = some (.int .i64 o.t) ∧ W.cell? ⟨wr.heap.size, 3, none⟩ = some (.int .i64 o.v))
               (first | (refine ⟨?_, ?_, ?_, ?_, ?_, ?_⟩ <;> first | assumption | (rw [World.cell?_drew]; assumption)) | go_keep)
               (first | (go_at_call 12; ((with_reducible refine ((hp5.out.later (by first | exact below_drewN0 _ _ | exact below_drew1 (Below.refl _ _) | exact Below.refl _ _)).size hM2.out ha2.out HL.out ot HZ.out).mono ?_); rintro e w15 ⟨rfl, hb15⟩); have hp6 := Lib.hid (hp5.out.later (below_next (by first | exact below_drewN0 _ _ | exact below_drew1 (Below.refl _ _) | exact Below.refl _ _) hb15)); have k60 := cell_later hb15 k50; have k61 := cell_later hb15 k51; have q60 := cell_later hb15 q50; have q61 := cell_later hb15 q51; have q62 := cell_later hb15 q52; have q63 := cell_later hb15 q53))
             clear k50 k51 q50 q51 q52 q53 k60 k61 q60 q61 q62 q63 hp5 hb15
             go_wp2_with fail
             go_roundw
             case rel => exact ⟨k + 1, S2, Ms2, by omega, by go_num, hn2.out, hnp2.out, hp6.out⟩
             case measure => simp [intOf]; omega
         · have HMS := Lib.hid hP.out
           clear hP
           by_cases hlt : k < os.length
           · obtain ⟨o, ho⟩ : ∃ o, os[k]? = some o := ⟨_, List.getElem?_eq_getElem hlt⟩
             obtain ⟨b1, o1, rfl, c1, c2, c3, c4⟩ := ocells_at (HY.out.later HMS.out.2.2.bl) k o ho
             clear ho
             by_cases h150 : k ≤ 150
             · have d2 : decide (150 < (k : Int)) = false := decide_eq_false (by omega)
               have dl : ((xs.length : Int) == 0) = true := beq_iff_eq.2 (by omega)
               go_wp2_with fail
               go_meet
               exact ⟨S, Ms, HMS.out.1, HMS.out.2.1, HMS.out.2.2.later (below_alloc (Below.refl _ _) _)⟩
             · have d2 : decide (150 < (k : Int)) = true := decide_eq_true (by omega)
               go_wp2_with fail
               go_meet
               exact ⟨S, Ms, HMS.out.1, HMS.out.2.1, HMS.out.2.2.later (below_alloc (Below.refl _ _) _)⟩
           · go_wp2_with fail
             go_meet
             exact ⟨S, Ms, HMS.out⟩
      case rest =>
        clear HLP
        obtain ⟨S, Ms, hP⟩ := hcut
        obtain ⟨wt, rfl⟩ : ∃ W, W = wc := ⟨_, rfl⟩
        have HM := Lib.hid hP.out.1
        have HN := Lib.hid hP.out.2.1
        have HP := Lib.hid hP.out.2.2
        clear hP
        go_wp2_with fail
        have HT0 : Hid (TailR wt (wt.alloc (.cells #[] 3)) S 0 (.slice (some ⟨wt.heap.size, 0, none⟩) 0 0)) := ⟨below_alloc (Below.refl _ _) _, by simpa [ints] using Row.empty _ _ _ _, by simp [blk]⟩
        go_loopw [25, 203] (fun vv kv wr => ∃ (k n : Nat) (v : Value), k ≤ xs.length ∧ kv = .int .i64 k ∧ vv = v ∧ Hid (n = 16 * (ys.take k).sum ∧ TailR wt wr S n v)) (fun _ kv _ => xs.length - (intOf kv).toNat)
        case atStart => exact ⟨0, 0, _, Nat.zero_le _, rfl, rfl, by simp, HT0.out⟩
        case round =>
          clear HT0
          obtain ⟨k, n, v, hk, rfl, rfl, hT⟩ := hrel
          by_cases hlt : k < xs.length
          · obtain ⟨M, hM⟩ : ∃ M, Ms[k]? = some M := ⟨_, List.getElem?_eq_getElem (by rw [HM.out]; exact hlt)⟩
            obtain ⟨a, ha⟩ : ∃ a, S.ars[k]? = some a := ⟨_, List.getElem?_eq_getElem (by rw [HP.out.alen, ← HYL.out]; exact hlt)⟩
            obtain ⟨l, hl⟩ : ∃ l, L.als[k]? = some l := ⟨_, List.getElem?_eq_getElem (by rw [HP.out.rep.alen, HP.out.alen, ← HYL.out]; exact hlt)⟩
            obtain ⟨gm, capm, evm, ebm, _, _, hgm, hcm', _⟩ := HP.out.mrow.mid (by rw [HM.out]; omega)
            injection evm with e2 e2b e2c
            clear e2b e2c
            subst e2
            have k1 := cell_later hT.out.2.bl (hcm' k (.pointer (some ⟨M.p, 0, none⟩)) (by simp [hM]))
            obtain ⟨lw1, lw2, lw3⟩ := HP.out.wantLen hM ha
            obtain ⟨D, hD⟩ : ∃ D, D = dumpL a.n M.H := ⟨_, rfl⟩
            have hdm := Lib.hid ((HP.out.later hT.out.2.bl).mdump hM ha rfl)
            rw [← hD] at lw2 lw3 hdm
            rw [← hT.out.1] at lw2 lw3
            have HLW := Lib.hid (And.intro lw2 lw3)
            have hnm : n + D.length ≤ 4096 := by omega
            clear lw1 lw2 lw3 hM ha hl hcm' hD
            go_wp2_with fail
            refine hdm.out.mono ?_
            rintro e w2 ⟨g2, c2, rfl, hc2, hcm2, hri2, hg2, hb2⟩
            have HR2 := Lib.hid hri2
            have HT2 := Lib.hid (hT.out.2.row.kept (Kept.ofBelow hb2 []) (by simp))
            have HB2 := Lib.hid hb2
            obtain ⟨A5, c5, rfl, hnc5, hcm5, _, _⟩ := hT.out.2.row.form
            clear hri2 hb2 hdm k1
            go_wp2_with (at_builtin; refine append_row (by rfl) _ _ _ 3 _ 1 8 (by rfl) Tryd.underlying37 infoInt8 (by rfl) (by omega) (.slice A5 n c5) n (ints (S.words.take n)) (by rfl) HT2.out (some ⟨g2, 0, none⟩) D.length c2 (ints D) (by rfl) (by simp) (by simp) hc2 HR2.out (ones D) (by simp only [maxLen]; omega) (by omega) ?_; intro v1 w3 hr1 hk1 hg1; have HT3 := Lib.hid (hT.out.2.grow HB2.out hk1 (by rw [← HLW.out.2, HLW.out.1] at *; exact hr1) hg1); clear hr1 hk1 hg1)
            go_roundw
            case rel => exact ⟨k + 1, _, v1, by omega, by go_num, rfl, rfl, HT3.out⟩
            case measure => simp [intOf]; omega
          · obtain rfl : k = xs.length := by omega
            obtain ⟨A5, c5, rfl, hnc5, hcm5, _, _⟩ := hT.out.2.row.form
            have hn0 : n = 16 * ys.sum := by
              have := hT.out.1
              rw [HYL.out, List.take_length] at this
              exact this
            have hn1 : n ≤ 16 * np := by have := HSUM.out; omega
            have HT1 := Lib.hid hT.out.2
            have HN0 := Lib.hid hn0
            clear hT hn0
            go_wp2_with fail
            go_loopw [25] (fun vv wr => ∃ (m : Nat) (v : Value), m ≤ 16 * np ∧ vv = v ∧ Hid (16 * ys.sum ≤ m ∧ TailR wt wr S m v)) (fun vv _ => match vv with | .slice _ m _ => 16 * np - m | _ => 0)
            case atStart => exact ⟨n, _, hn1, rfl, by have := HN0.out; omega, HT1.out⟩
            case round =>
              clear HT1
              obtain ⟨m, v, hm, rfl, hT⟩ := hrel
              obtain ⟨A6, c6, rfl, hnc6, hcm6, _, _⟩ := hT.out.2.row.form
              have mp : IntKind.i64.wrap (16 * (np : Int)) = 16 * np := IntWalk.i64_in _ (by omega)
              by_cases hlt2 : m < 16 * np
              · have d1 : decide ((m : Int) < 16 * (np : Int)) = true := decide_eq_true (by omega)
                have HW := Lib.hid (words_next HP.out hT.out.1 (by rw [HN.out]; exact hlt2))
                go_wp2_with (at_builtin; refine append_row (by rfl) _ _ _ 3 _ 1 8 (by rfl) Tryd.underlying37 infoInt8 (by rfl) (by omega) (.slice A6 m c6) m (ints (S.words.take m)) (by rfl) (hT.out.2.row.kept (Kept.ofBelow (below_alloc (Below.refl _ _) _) []) (by simp)) (some ⟨wr.heap.size, 0, none⟩) 1 1 [.int .i64 0] (by rfl) (by rfl) (by simp) (by omega) (rd_blk (T := 3) (blk_new wr _) (by simp [maxLen])) (by simp [Value.oneCell']) (by simp only [maxLen]; omega) (by omega) ?_; intro v1 w3 hr1 hk1 hg1; have HT3 := Lib.hid (hT.out.2.grow (below_alloc (Below.refl _ _) _) hk1 (by rw [← HW.out]; exact hr1) hg1); obtain ⟨A7, c7, rfl, _, _, _, _⟩ := hr1.form; clear hr1 hk1 hg1)
                go_roundw
                case rel => exact ⟨m + 1, _, by omega, rfl, by have := hT.out.1; omega, HT3.out⟩
                case measure => show 16 * np - (m + 1) < 16 * np - m; omega
              · obtain rfl : m = 16 * np := by omega
                have d1 : decide (((16 * np : Nat) : Int) < 16 * (np : Int)) = false := decide_eq_false (by omega)
                have HT3 := Lib.hid hT.out.2
                clear hT
                have HRI : Hid (RI wr A6 S.words ∧ S.words.length = 16 * np) := by
                  have hl := HP.out.rep.lw
                  rw [HN.out] at hl
                  have hr := HT3.out.row
                  rw [List.take_of_length_le (by omega)] at hr
                  exact ⟨row_ri hr, by omega⟩
                go_wp2_with fail
                refine (dump_any (HP.out.later HT3.out.bl).rep (by rw [HN.out]; omega)).mono ?_
                rintro e w8 ⟨g8, c8, rfl, hc8, hcm8, hri8, hg8, hb8⟩
                have HR8 := Lib.hid hri8
                have HB8 := Lib.hid hb8
                clear hri8 hb8
                go_wp2_with fail
                refine (same_sl S.words S.words (some ⟨g8, 0, none⟩) A6 S.words.length (16 * np) c8 c6 w8 HR8.out (HRI.out.1.later HB8.out) rfl rfl HRI.out.2).mono ?_
                rintro e w9 ⟨rfl, hb9⟩
                have HB9 := Lib.hid (below_next (below_next (below_next HP.out.bl HT3.out.bl) HB8.out) hb9)
                clear hb9
                go_wp2_with fail
                go_ret
                exact ⟨rfl, HB9.out⟩
end Go.Proofs.YtpjphmpebegidaaDoor
