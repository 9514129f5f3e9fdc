/-
  SyncTypes: a place takes values of its type alone, and holds the last one.
-/
import Derived.Test.YtmalbdoneghnmaaDoorSync9
import Derived.Test.YtmalbdoneghnmaaDoorArith
import Derived.Test.YtmalbdoneghnmaaDoorNum11
import Derived.Deep.RegionWith
namespace Go.Proofs.YtmalbdoneghnmaaDoor
open Go.RowKit Go.Stk
attribute [local go_sem ↓] Go.wp_at_zero Go.wp_at_succ

theorem Row.rd {w : World} {e : TypeId} {k n c : Nat} {A : Option Addr} {xs : List Value} (h : Row w e k (.slice A n c) n xs) (hm : n * k ≤ maxLen) : Rd w A xs := by
  obtain ⟨A2, c2, e2, _, _, _, hl⟩ := h.form
  refine ⟨by omega, fun hp => ?_⟩
  obtain ⟨g, cap, e1, _, _, _, _, hcell, _⟩ := h.mid (by
    rcases Nat.eq_zero_or_pos n with h0 | h0
    · subst h0; rw [Nat.zero_mul] at hl; omega
    · exact h0)
  injection e1 with e1 _ _
  subst e1
  exact ⟨g, 0, rfl, fun j hj => by rw [Nat.zero_add]; exact hcell j _ (List.getElem?_eq_getElem hj)⟩
/-- A type out of any number. -/
def kindOf (t : Int) : Int := 1 + wrap64 ((IntKind.u64.wrap t).tmod 3)
theorem kindOf_at (t : Int) : ∃ m : Nat, m < 3 ∧ wrap64 ((IntKind.u64.wrap t).tmod 3) = m ∧ kindOf t = 1 + (m : Int) := by
  obtain ⟨m, h1, h2⟩ := mod_nat t 3 (by omega) (by omega)
  exact ⟨m, h1, h2, by unfold kindOf; rw [show ((3 : Int)) = ((3 : Nat) : Int) from rfl, h2]⟩
theorem kinds_ok (xs : List Int) : (xs.map kindOf).all okType = true := by
  rw [List.all_map]
  apply List.all_eq_true.2
  intro t _
  obtain ⟨m, h1, _, h2⟩ := kindOf_at t
  simp [okType, h2]; omega

/-- What stays of the call's own. -/
structure TyR (w wr : World) (v : Val) (kv : Value) (K : List Int) : Prop where
  box : wr.heap[w.heap.size]? = some (.cells #[.int .i64 v.t, .int .i64 v.n, .int .u64 v.b] 37 (0, 0))
  row : Row wr 3 1 kv K.length (ints K)
  own : ∀ g ∈ blk kv, w.heap.size ≤ g ∧ g ≠ w.heap.size
  bl : Below w.heap.size w wr
theorem TyR.later {w wr w' : World} {v : Val} {kv : Value} {K : List Int} (h : TyR w wr v kv K) (hb : Below wr.heap.size wr w') : TyR w w' v kv K :=
  ⟨blk_later hb h.box, h.row.kept (Kept.ofBelow hb []) (by simp), h.own, below_next h.bl hb⟩
theorem TyR.keptX {w wr w0 w' : World} {v : Val} {kv : Value} {K : List Int} (h : TyR w w0 v kv K) (h1 : w.heap.size < wr.heap.size) (h2 : ∀ g ∈ blk kv, g < wr.heap.size)
    (hk : KeptX (fun k => k < wr.heap.size) w0 w') : TyR w w' v kv K := by
  refine ⟨(hk.block _ h1).trans h.box, ?_, h.own, h.bl.trans (hk.below fun k hk2 => by omega)⟩
  obtain ⟨hl, hr⟩ := h.row
  refine ⟨hl, ?_⟩
  rcases hr with hr | ⟨g, cap, cur, rfl, hg, hc0, r⟩
  · exact .inl hr
  · refine .inr ⟨g, cap, cur, rfl, (hk.block g (h2 g ?_)).trans hg, hc0, r⟩
    obtain ⟨c, rfl⟩ : ∃ c, cap = c + 1 := ⟨cap - 1, by omega⟩
    simp [blk]
theorem ints_snoc (l : List Int) (x : Int) : ints l ++ [.int .i64 x] = ints (l ++ [x]) := by simp [ints]
theorem TyR.next {w wr w3 : World} {v : Val} {Ak : Option Addr} {k ck : Nat} {xs : List Int} (h : TyR w wr v (.slice Ak k ck) ((xs.take k).map kindOf)) (hk : k < xs.length) (t : Int) (ht : xs.getD k 0 = t) (o : Obj) {kv3 : Value}
    (hr : Row w3 3 1 kv3 (k + 1) (ints ((xs.take k).map kindOf) ++ [.int .i64 (kindOf t)])) (hkk : Kept (blk (.slice Ak k ck)) (wr.alloc o) w3) (hb : ∀ g ∈ blk kv3, g ∈ blk (.slice Ak k ck) ∨ (wr.alloc o).heap.size ≤ g) : TyR w w3 v kv3 ((xs.take (k + 1)).map kindOf) := by
  have hbx := blk_lt h.box
  have e : (xs.take (k + 1)).map kindOf = (xs.take k).map kindOf ++ [kindOf t] := by
    rw [List.take_succ_eq_append_getElem hk, List.map_append]
    simp [hk] at ht
    simp [ht]
  refine ⟨hkk.heap (blk_alloc h.box _) (fun hm => (h.own _ hm).2 rfl), ?_, fun g hg => ?_, ?_⟩
  · rw [ints_snoc] at hr
    rw [e]
    have hl : ((xs.take k).map kindOf ++ [kindOf t]).length = k + 1 := by simp; omega
    rw [hl]
    exact hr
  · rcases hb g hg with h1 | h1
    · exact h.own g h1
    · simp at h1; omega
  · refine (below_alloc h.bl o).trans (hkk.below (fun i hi => (h.own i hi).1) ?_)
    have := h.bl.size
    simp; omega
theorem num_type (w : World) (ads : List Addr) (hS : Sent w 127 errGs ads) (a : Addr) (ha : ads[4]? = some a) : Calls Tryd.prog 23 #[.iface 127 (.pointer (some a))] w (Ret w (.int .i64 5)) := num_err w ads hS 4 a ha
theorem good_is (v : Val) (z : Bool) (w : World) (h : Hid (v.good = z)) : Calls Tryd.prog 22 #[.agg #[.int .i64 v.t, .int .i64 v.n, .int .u64 v.b]] w (Ret w (.bool z)) := by
  have := valGood_any v.t v.n v.b w
  rwa [show Val.good ⟨v.t, v.n, v.b⟩ = z from h] at this
theorem ty_cells {w wr : World} {v : Val} {kv : Value} {K : List Int} {gk m : Nat} {kd : Int} (h : TyR w wr v kv K) (hk : wr.cell? ⟨gk, m, none⟩ = some (.int .i64 kd)) :
    wr.cell? ⟨w.heap.size, 0, none⟩ = some (.int .i64 v.t) ∧ wr.cell? ⟨w.heap.size, 1, none⟩ = some (.int .i64 v.n) ∧ wr.cell? ⟨w.heap.size, 2, none⟩ = some (.int .u64 v.b) ∧ wr.cell? ⟨gk, m, none⟩ = some (.int .i64 kd) := by
  obtain ⟨a0, a1, a2, _, _, _, _⟩ := blk3 h.box
  exact ⟨a0, a1, a2, hk⟩
set_option maxRecDepth 100000 in
set_option maxHeartbeats 8000000 in
theorem types_law (xs : List Int) (A : Option Addr) (c : Nat) (p : Int) (v : Val) (w : World) (ads : List Addr) (hS : Sent w 127 errGs ads) (er et : Addr) (hE : Errs w er et) (he : ads[4]? = some et) (hx : RI w A xs) :
    Calls Tryd.prog 6 #[.slice A xs.length c, .int .i64 p, .agg #[.int .i64 v.t, .int .i64 v.n, .int .u64 v.b]] w (Ret w (.bool true)) := by
  have hxl := hx.len
  have HE := Lib.hid hE
  have HX := Lib.hid hx
  have HS := Lib.hid hS
  have HA := Lib.hid he
  clear hE hx hS he
  have below_box : Below w.heap.size w (w.alloc (.cells #[.int .i64 v.t, .int .i64 v.n, .int .u64 v.b] 37)) := below_alloc (Below.refl _ _) _
  have HBX := Lib.hid below_box
  clear below_box
  by_cases hlen : xs.length < 1 ∨ 128 < xs.length
  · have hn : ∀ W, Below w.heap.size w W → True := fun _ _ => trivial
    clear hn
    by_cases h1 : xs.length < 1
    · have d1 : decide ((xs.length : Int) < 1) = true := decide_eq_true (by omega)
      clear hlen h1
      go_enter Tryd.func6, Tryd.ntmps6
      go_wp2_with fail
      refine (alive_any _ er et (HE.out.later HBX.out)).mono ?_
      rintro e w1 ⟨rfl, hb⟩
      go_wp2_with fail
      go_ret
      exact ⟨rfl, below_next HBX.out hb⟩
    · have d1 : decide ((xs.length : Int) < 1) = false := decide_eq_false (by omega)
      have d2 : decide (128 < (xs.length : Int)) = true := decide_eq_true (by omega)
      clear hlen h1
      go_enter Tryd.func6, Tryd.ntmps6
      go_wp2_with fail
      refine (alive_any _ er et (HE.out.later HBX.out)).mono ?_
      rintro e w1 ⟨rfl, hb⟩
      go_wp2_with fail
      go_ret
      exact ⟨rfl, below_next HBX.out hb⟩
  have d1 : decide ((xs.length : Int) < 1) = false := decide_eq_false (by omega)
  have d2 : decide (128 < (xs.length : Int)) = false := decide_eq_false (by omega)
  have HL := Lib.hid (show 1 ≤ xs.length ∧ xs.length ≤ 128 by omega)
  clear hlen
  go_enter Tryd.func6, Tryd.ntmps6
  go_wp2_with fail
  refine (alive_any _ er et (HE.out.later HBX.out)).mono ?_
  rintro e w1 ⟨rfl, hb⟩
  have hbox := blk_later hb (blk_new w (.cells #[.int .i64 v.t, .int .i64 v.n, .int .u64 v.b] 37))
  have hlt1 := blk_lt hbox
  replace hb := below_next HBX.out hb
  have H0 : Hid (TyR w (w1.alloc (.cells #[] 3)) v (.slice (some ⟨w1.heap.size, 0, none⟩) 0 0) []) := ⟨blk_alloc hbox _, Row.empty _ _ _ _, by simp [blk], below_alloc hb _⟩
  clear hbox hb hlt1
  go_wp2_with fail
  go_loopw [7, 27] (fun kv i wr => ∃ (k : Nat) (Ak : Option Addr) (ck : Nat), k ≤ xs.length ∧ i = .int .i64 k ∧ kv = .slice Ak k ck ∧ Hid (TyR w wr v (.slice Ak k ck) ((xs.take k).map kindOf))) (fun _ i _ => xs.length - (intOf i).toNat)
  case atStart => exact ⟨0, _, _, Nat.zero_le _, rfl, rfl, by simpa using H0⟩
  case round =>
    obtain ⟨k, Ak, ck, hk, rfl, rfl, hP⟩ := hrel
    by_cases hlt : k < xs.length
    · obtain ⟨b1, o1, rfl, c1⟩ := (HX.out.later hP.out.bl).at k hlt
      obtain ⟨t, et'⟩ : ∃ t, xs.getD k 0 = t := ⟨_, rfl⟩
      rw [et'] at c1
      obtain ⟨m, hm, em, ek⟩ := kindOf_at t
      have ET := Lib.hid et'
      have EK := Lib.hid ek
      clear et' ek
      have hm2 : (m : Int) < 3 := by omega
      have hk128 : k ≤ 128 := by have := HL.out.2; omega
      have HROW := Lib.hid (show Row wr 3 1 (.slice Ak k ck) k (ints ((xs.take k).map kindOf)) by have := hP.out.row; simpa [Nat.min_eq_left hk] using this)
      go_wp2_with (at_builtin; refine append_row (by rfl) _ _ _ 3 (.int .i64 0) 1 8 (by rfl) Tryd.underlying22 infoInt (by rfl) (by omega) (.slice Ak k ck) k (ints ((xs.take k).map kindOf)) (by rfl) (HROW.out.kept (Kept.ofBelow (below_alloc (Below.refl _ _) _) []) (by simp)) (some ⟨wr.heap.size, 0, none⟩) 1 1 [.int .i64 (1 + (m : Int))] (by rfl) (by rfl) (by simp) (by omega) (rd_blk (T := 3) (blk_new wr _) (by simp [maxLen])) (by simp [Value.oneCell']) (by simp only [maxLen]; omega) (by omega) ?_; intro v1 w3 hrow3 hkk hb3)
      obtain ⟨A3, c3, rfl, _⟩ := hrow3.form
      have HN : Hid (TyR w w3 v (.slice A3 (k + 1) c3) ((xs.take (k + 1)).map kindOf)) := hP.out.next hlt t ET.out _ (by rw [EK.out]; exact hrow3) hkk hb3
      clear hrow3 hkk hb3 hP
      go_wp2
      go_roundw
      case rel => exact ⟨k + 1, A3, c3, by omega, by go_num, rfl, HN⟩
      case measure => simp [intOf]; omega
    · have HKL : Hid (k = xs.length) := by show _ = _; omega
      have H1 : Hid (TyR w wr v (.slice Ak k ck) (xs.map kindOf)) := by
        have h1 := hP.out
        rw [HKL.out, List.take_length] at h1
        rw [HKL.out]
        exact h1
      obtain ⟨m, hm, em⟩ := mod_nat p k (by have h1 := HKL.out; have h2 := HL.out; omega) (by have h1 := HKL.out; have h2 := HL.out; omega)
      have ek : IntKind.u64.wrap (k : Int) = (k : Int) := IntWalk.u64_in _ (by have h1 := HKL.out; have h2 := HL.out; omega)
      have e0 : ((k : Int) == 0) = false := by have h1 := HKL.out; have h2 := HL.out; simp; omega
      have e1 : ¬ (k : Int) = 0 := by have h1 := HKL.out; have h2 := HL.out; omega
      have hmk : (m : Int) < (k : Int) := by omega
      clear hP
      obtain ⟨gk, ca, ea, _, _, _, hgk, hkc, _⟩ := H1.out.row.mid (by have h1 := HKL.out; have h2 := HL.out; simp; omega)
      injection ea with ea e2' e3'
      subst ea e3'
      clear e2'
      obtain ⟨kd, hkd⟩ : ∃ kd, (xs.map kindOf)[m]? = some kd := ⟨_, List.getElem?_eq_getElem (by have h1 := HKL.out; simp; omega)⟩
      have kc := hkc m _ (ints_at hkd)
      have okd : okType kd = true := List.all_eq_true.1 (kinds_ok xs) kd (List.mem_of_getElem? hkd)
      have HKD := Lib.hid hkd
      have HOK := Lib.hid okd
      have hplace : (newSt (xs.map kindOf) 0 [] 0).places[m]? = some ⟨kd, 0, 0⟩ := by
        show ((xs.map kindOf).map fun t => (⟨t, 0, 0⟩ : Val))[m]? = _
        rw [List.getElem?_map, hkd]; rfl
      have HPL := Lib.hid hplace
      have hkl : (xs.map kindOf).length = k := by have h1 := HKL.out; simp; omega
      have hnew : ∀ W, Below w.heap.size w W → RI W (some ⟨gk, 0, none⟩) (xs.map kindOf) → Calls Tryd.prog 9 #[.slice (some ⟨gk, 0, none⟩) k ck, .int .i64 0, .slice none 0 0, .int .i64 0] W (MadeO W (newSt (xs.map kindOf) 0 [] 0)) := by
        intro W hW hR
        have h := new_made (xs.map kindOf) 0 0 [] (some ⟨gk, 0, none⟩) none ck 0 W er et (HE.out.later hW) hR (rd_none _) (by
          have h2 := HL.out
          simp only [newOk, kinds_ok, List.length_map]
          simp; omega)
        rw [hkl] at h
        exact h
      have HNEW := Lib.hid hnew
      have hrow1 := H1.out.row
      rw [hkl] at hrow1
      have HRI : Hid (RI wr (some ⟨gk, 0, none⟩) (xs.map kindOf)) := Row.rd hrow1 (by have h1 := HKL.out; have h2 := HL.out; simp only [maxLen]; omega)
      have hlow := (blk_lt H1.out.box)
      have hkv := H1.out.row.lt
      have HKV := Lib.hid hkv
      clear hkc hkd okd hplace hkl hnew hkv hrow1
      go_wp2_with fail
      refine (HNEW.out wr H1.out.bl HRI.out).mono ?_
      rintro e w4 ⟨b, rfl, hO, hb4⟩
      have HO := Lib.hid hO
      have H4 := Lib.hid (H1.out.later hb4)
      have HK4 := Lib.hid (cell_below hb4 hgk kc)
      clear hO hb4 H1 HRI HNEW kc
      obtain ⟨a0, a1, a2, _, _, _, _⟩ := blk3 H4.out.box
      go_wp2_with fail
      by_cases hg : v.good = true
      · by_cases ht : v.t = kd
        · have HG : Hid (v.good = true) := hg
          have HT : Hid (v.t = kd) := ht
          refine (o_write_in HO.out m ⟨kd, 0, 0⟩ v HPL.out hg ht).mono ?_
          rintro e w5 ⟨rfl, hO, hk5⟩
          have H5 := Lib.hid (H4.out.keptX hlow HKV.out hk5)
          have HK5 := Lib.hid ((World.cell?_of_block (hk5.block gk hgk)).trans HK4.out)
          have HO5 := Lib.hid hO
          have hnq : (v.t != kd) = false := by simp [ht]
          clear hO hk5 H4 HK4 HO hg a0 a1 a2
          go_wp2_with fail
          refine (o_read_in HO5.out m v (by have h1 := (List.getElem?_eq_some_iff.1 HPL.out).1; simp only [List.getElem?_set_self h1])).mono ?_
          rintro e w6 ⟨rfl, hb6⟩
          have H6 := Lib.hid (H5.out.later hb6)
          have HK6 := Lib.hid (cell_later hb6 HK5.out)
          clear hb6 H5 HK5 HO5 ht
          have HS6 := Lib.hid (HS.out.later H6.out.bl)
          obtain ⟨a0, a1, a2, _, _, _, az⟩ := blk3 H6.out.box
          have kc6 := HK6.out
          have kz6 := cell_lt kc6
          go_wp2_with fail
          go_region_held3 (fun w' => w'.cell? ⟨w.heap.size, 0, none⟩ = some (.int .i64 v.t) ∧ w'.cell? ⟨w.heap.size, 1, none⟩ = some (.int .i64 v.n) ∧ w'.cell? ⟨w.heap.size, 2, none⟩ = some (.int .u64 v.b) ∧ w'.cell? ⟨gk, m, none⟩ = some (.int .i64 kd)) (first | go_keep | exact ⟨q0, q1, q2, q3⟩)
            (first | (go_at_call 22; refine (good_is v _ _ HG).mono ?_; rintro e w7 ⟨rfl, hb7⟩; obtain ⟨q0, q1, q2, q3⟩ := ty_cells (H6.out.later (below_next (below_drew1 (below_alloc (Below.refl _ _) _)) hb7)) (cell_later (below_next (below_drew1 (below_alloc (Below.refl _ _) _)) hb7) HK6.out)))
          all_goals
            have hbb := below_next (w := w6.alloc (.cells #[.int .i64 v.t, .int .i64 v.n, .int .u64 v.b] 37)) (below_drew1 (Below.refl _ _)) hb7
            obtain ⟨b0, b1, b2, _, _, _, bz⟩ := blk3 (blk_later hbb (blk_new w6 _))
            have H7 := Lib.hid (H6.out.later (below_next (below_alloc (Below.refl _ _) _) hbb))
            clear hb7 hbb
            go_wp2_with fail
            go_ret
            exact ⟨rfl, H7.out.bl⟩
        · have hnq : (v.t != kd) = true := by simpa using ht
          have HG : Hid (v.good = true) := hg
          refine (o_write_bad HO.out m ⟨kd, 0, 0⟩ v (HE.out.later H4.out.bl) HPL.out (.inr ht)).mono ?_
          rintro e w5 ⟨rfl, hb5⟩
          have H5 := Lib.hid (H4.out.later hb5)
          have HK5 := Lib.hid (cell_later hb5 HK4.out)
          have HO5 := Lib.hid (HO.out.later hb5)
          clear hb5 H4 HK4 HO a0 a1 a2
          unfold errV
          go_wp2_with fail
          refine (o_read_in HO5.out m ⟨kd, 0, 0⟩ HPL.out).mono ?_
          rintro e w6 ⟨rfl, hb6⟩
          have H6 := Lib.hid (H5.out.later hb6)
          have HK6 := Lib.hid (cell_later hb6 HK5.out)
          clear hb6 H5 HK5 HO5
          have HS6 := Lib.hid (HS.out.later H6.out.bl)
          obtain ⟨a0, a1, a2, _, _, _, az⟩ := blk3 H6.out.box
          have kc6 := HK6.out
          have kz6 := cell_lt kc6
          go_wp2_with fail
          go_region_held3 (fun w' => w'.cell? ⟨w.heap.size, 0, none⟩ = some (.int .i64 v.t) ∧ w'.cell? ⟨w.heap.size, 1, none⟩ = some (.int .i64 v.n) ∧ w'.cell? ⟨w.heap.size, 2, none⟩ = some (.int .u64 v.b) ∧ w'.cell? ⟨gk, m, none⟩ = some (.int .i64 kd)) (first | go_keep | exact ⟨q0, q1, q2, q3⟩)
            (first | (go_at_call 22; refine (good_is v _ _ HG).mono ?_; rintro e w7 ⟨rfl, hb7⟩; obtain ⟨q0, q1, q2, q3⟩ := ty_cells (H6.out.later (below_next (below_drew1 (below_alloc (Below.refl _ _) _)) hb7)) (cell_later (below_next (below_drew1 (below_alloc (Below.refl _ _) _)) hb7) HK6.out)))
          all_goals
            have hbb := below_next (w := w6.alloc (.cells #[.int .i64 kd, .int .i64 0, .int .u64 0] 37)) (below_drew1 (Below.refl _ _)) hb7
            obtain ⟨b0, b1, b2, _, _, _, bz⟩ := blk3 (blk_later hbb (blk_new w6 _))
            have H7 := Lib.hid (H6.out.later (below_next (below_alloc (Below.refl _ _) _) hbb))
            clear hb7 hbb
            go_wp2_with fail
            go_region_held3 (fun w' => w'.cell? ⟨w6.heap.size, 0, none⟩ = some (.int .i64 kd) ∧ w'.cell? ⟨w6.heap.size, 1, none⟩ = some (.int .i64 0) ∧ w'.cell? ⟨w6.heap.size, 2, none⟩ = some (.int .u64 0) ∧ w'.cell? ⟨gk, m, none⟩ = some (.int .i64 kd)) (first | go_keep | exact ⟨cell_later hb8 b0, cell_later hb8 b1, cell_later hb8 b2, cell_later hb8 q3⟩ | exact ⟨cell_later hb9 (cell_later hb8 b0), cell_later hb9 (cell_later hb8 b1), cell_later hb9 (cell_later hb8 b2), cell_later hb9 (cell_later hb8 q3)⟩)
              (first
                | (go_at_call 23; refine (num_type _ ads (by exact HS.out.later (below_next H7.out.bl (below_drew0 _))) et HA.out).mono ?_; rintro e w8 ⟨rfl, hb8'⟩; have hb8 := below_next (w := w7) (below_drew0 _) hb8')
                | (go_at_call 24; refine (valZero_ok kd _ HOK.out).mono ?_; rintro e w9 ⟨rfl, hb9⟩))
            all_goals
              go_wp2_with fail
              go_ret
              exact ⟨rfl, below_next (below_next H7.out.bl hb8) hb9⟩
      · have hgf : v.good = false := by simpa using hg
        have HG : Hid (v.good = false) := hgf
        refine (o_write_bad HO.out m ⟨kd, 0, 0⟩ v (HE.out.later H4.out.bl) HPL.out (.inl hgf)).mono ?_
        rintro e w5 ⟨rfl, hb5⟩
        have H5 := Lib.hid (H4.out.later hb5)
        have HK5 := Lib.hid (cell_later hb5 HK4.out)
        have HO5 := Lib.hid (HO.out.later hb5)
        clear hb5 H4 HK4 HO a0 a1 a2
        unfold errV
        go_wp2_with fail
        refine (o_read_in HO5.out m ⟨kd, 0, 0⟩ HPL.out).mono ?_
        rintro e w6 ⟨rfl, hb6⟩
        have H6 := Lib.hid (H5.out.later hb6)
        have HK6 := Lib.hid (cell_later hb6 HK5.out)
        clear hb6 H5 HK5 HO5
        have HS6 := Lib.hid (HS.out.later H6.out.bl)
        obtain ⟨a0, a1, a2, _, _, _, az⟩ := blk3 H6.out.box
        have kc6 := HK6.out
        have kz6 := cell_lt kc6
        go_wp2_with fail
        first
          | (go_region_with
            (first | (go_at_call 22; refine (good_is v _ _ HG).mono ?_; rintro e w7 ⟨rfl, hb7⟩; obtain ⟨q0, q1, q2, q3⟩ := ty_cells (H6.out.later (below_next (below_drew1 (below_alloc (Below.refl _ _) _)) hb7)) (cell_later (below_next (below_drew1 (below_alloc (Below.refl _ _) _)) hb7) HK6.out))))
          | fail
        all_goals
          have hbb := below_next (w := w6.alloc (.cells #[.int .i64 kd, .int .i64 0, .int .u64 0] 37)) (below_drew1 (Below.refl _ _)) hb7
          obtain ⟨b0, b1, b2, _, _, _, bz⟩ := blk3 (blk_later hbb (blk_new w6 _))
          have H7 := Lib.hid (H6.out.later (below_next (below_alloc (Below.refl _ _) _) hbb))
          clear hb7 hbb
          go_wp2_with fail
          go_region_held3 (fun w' => w'.cell? ⟨w6.heap.size, 0, none⟩ = some (.int .i64 kd) ∧ w'.cell? ⟨w6.heap.size, 1, none⟩ = some (.int .i64 0) ∧ w'.cell? ⟨w6.heap.size, 2, none⟩ = some (.int .u64 0) ∧ w'.cell? ⟨gk, m, none⟩ = some (.int .i64 kd)) (first | go_keep | exact ⟨cell_later hb8 b0, cell_later hb8 b1, cell_later hb8 b2, cell_later hb8 q3⟩ | exact ⟨cell_later hb9 (cell_later hb8 b0), cell_later hb9 (cell_later hb8 b1), cell_later hb9 (cell_later hb8 b2), cell_later hb9 (cell_later hb8 q3)⟩)
            (first
              | (go_at_call 23; refine (num_type _ ads (by exact HS.out.later (below_next H7.out.bl (below_drew0 _))) et HA.out).mono ?_; rintro e w8 ⟨rfl, hb8'⟩; have hb8 := below_next (w := w7) (below_drew0 _) hb8')
              | (go_at_call 24; refine (valZero_ok kd _ HOK.out).mono ?_; rintro e w9 ⟨rfl, hb9⟩))
          all_goals
            go_wp2_with fail
            go_ret
            exact ⟨rfl, below_next (below_next H7.out.bl hb8) hb9⟩
end Go.Proofs.YtmalbdoneghnmaaDoor
