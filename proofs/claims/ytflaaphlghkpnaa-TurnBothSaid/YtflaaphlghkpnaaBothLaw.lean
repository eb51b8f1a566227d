import Derived.Test.YtflaaphlghkpnaaLeft
import Derived.Maps.OwnSet
import Derived.Maps.OwnOps
set_option linter.unusedVariables false
set_option linter.unusedSimpArgs false
/-! TurnBoth: the call: true, whatever comes in. -/
namespace Go.Proofs.Ytflaaphlghkpnaa.BothLaw
open Go.RowKit Go.Shelf Go.Maps Go.Proofs.YtflaaphlghkpnaaW.PrintWords Go.Proofs.YtflaaphlghkpnaaW.PrintLast Go.Proofs.YtflaaphlghkpnaaW.PrintMore Go.Proofs.Ytflaaphlghkpnaa.Iter Go.Proofs.Ytflaaphlghkpnaa.Awake1 Go.Proofs.Ytflaaphlghkpnaa.Once Go.Proofs.Ytflaaphlghkpnaa.Shift Go.Proofs.Ytflaaphlghkpnaa.Left

theorem wl_bounds : ∀ (l : List Bool) (i x : Int), x ∈ wl i l → i ≤ x ∧ x < i + l.length
  | [], i, x, h => by simp [wl] at h
  | b :: l, i, x, h => by
    have hl : ((b :: l).length : Int) = (l.length : Int) + 1 := by simp
    rw [hl]
    unfold wl at h
    split at h
    · rcases List.mem_cons.1 h with rfl | h
      · omega
      · have := wl_bounds l (i + 1) x h; omega
    · have := wl_bounds l (i + 1) x h; omega
theorem wl_both : ∀ (l : List Bool) (i x : Int), (wl i l).count x + (wl i (l.map (!·))).count x = if i ≤ x ∧ x < i + l.length then 1 else 0
  | [], i, x => by simp [wl]; try omega
  | b :: l, i, x => by
    have ih := wl_both l (i + 1) x
    have hl : ((b :: l).length : Int) = (l.length : Int) + 1 := by simp
    rw [hl]
    have h0 : ¬ (i + 1 ≤ i) := by omega
    by_cases hx : i = x
    · subst hx
      rw [if_neg (by omega)] at ih
      rw [if_pos (by omega)]
      cases b <;> simp [wl] <;> omega
    · have e : (i ≤ x ∧ x < i + ((l.length : Int) + 1)) ↔ (i + 1 ≤ x ∧ x < i + 1 + l.length) := by omega
      simp only [e]
      rw [← ih]
      cases b <;> simp [wl, List.count_cons, hx]
theorem wl_lens : ∀ (l : List Bool) (i : Int), (wl i l).length + (wl i (l.map (!·))).length = l.length
  | [], i => by simp [wl]
  | b :: l, i => by
    have ih := wl_lens l (i + 1)
    cases b <;> simp [wl] <;> omega

theorem law3 : Keyed Try.prog 3 := int_keyed Try.underlying3
theorem zero3 (w : World) : (zeroValue 3).run Try.prog w = .ok (.int .i64 0) w := by kernel_rfl
theorem info4 : (Try.prog.info? 4).map (fun i => (i.zero, i.size, i.bytes)) = some (some (.bool false), 1, 1) := by kernel_rfl

/-- The map D counts the list. -/
def Cnt (D : DataW Unit) (l : List Int) : Prop := IsMap D ∧ ∀ x : Int, (Lit.int .i64 x).wf = true → D.atKey (.int .i64 x) (.lit (.int .i64 0)) = .lit (.int .i64 (l.count x))
theorem cnt_nil : Cnt (.map []) [] := ⟨isMap_empty, fun x _ => rfl⟩
theorem cnt_snoc {D : DataW Unit} {l : List Int} (h : Cnt D l) (x : Int) (hx : (Lit.int .i64 x).wf = true) (c : Int) (hc : c = (l.count x : Int) + 1) : Cnt (D.put (.int .i64 x) (.lit (.int .i64 c))) (l ++ [x]) := by
  refine ⟨h.1.put _ _, fun y hy => ?_⟩
  by_cases e : y = x
  · subst e
    rw [atKey_put_same h.1 (by first | exact trivial | exact hx | simp [WideAt.IsKeyLit]), hc]
    simp
  · rw [atKey_put_other (fun h => e (by injection h))]
    rw [h.2 y hy]
    have : List.count y [x] = 0 := by simp [List.count_cons, Ne.symm e]
    rw [List.count_append, this]
    simp

theorem cnt_step {D : DataW Unit} {l0 l : List Int} {q : Nat} {X cc : Int} (h : Cnt D (l0 ++ l.take q)) (hX : l[q]? = some X) (hx : (Lit.int .i64 X).wf = true) (hl : l0.length + l.length ≤ 1000000)
    (hat : D.atKey (.int .i64 X) (.lit (.int .i64 0)) = .lit (.int .i64 cc)) : Cnt (D.put (.int .i64 X) (.lit (.int .i64 (wrap64 (cc + 1))))) (l0 ++ l.take (q + 1)) := by
  have e := h.2 X hx
  rw [hat] at e
  injection e with e
  injection e with _ e
  have hc := List.count_le_length (a := X) (l := l0 ++ l.take q)
  have hq : (l.take q).length ≤ l.length := by rw [List.length_take]; omega
  rw [List.length_append] at hc
  rw [List.take_add_one, hX]
  show Cnt _ (l0 ++ (l.take q ++ [X]))
  rw [← List.append_assoc]
  exact cnt_snoc h X hx _ (by subst e; unfold wrap64; omega)

theorem bools_row {w : World} {g : Nat} {cur : Array Value} {n : Nat} {xs : List Bool} (hb : w.heap[g]? = some (.cells cur 4 (0, 0))) (hn : n ≤ maxLen) (hl : xs.length = n) (hc : ∀ i, i < n → cur[i]? = some (.bool (xs.getD i false))) : Kd.bool.C w (some ⟨g, 0, none⟩) n xs := by
  refine ⟨hl, by unfold maxLen at hn; omega, fun _ => ⟨_, rfl, fun j p hj => ⟨[.bool p], rfl, rfl, fun i u hu => ?_⟩⟩⟩
  have hi : i = 0 := by
    rcases Nat.lt_or_ge i 1 with h | h
    · omega
    · rw [List.getElem?_eq_none (by simpa using h)] at hu; cases hu
  subst hi
  simp at hu
  subst hu
  have hjn : j < n := by rw [← hl]; exact (List.getElem?_eq_some_iff.1 hj).1
  have := hc j hjn
  rw [List.getD_eq_getElem?_getD, hj] at this
  have ht : cur[j]? = some (.bool p) := by simpa using this
  by_cases h0 : j = 0
  · subst h0
    simpa [World.cell?, hb, Addr.add, Kd.bool, Kd.scalar] using ht
  · simpa [World.cell?, hb, Addr.add, Kd.bool, Kd.scalar, h0] using ht

set_option maxHeartbeats 2000000 in
set_option maxRecDepth 100000 in
theorem out (w : World) (A : Option Addr) (c : Nat) (xs : List Bool) (h : xs.length > 300) : Calls Try.prog 10 #[.slice A xs.length c] w fun e w' => e = .returned (.bool true) ∧ Below w.heap.size w w' := by
  have h3 : (xs.length : Int) > 300 := by omega
  go_enter Try.func10, Try.ntmps10
  go_wp2_with fail
  refine (awake_calls _).mono ?_
  rintro e w' ⟨rfl, hb⟩
  go_wp2_with fail
  go_ret
  exact ⟨rfl, hb⟩

theorem whereN (A : Option Addr) (c : Nat) (xs : List Bool) (n : Nat) (hn : xs.length = n) (w : World) (hr : Kd.C Kd.bool w A n xs) (hc : n ≤ c) (hl : n ≤ 300) :
    Calls Try.prog 21 #[.slice A n c] w fun e w' => ∃ g, e = .returned (.func (.func 27) #[] #[.pointer (some ⟨g, 0, none⟩)]) ∧
      (∃ A1 c1, w'.heap[g]? = some (.cells #[.slice A1 n c1] 34 (0, 0)) ∧ Kd.C Kd.bool w' A1 n xs ∧ (∀ ad, A1 = some ad → ad.block < w'.heap.size)) ∧ Below w.heap.size w w' := by
  subst hn
  refine (where_calls A c xs w hr hc (by omega)).mono ?_
  rintro e w' ⟨g, A1, c1, rfl, h1, h2, h3, h4, h5⟩
  exact ⟨g, rfl, ⟨A1, c1, h1, h2, fun ad e => (h4 ad e).2⟩, h5⟩
theorem firstN (g : Nat) (xs : List Bool) (n m : Nat) (hn : xs.length = n) (hm : (wl 0 xs).length = m) (hl : n ≤ 300) (w : World) (h : ∃ A1 c1, w.heap[g]? = some (.cells #[.slice A1 n c1] 34 (0, 0)) ∧ Kd.C Kd.bool w A1 n xs ∧ (∀ ad, A1 = some ad → ad.block < w.heap.size)) :
    Calls Try.prog 19 #[.func (.func 27) #[] #[.pointer (some ⟨g, 0, none⟩)], .int .i64 400] w fun e W' => ∃ A c, e = .returned (.slice A m c) ∧ Kd.C (Kd.int .i64) W' A m (wl 0 xs) ∧ Below w.heap.size w W' := by
  subst hn
  obtain ⟨A1, c1, h1, h2, h3⟩ := h
  have hw := wl_length_le xs 0
  have ht : (wl 0 xs).take (400 : Int).toNat = wl 0 xs := List.take_of_length_le (by simp; omega)
  refine (first_where g A1 c1 xs 400 (by omega) w h1 h2 h3 (by omega)).mono ?_
  rintro e W' ⟨A, c, rfl, _, hC, _, hb⟩
  rw [ht] at hC ⊢
  rw [hm] at hC ⊢
  exact ⟨A, c, rfl, hC, hb⟩

set_option maxHeartbeats 4000000 in
set_option maxRecDepth 100000 in
theorem main (w : World) (A : Option Addr) (c : Nat) (xs : List Bool) (n : Nat) (hxn : xs.length = n) (h : n ≤ 300) (hr : Kd.bool.C w A n xs) (hc : n ≤ c) :
    Calls Try.prog 10 #[.slice A n c] w fun e w' => e = .returned (.bool true) ∧ Below w.heap.size w w' := by
  have hmm := @run_makeMap Try.prog
  have h3 : ¬ (n : Int) > 300 := by omega
  obtain ⟨i0, hi, hz0, hz1, hz2⟩ := info_parts info4
  have HR := Lib.hid hr
  clear hr
  go_enter Try.func10, Try.ntmps10
  go_wp2_with (at_make; go_loud (refine wpList_make_full _ rfl _ _ 34 rfl w.heap.size 4 i0 (.bool false) 1 Try.underlying34 hi hz0 hz1 .i64 .i64 _ _ n rfl rfl rfl rfl (by rw [hz2]; omega) (by unfold maxLen; omega) (Nat.le_refl _) ?_; intro w1 hown1 hgrow1))
  obtain ⟨cur1, hcur1, hsz1⟩ : ∃ cur, w1.heap[w.heap.size]? = some (.cells cur 4 (0, 0)) ∧ cur.size = n := by
    rcases hown1.2 with ⟨h1, _⟩ | ⟨g, cap, cur, e, _, hb, _, _, hs, _⟩
    · cases h1
    · injection e with e1 e2 e3
      injection e1 with e1
      injection e1 with e1
      subst e1
      subst e3
      exact ⟨cur, hb, by omega⟩
  have HB1 := Lib.hid (show Below w.heap.size w w1 from (Below.refl _ _).grown hgrow1 (Nat.le_refl _) (fun j e => by cases e))
  have HC1 := Lib.hid (show ∃ cur, w1.heap[w.heap.size]? = some (.cells cur 4 (0, 0)) ∧ cur.size = n ∧ (∀ i, i < 0 → cur[i]? = some (.bool (!(xs.getD i false)))) from ⟨cur1, hcur1, hsz1, fun i hi => absurd hi (by omega)⟩)
  clear hown1 hgrow1 hcur1 hsz1
  go_loopw [23] (fun v23 wr => ∃ j : Nat, j ≤ n ∧ v23 = .int .i64 (j : Int) ∧ Hid (Below w.heap.size w wr) ∧ Hid (∃ cur, wr.heap[w.heap.size]? = some (.cells cur 4 (0, 0)) ∧ cur.size = n ∧ (∀ i, i < j → cur[i]? = some (.bool (!(xs.getD i false)))))) (fun v23 _ => n - (intOf v23).toNat)
  case atStart => exact ⟨0, Nat.zero_le _, rfl, HB1, HC1⟩
  case round =>
    obtain ⟨j, hj, rfl, HB, HC⟩ := hrel
    by_cases hlt : j < n
    · obtain ⟨ad, e, ha1⟩ := bool_at HR.out j hlt
      cases e
      replace ha1 := pw_cell_below HB.out ha1
      have hgx : xs.getD j false = xs[j]'(by omega) := by simp [List.getD_eq_getElem?_getD, List.getElem?_eq_getElem (show j < xs.length by omega)]
      have HGX := Lib.hid hgx
      clear hgx
      obtain ⟨cur, hcur, hsz, hall⟩ := HC.out
      obtain ⟨u, hu⟩ : ∃ u, cur[j]? = some u := ⟨cur[j]'(by omega), by rw [Array.getElem?_eq_getElem]⟩
      have hcu : wr.cell? ⟨w.heap.size, j, none⟩ = some u := by simp [World.cell?, hcur, hu]
      have hfu : wr.frozen? ⟨w.heap.size, j, none⟩ = false := frozen_of_row wr _ j cur 4 hcur
      have HCUR := Lib.hid hcur
      have HALL := Lib.hid hall
      have HSZ := Lib.hid hsz
      have i0' : (0 : Int) ≤ (j : Int) := by omega
      have i1 : (j : Int) < (n : Int) := by omega
      clear hcur hall hsz hu HC
      go_wp2_with fail
      go_roundw
      case rel =>
        refine ⟨j + 1, by omega, by go_num, HB.out.setCell (p := ⟨w.heap.size, j, none⟩) (Nat.le_refl _) _, cur.setIfInBounds j (.bool !(xs.getD j false)), ?_, by simp [HSZ.out], fun i hi => ?_⟩
        · rw [HGX.out]; exact heap_setCell_same wr _ j cur 4 _ HCUR.out
        · by_cases e : i = j
          · subst e
            rw [Array.getElem?_setIfInBounds_self_of_lt (by have := HSZ.out; omega)]
          · rw [Array.getElem?_setIfInBounds_ne (by omega)]
            exact HALL.out i (by omega)
      case measure => simp [intOf]; omega
    · have HX := Lib.hid (show Kd.bool.C wr (some ⟨w.heap.size, 0, none⟩) n (xs.map (!·)) from by
        obtain ⟨cur, hcur, hsz, hall⟩ := HC.out
        refine bools_row hcur (by unfold maxLen; omega) (by simp [hxn]) (fun i hi => ?_)
        rw [hall i (by omega)]
        simp [List.getD_eq_getElem?_getD, List.getElem?_eq_getElem (show i < xs.length by omega)])
      clear HC HC1
      have hjn : n = j := by omega
      subst hjn
      obtain ⟨m1, hm1⟩ : ∃ m, (wl 0 xs).length = m := ⟨_, rfl⟩
      obtain ⟨m2, hm2⟩ : ∃ m, (wl 0 (xs.map (!·))).length = m := ⟨_, rfl⟩
      have hsum : m1 + m2 = n := by have := wl_lens xs 0; rw [hm1, hm2, hxn] at this; exact this
      have HM1 := Lib.hid hm1
      have HM2 := Lib.hid hm2
      have HXN := Lib.hid hxn
      clear hm1 hm2 hxn hj hlt HB1
      go_wp2_with fail
      refine (whereN A c xs n HXN.out wr (Kd.C_below HR.out HB.out) hc h).mono ?_
      rintro e w2 ⟨g, rfl, hg, hb⟩
      have HG := Lib.hid hg
      have HX2 := Lib.hid (Kd.C_below HX.out hb)
      have HB2 := Lib.hid (below_step HB.out hb)
      clear hg hb HX HB
      go_wp2_with fail
      refine (firstN g xs n m1 HXN.out HM1.out h w2 HG.out).mono ?_
      rintro e w3 ⟨A3, c3, rfl, hC3, hb⟩
      have HC3 := Lib.hid hC3
      have HX3 := Lib.hid (Kd.C_below HX2.out hb)
      have HB3 := Lib.hid (below_step HB2.out hb)
      clear hC3 hb HX2 HB2 HG
      go_wp2_with fail
      refine (whereN (some ⟨w.heap.size, 0, none⟩) n (xs.map (!·)) n (by simp [HXN.out]) w3 HX3.out (Nat.le_refl _) h).mono ?_
      rintro e w4 ⟨g4, rfl, hg, hb⟩
      have HG := Lib.hid hg
      have HC4 := Lib.hid (Kd.C_below HC3.out hb)
      have HB4 := Lib.hid (below_step HB3.out hb)
      clear hg hb HX3 HB3 HC3
      go_wp2_with fail
      refine (firstN g4 (xs.map (!·)) n m2 (by simp [HXN.out]) HM2.out h w4 HG.out).mono ?_
      rintro e w5 ⟨A5, c5, rfl, hC5, hb⟩
      have HC5 := Lib.hid hC5
      have HC45 := Lib.hid (Kd.C_below HC4.out hb)
      have HB5 := Lib.hid (below_step HB4.out hb)
      clear hC5 hb HC4 HB4 HG
      have hxl := HXN.out
      have hm1 := HM1.out
      have hm2 := HM2.out
      go_wp2_with fail
      go_loopw [43] (fun v43 wq => ∃ (q : Nat) (D : DataW Unit), q ≤ m1 ∧ v43 = .int .i64 (q : Int) ∧ Hid (wq.ownsMap Try.prog 3 (plainElem Try.prog 3) w5.heap.size (q) D) ∧ Hid (Cnt D (([] : List Int) ++ (wl 0 xs).take q)) ∧ Hid (Below w5.heap.size w5 wq)) (fun v43 _ => m1 - (intOf v43).toNat)
      case atStart => exact ⟨0, .map [], Nat.zero_le _, rfl, World.ownsMap_made _ _ _ _, cnt_nil, (Below.refl _ _).alloc (Nat.le_refl _) _⟩
      case round =>
        obtain ⟨q, D, hj, rfl, HO, HN, HB⟩ := hrel
        by_cases hlt : q < m1
        · obtain ⟨ad, e, ha1⟩ := int_at HC45.out q hlt
          cases e
          replace ha1 := pw_cell_below HB.out ha1
          have hml : (wl 0 xs)[q]? = some ((wl 0 xs).getD q 0) := by rw [List.getD_eq_getElem?_getD, List.getElem?_eq_getElem (by omega)]; rfl
          obtain ⟨X, hX⟩ : ∃ X, (wl 0 xs).getD q 0 = X := ⟨_, rfl⟩
          rw [hX] at ha1 hml
          have hbd := wl_bounds _ 0 X (List.mem_of_getElem? hml)
          have hwf : (Lit.int .i64 X).wf = true := WalkArith.wf_i64 (by simp at hbd; omega)
          have hkey := keyOf_int_mk Try.underlying3 hwf
          have HML := Lib.hid hml
          have i0' : (0 : Int) ≤ (q : Int) := by omega
          have i1 : (q : Int) < (m1 : Int) := by omega
          clear hX hml hbd
          go_wp2_with (first
            | (at_lookup; refine wpList_lookup_own_int _ rfl _ _ 49 rfl 3 3 .i64 law3 Try.underlying49 Try.underlying3 (zero3 _) w5.heap.size (q) D rfl HO.out _ _ rfl hkey ?_; intro cc hat hwc)
            | (at_mapUpdate; refine wpList_mapUpdate_own _ rfl _ _ _ 49 rfl 3 3 law3 Try.underlying49 _ w5.heap.size (q) D rfl HO.out (by unfold maxLen; omega) _ _ _ rfl rfl hkey _ [] (plainElem_int Try.underlying3 (wrap64_wf _)) ?_; intro wu hown1 hgrow1))
          go_roundw
          case rel => exact ⟨q + 1, _, by omega, by go_num, hown1, cnt_step HN.out HML.out hwf (by simp [hm1, hm2]; omega) hat, HB.out.grown hgrow1 HB.out.size (fun j hj => by cases hj; exact Nat.le_refl _)⟩
          case measure => simp [intOf]; omega
        · have hqm : m1 = q := by omega
          subst hqm
          rw [List.take_of_length_le (by omega)] at HN
          have HBO := Lib.hid HB.out
          clear hj hlt
          go_wp2_with fail
          go_loopw [54] (fun v54 wq => ∃ (q : Nat) (D : DataW Unit), q ≤ m2 ∧ v54 = .int .i64 (q : Int) ∧ Hid (wq.ownsMap Try.prog 3 (plainElem Try.prog 3) w5.heap.size (m1 + q) D) ∧ Hid (Cnt D (wl 0 xs ++ (wl 0 (xs.map (!·))).take q)) ∧ Hid (Below w5.heap.size w5 wq)) (fun v54 _ => m2 - (intOf v54).toNat)
          case atStart => exact ⟨0, D, Nat.zero_le _, rfl, HO, Lib.hid (by simpa using HN.out), HB⟩
          case round =>
            obtain ⟨q, D, hj, rfl, HO, HN, HB⟩ := hrel
            by_cases hlt : q < m2
            · obtain ⟨ad, e, ha1⟩ := int_at HC5.out q hlt
              cases e
              replace ha1 := pw_cell_below HB.out ha1
              have hml : (wl 0 (xs.map (!·)))[q]? = some ((wl 0 (xs.map (!·))).getD q 0) := by rw [List.getD_eq_getElem?_getD, List.getElem?_eq_getElem (by omega)]; rfl
              obtain ⟨X, hX⟩ : ∃ X, (wl 0 (xs.map (!·))).getD q 0 = X := ⟨_, rfl⟩
              rw [hX] at ha1 hml
              have hbd := wl_bounds _ 0 X (List.mem_of_getElem? hml)
              have hwf : (Lit.int .i64 X).wf = true := WalkArith.wf_i64 (by simp at hbd; omega)
              have hkey := keyOf_int_mk Try.underlying3 hwf
              have HML := Lib.hid hml
              have i0' : (0 : Int) ≤ (q : Int) := by omega
              have i1 : (q : Int) < (m2 : Int) := by omega
              clear hX hml hbd
              go_wp2_with (first
                | (at_lookup; refine wpList_lookup_own_int _ rfl _ _ 49 rfl 3 3 .i64 law3 Try.underlying49 Try.underlying3 (zero3 _) w5.heap.size (m1 + q) D rfl HO.out _ _ rfl hkey ?_; intro cc hat hwc)
                | (at_mapUpdate; refine wpList_mapUpdate_own _ rfl _ _ _ 49 rfl 3 3 law3 Try.underlying49 _ w5.heap.size (m1 + q) D rfl HO.out (by unfold maxLen; omega) _ _ _ rfl rfl hkey _ [] (plainElem_int Try.underlying3 (wrap64_wf _)) ?_; intro wu hown1 hgrow1))
              go_roundw
              case rel => exact ⟨q + 1, _, by omega, by go_num, hown1, cnt_step HN.out HML.out hwf (by simp [hm1, hm2]; omega) hat, HB.out.grown hgrow1 HB.out.size (fun j hj => by cases hj; exact Nat.le_refl _)⟩
              case measure => simp [intOf]; omega
            · have hqm : m2 = q := by omega
              subst hqm
              rw [List.take_of_length_le (by omega)] at HN
              have HBQ := Lib.hid HB.out
              have HO3 := Lib.hid HO.out
              have HAT := Lib.hid (fun (q : Nat) (hq : q < n) => by
                rw [HN.out.2 (q : Int) (WalkArith.wf_i64 (by omega)), List.count_append, wl_both, if_pos ⟨by omega, by rw [hxl]; omega⟩] : ∀ q : Nat, q < n → D.atKey (.int .i64 (q : Int)) (.lit (.int .i64 0)) = .lit (.int .i64 ((1 : Nat) : Int)))
              have hsum' : (m1 : Int) + (m2 : Int) = (n : Int) := by omega
              have hsw : wrap64 ((m1 : Int) + (m2 : Int)) = (n : Int) := by rw [hsum']; unfold wrap64; omega
              have hsw2 : IntKind.i64.wrap ((m1 : Int) + (m2 : Int)) = (n : Int) := by rw [hsum']; exact IntWalk.i64_in _ (by omega)
              have HSW := Lib.hid hsw
              have HSW2 := Lib.hid hsw2
              clear hj hlt HO HN HB hsum' hsw hsw2
              go_wp2_with fail
              go_loopw [65] (fun vz wz => ∃ q : Nat, q ≤ n ∧ vz = .int .i64 (q : Int) ∧ wz = wr) (fun vz _ => n - (intOf vz).toNat)
              case atStart => exact ⟨0, Nat.zero_le _, rfl, rfl⟩
              case round =>
                obtain ⟨q, hj, rfl, rfl⟩ := hrel
                by_cases hlt : q < n
                · have hkey := keyOf_int_mk Try.underlying3 (show (Lit.int .i64 (q : Int)).wf = true from WalkArith.wf_i64 (by omega))
                  have hone := HAT.out q hlt
                  have i0' : (0 : Int) ≤ (q : Int) := by omega
                  have i1 : (q : Int) < (n : Int) := by omega
                  go_wp2_with (at_lookup; refine wpList_lookup_own_int _ rfl _ _ 49 rfl 3 3 .i64 law3 Try.underlying49 Try.underlying3 (zero3 _) w5.heap.size (m1 + m2) D rfl HO3.out _ _ rfl hkey ?_; intro cc hat hwc; obtain rfl : cc = 1 := by (rw [hone] at hat; injection hat with e1; injection e1 with _ e2; exact e2.symm))
                  go_roundw
                  case rel => exact ⟨q + 1, by omega, by go_num, trivial⟩
                  case measure => simp [intOf]; omega
                · have hsw := HSW.out
                  have hsw2 := HSW2.out
                  go_wp2_with fail
                  refine (awake_calls _).mono ?_
                  rintro e w9 ⟨rfl, hb⟩
                  have HB9 := Lib.hid (below_step (below_step HB5.out HBQ.out) hb)
                  clear hb
                  go_wp2_with fail
                  go_ret
                  exact ⟨rfl, HB9.out⟩

theorem final {ok : Bool → Prop} (W : World) (A0 : Option Addr) (c0 : Nat) (l : List Bool) (hc0 : l.length ≤ c0) (hr0 : Kd.C Kd.bool W A0 l.length l) (hm0 : l.length ≤ maxLen) (hok0 : ∀ x ∈ l, ok x) :
    Calls Try.prog 10 #[.slice A0 l.length c0] W fun e w' => e = .returned (.bool true) ∧ Below W.heap.size W w' := by
  by_cases h : l.length > 300
  · exact out W A0 c0 l h
  · exact main W A0 c0 l l.length rfl (by omega) hr0 hc0
end Go.Proofs.Ytflaaphlghkpnaa.BothLaw
