import Derived.Test.YtflaaphlghkpnaaLeft
set_option linter.unusedVariables false
set_option linter.unusedSimpArgs false
/-! TurnWhere: the call: true, whatever comes in. -/
namespace Go.Proofs.Ytflaaphlghkpnaa.WhereLaw
open Go.RowKit Go.Shelf Go.Proofs.YtflaaphlghkpnaaW.PrintWords Go.Proofs.YtflaaphlghkpnaaW.PrintLast Go.Proofs.YtflaaphlghkpnaaW.PrintMore Go.Proofs.Ytflaaphlghkpnaa.Iter Go.Proofs.Ytflaaphlghkpnaa.Awake1 Go.Proofs.Ytflaaphlghkpnaa.Once Go.Proofs.Ytflaaphlghkpnaa.Shift Go.Proofs.Ytflaaphlghkpnaa.Left
attribute [local go_sem] Oper.semAt_some

set_option maxHeartbeats 2000000 in
set_option maxRecDepth 100000 in
theorem out (w : World) (A : Option Addr) (c : Nat) (xs : List Bool) (h : xs.length > 500) (h2 : xs.length ≤ 9223372036854775807) : Calls Try.prog 6 #[.slice A xs.length c] w fun e w' => e = .returned (.bool true) ∧ Below w.heap.size w w' := by
  have h3 : (xs.length : Int) > 500 := by omega
  go_enter Try.func6, Try.ntmps6
  go_wp2_with fail
  refine (awake_calls _).mono ?_
  rintro e w' ⟨rfl, hb⟩
  have hB : Boxed w' (w.heap.size + 1) 4 (.bool false) := by
    have := blk_below (blk_new (w.alloc (.cells #[.slice A xs.length c] 34)) (.cells #[.bool false] 4)) hb
    unfold Boxed
    simpa using this
  have hc := hB.cell
  have hf := hB.frozen
  have hc2 := (Boxed.set (.bool true) hB).cell
  have HB := Aside0.mk (below_step (below_alloc (below_alloc (Below.refl w.heap.size w) (.cells #[.slice A xs.length c] 34)) (.cells #[.bool false] 4)) hb)
  clear hb hB
  go_wp2_with fail
  exact bodyPost_ret (v := .bool true) (by simp [results, Try.results6, go_sem, hc2]) rfl ⟨rfl, below_set HB.out (by simp)⟩

/-- Rising places in the list, all of them true, from behind one on. -/
def okPre (xs : List Bool) : Int → List Int → Prop
  | _, [] => True
  | last, x :: r => last < x ∧ x < xs.length ∧ xs.getD x.toNat false = true ∧ okPre xs x r
def lastOf : Int → List Int → Int
  | a, [] => a
  | _, x :: r => lastOf x r
theorem lastOf_snoc (a : Int) (l : List Int) (x : Int) : lastOf a (l ++ [x]) = x := by
  induction l generalizing a with
  | nil => rfl
  | cons y l ih => exact ih y
theorem okPre_snoc (xs : List Bool) (a : Int) (l : List Int) (x : Int) : okPre xs a (l ++ [x]) ↔ okPre xs a l ∧ lastOf a l < x ∧ x < xs.length ∧ xs.getD x.toNat false = true := by
  induction l generalizing a with
  | nil => simp [okPre, lastOf]
  | cons y l ih => simp [okPre, lastOf, ih]; constructor <;> (intro h; simp_all)
theorem lastOf_ge (xs : List Bool) : ∀ (l : List Int) (a : Int), okPre xs a l → a ≤ lastOf a l
  | [], a, _ => Int.le_refl _
  | y :: l, a, ⟨h, _, _, hr⟩ => by have := lastOf_ge xs l y hr; show a ≤ lastOf y l; omega
theorem okPre_prefix (xs : List Bool) : ∀ (p l : List Int) (a : Int), p <+: l → okPre xs a l → okPre xs a p
  | [], _, _, _, _ => trivial
  | x :: p, [], a, h, _ => by have := h.length_le; simp at this
  | x :: p, y :: l, a, h, ⟨h1, h2, h3, h4⟩ => by
    obtain ⟨rfl, h'⟩ := List.cons_prefix_cons.1 h
    exact ⟨h1, h2, h3, okPre_prefix xs p l x h' h4⟩
theorem okPre_wl (xs : List Bool) : ∀ (r pre : List Bool) (a : Int), xs = pre ++ r → a < pre.length → okPre xs a (wl pre.length r)
  | [], pre, a, _, _ => trivial
  | b :: r, pre, a, h, ha => by
    have hl : ((pre ++ [b]).length : Int) = (pre.length : Int) + 1 := by simp
    have ih := okPre_wl xs r (pre ++ [b])
    rw [hl] at ih
    unfold wl
    split
    · rename_i hb
      subst hb
      refine ⟨ha, by rw [h]; simp; omega, by rw [h]; simp, ih _ (by simp [h]) (by omega)⟩
    · exact ih a (by simp [h]) (by omega)
theorem wl_count : ∀ (l : List Bool) (i : Int), (wl i l).length = l.countP id
  | [], _ => rfl
  | b :: l, i => by
    unfold wl
    cases b <;> simp [wl_count l]

/-- The state of a loop: the two boxes, and what lay ahead of them. -/
def In (w0 : World) (b : Nat) (last cnt : Int) (W : World) : Prop := Boxed W b 3 (.int .i64 last) ∧ Boxed W (b + 1) 3 (.int .i64 cnt) ∧ Below b w0 W

set_option maxHeartbeats 4000000 in
set_option maxRecDepth 100000 in
theorem main (w : World) (A : Option Addr) (c : Nat) (xs : List Bool) (h : xs.length ≤ 500) (hr : Kd.bool.C w A xs.length xs) (hc : xs.length ≤ c) :
    CallsIn Fence.wide 9 Try.prog 6 #[.slice A xs.length c] w fun e w' => e = .returned (.bool true) ∧ Below w.heap.size w w' := by
  have hq := run_eql_iter38
  have h3 : ¬ (xs.length : Int) > 500 := by omega
  have HR := Lib.hid hr
  have HC := Lib.hid hc
  clear hr hc
  refine callsIn_of_wp_marks Try.func6 rfl trivial ?_ rfl
  simp only [Try.ntmps6, List.size_toArray, List.length_cons, List.length_nil, Nat.reduceAdd, Nat.reduceSub, Array.replicate_succ, Array.replicate_zero, List.push_toArray, List.append_toArray, List.nil_append, List.cons_append]
  gi_wp2_with fail
  refine ⟨trivial, ?_⟩
  obtain ⟨w4, hw4⟩ : ∃ w4, (((w.alloc (.cells #[.slice A xs.length c] 34)).alloc (.cells #[.bool false] 4)).alloc (.cells #[.int .i64 (-1)] 3)).alloc (.cells #[.int .i64 0] 3) = w4 := ⟨_, rfl⟩
  rw [hw4]
  have hz4 : w4.heap.size = w.heap.size + 4 := by rw [← hw4]; simp
  have hB4 : Below w.heap.size w w4 := by rw [← hw4]; exact below_alloc (below_alloc (below_alloc (below_alloc (Below.refl _ _) _) _) _) _
  have q0 : Boxed w4 w.heap.size 34 (.slice A xs.length c) := by rw [← hw4]; exact (((Boxed.new w 34 _).alloc _).alloc _).alloc _
  have q1 : Boxed w4 (w.heap.size + 1) 4 (.bool false) := by rw [← hw4]; have := ((Boxed.new (w.alloc (.cells #[.slice A xs.length c] 34)) 4 (.bool false)).alloc (.cells #[.int .i64 (-1)] 3)).alloc (.cells #[.int .i64 0] 3); rw [World.size_alloc] at this; exact this
  have q2 : Boxed w4 (w.heap.size + 1 + 1) 3 (.int .i64 (-1)) := by rw [← hw4]; have := (Boxed.new ((w.alloc (.cells #[.slice A xs.length c] 34)).alloc (.cells #[.bool false] 4)) 3 (.int .i64 (-1))).alloc (.cells #[.int .i64 0] 3); rw [World.size_alloc, World.size_alloc] at this; exact this
  have q3 : Boxed w4 (w.heap.size + 1 + 1 + 1) 3 (.int .i64 0) := by rw [← hw4]; have := Boxed.new (((w.alloc (.cells #[.slice A xs.length c] 34)).alloc (.cells #[.bool false] 4)).alloc (.cells #[.int .i64 (-1)] 3)) 3 (.int .i64 0); rw [World.size_alloc, World.size_alloc, World.size_alloc] at this; exact this
  have HZ4 := Lib.hid hz4
  have HB4 := Lib.hid hB4
  have Q0 := Lib.hid q0
  have Q1 := Lib.hid q1
  have Q2 := Lib.hid q2
  have Q3 := Lib.hid q3
  clear hz4 hB4 hw4 q0 q1 q2 q3
  refine (callsIn_wide.2 (where_calls A c xs w4 (Kd.C_below HR.out HB4.out) HC.out (by omega))).mono ?_
  rintro e w5 ⟨g, A5, c5, rfl, hg5, hC5, hge, hA5, hb5⟩
  have HB5 := Lib.hid (below_step HB4.out hb5)
  have P0 := Lib.hid (show Boxed w5 w.heap.size 34 (.slice A xs.length c) from blk_below Q0.out hb5)
  have P1 := Lib.hid (show Boxed w5 (w.heap.size + 1) 4 (.bool false) from blk_below Q1.out hb5)
  have P2 := Lib.hid (show Boxed w5 (w.heap.size + 1 + 1) 3 (.int .i64 (-1)) from blk_below Q2.out hb5)
  have P3 := Lib.hid (show Boxed w5 (w.heap.size + 1 + 1 + 1) 3 (.int .i64 0) from blk_below Q3.out hb5)
  have hS : ∀ k, WhereS g A5 k → w4.heap.size ≤ k := fun k hk => by
    rcases hk with rfl | ⟨ad, e, rfl⟩
    · exact hge
    · exact (hA5 ad e).1
  have HS := Lib.hid hS
  have hseq := where_stops 8 g A5 c5 xs w5 hg5 hC5 (by omega)
  have HSEQ := Lib.hid hseq
  have HZ5 := Lib.hid (show w4.heap.size ≤ w5.heap.size from hb5.size)
  clear hg5 hC5 hge hA5 hb5 hS hseq Q0 Q1 Q2 Q3
  gi_wp2_with fail
  refine' wpIn_rangeFunc_ownG rfl (by omega) (gf := 27) (lb := #[.pointer (some ⟨g, 0, none⟩)]) rfl trivial enters27
    HSEQ.out KpS.t (KpS.b (B := w5.heap.size)) (Below.refl _ _) (fun _ => rfl)
    (fun pre W => Boxed W (w.heap.size + 1 + 1) 3 (.int .i64 (lastOf (-1) pre)) ∧ Boxed W (w.heap.size + 1 + 1 + 1) 3 (.int .i64 (pre.length : Int)) ∧ Below (w.heap.size + 2) w5 W ∧ okPre xs (-1) pre)
    (fun c pre W => c = .ret ∧ ¬ okPre xs (-1) pre)
    (OwnFrom.and (Own.from (boxed_own _ _ (fun pre : List Int => .int .i64 (lastOf (-1) pre))) _) (OwnFrom.and (Own.from (boxed_own _ _ (fun pre : List Int => .int .i64 (pre.length : Int))) _) (OwnFrom.and (ownFrom_below (by have := HZ5.out; have := HZ4.out; omega) (by have := HZ5.out; have := HZ4.out; omega)) (ownFrom_pure _ _))))
    (fun c => ownFrom_pure _ (fun pre : List Int => c = .ret ∧ ¬ okPre xs (-1) pre))
    ⟨P2.out, P3.out, Below.refl _ _, trivial⟩
    _ ?assign ?body ?done ?stop
  case assign =>
    intro l x W K hK
    gi_wp2
    exact hK
  case body =>
    rintro l pre x W ⟨hv, hv3, hB, hok⟩ hpl
    have c2 := hv.cell
    have f2 := hv.frozen
    have hBw : Below w.heap.size w W := HB5.out.trans (hB.mono (by omega))
    have b0 : Boxed W w.heap.size 34 (.slice A xs.length c) := (hB.block _ (by omega)).trans P0.out
    have b1 : Boxed W (w.heap.size + 1) 4 (.bool false) := (hB.block _ (by omega)).trans P1.out
    have c0 := b0.cell
    have c1 := b1.cell
    have f1 := b1.frozen
    have hge : -1 ≤ lastOf (-1) pre := lastOf_ge xs pre (-1) hok
    have HOK := Lib.hid hok
    have HBW := Lib.hid hB
    have HBw := Lib.hid hBw
    have HV := Lib.hid hv
    have HV3 := Lib.hid hv3
    have HPL := Lib.hid (show pre.length ≤ 500 by have := wl_length_le xs 0; omega)
    clear hB hBw b0 b1 hok hv hv3 hpl
    obtain ⟨la, hla⟩ : ∃ la, lastOf (-1) pre = la := ⟨_, rfl⟩
    rw [hla] at c2 hge
    have HLA := Lib.hid hla
    clear hla
    by_cases k1 : x ≤ la
    · gi_wp2
      exact ⟨(KeepsOthers.setCell _ _ _).from _, rfl, fun h => by have := ((okPre_snoc xs (-1) pre x).1 h).2.1; have := HLA.out; omega⟩
    · by_cases k2 : x ≥ (xs.length : Int)
      · gi_wp2
        exact ⟨(KeepsOthers.setCell _ _ _).from _, rfl, fun h => by have := ((okPre_snoc xs (-1) pre x).1 h).2.2.1; omega⟩
      · obtain ⟨j, rfl⟩ := Int.eq_ofNat_of_zero_le (show 0 ≤ x by omega)
        obtain ⟨ad, e, hcx⟩ := bool_at HR.out j (by omega)
        cases e
        replace hcx := pw_cell_below HBw.out hcx
        cases hb : xs.getD j false with
        | false =>
          rw [hb] at hcx
          have HJ := Lib.hid hb
          clear hb
          gi_wp2
          exact ⟨(KeepsOthers.setCell _ _ _).from _, rfl, fun h => by have h1 := ((okPre_snoc xs (-1) pre (j : Int)).1 h).2.2.2; have h2 := HJ.out; simp only [Int.toNat_natCast] at h1; rw [h1] at h2; cases h2⟩
        | true =>
          rw [hb] at hcx
          have HJ := Lib.hid hb
          clear hb
          have hv3' := Boxed.other HV3.out (show w.heap.size + 1 + 1 + 1 ≠ w.heap.size + 1 + 1 by omega) (.int .i64 (j : Int))
          have c3 := hv3'.cell
          have f3 := hv3'.frozen
          have HV3' := Lib.hid (Boxed.set (.int .i64 ((pre.length : Int) + 1)) hv3')
          have HV2' := Lib.hid (Boxed.other (Boxed.set (.int .i64 (j : Int)) HV.out) (show w.heap.size + 1 + 1 ≠ w.heap.size + 1 + 1 + 1 by omega) (.int .i64 ((pre.length : Int) + 1)))
          have hpl : (pre.length : Int) ≤ 1000000 := by have := HPL.out; omega
          clear hv3'
          gi_wp2
          refine ⟨((KeepsOthers.setCell _ _ _).trans (KeepsOthers.setCell _ _ _)).from _, (KpS.setCell _ _ _ (fun hk => by have := HS.out _ hk; have := HZ4.out; omega)).trans (KpS.setCell _ _ _ (fun hk => by have := HS.out _ hk; have := HZ4.out; omega)), ?_, ?_, ?_, ?_⟩
          · rw [lastOf_snoc]; exact HV2'.out
          · simpa using HV3'.out
          · exact (HBW.out.setCell (p := ⟨w.heap.size + 1 + 1, 0, none⟩) (by simp) _).setCell (p := ⟨w.heap.size + 1 + 1 + 1, 0, none⟩) (by simp) _
          · exact (okPre_snoc xs (-1) pre (j : Int)).2 ⟨HOK.out, by have := HLA.out; omega, by omega, by simpa using HJ.out⟩
  case done =>
    rintro D ys W hD rfl ⟨hv, hv3, hB, hok⟩ hK
    have HBw := Lib.hid (show Below w.heap.size w W from HB5.out.trans (hB.mono (by omega)))
    have b0 : Boxed W w.heap.size 34 (.slice A xs.length c) := (hB.block _ (by omega)).trans P0.out
    have b1 : Boxed W (w.heap.size + 1) 4 (.bool false) := (hB.block _ (by omega)).trans P1.out
    have c0 := b0.cell
    have HV3 := Lib.hid hv3
    have HB1 := Lib.hid b1
    have HBW := Lib.hid hB
    have HDl := Lib.hid (Array.getElem?_eq_some_iff.1 hK).1
    have HK := Lib.hid hK
    have HD0 := Lib.hid (show w5.heap.size ≤ D from hD)
    have HWC := Lib.hid (wl_count xs 0)
    clear hv hv3 hB hok b0 b1 hK hD
    gi_wp2_with fail
    refine wpIn_wide.2 ?_
    go_loopw [40] (fun v40 wr => ∃ j : Nat, j ≤ xs.length ∧ v40 = .int .i64 (j : Int) ∧ Hid (Boxed wr (w.heap.size + 1 + 1 + 1) 3 (.int .i64 (((xs.drop j).countP id : Nat) : Int))) ∧ Hid (wr.heap[w.heap.size + 1]? = W.heap[w.heap.size + 1]?) ∧ Hid (wr.heap[D]? = W.heap[D]?) ∧ Hid (Below w.heap.size W wr)) (fun v40 _ => xs.length - (intOf v40).toNat)
    case atStart => exact ⟨0, Nat.zero_le _, rfl, by have := HV3.out; rw [HWC.out] at this; exact Lib.hid (by simpa using this), rfl, rfl, Below.refl _ _⟩
    case round =>
      obtain ⟨j, hj, rfl, HC1, HR1, HDD, HB⟩ := hrel
      by_cases hlt : j < xs.length
      · obtain ⟨ad, e, ha1⟩ := bool_at HR.out j hlt
        cases e
        replace ha1 := pw_cell_below HBw.out ha1
        replace ha1 := (HB.out.cell (World.block_lt_of_cell? w _ (by obtain ⟨ad', e', hq'⟩ := bool_at HR.out j hlt; cases e'; exact hq'))).trans ha1
        have hdr : xs.drop j = xs.getD j false :: xs.drop (j + 1) := by rw [List.drop_eq_getElem_cons hlt, List.getD_eq_getElem?_getD, List.getElem?_eq_getElem hlt]; rfl
        have hcl : (xs.drop j).countP id ≤ xs.length := Nat.le_trans List.countP_le_length (by simp)
        cases hb : xs.getD j false with
        | true =>
          rw [hb] at ha1 hdr
          have hcc : (xs.drop j).countP id = (xs.drop (j + 1)).countP id + 1 := by rw [hdr]; simp
          obtain ⟨C, hC⟩ : ∃ C, (xs.drop (j + 1)).countP id = C := ⟨_, rfl⟩
          rw [hcc, hC] at HC1 hcl
          have HCC := Lib.hid hC
          have hc1 := HC1.out.cell
          have hf1 := HC1.out.frozen
          clear hdr hcc hC hb
          go_wp2_with fail
          go_roundw
          case rel =>
            refine ⟨j + 1, by omega, by go_num, ?_, (Below.heap_setCell _ _ _ _ (by simp)).trans HR1.out, (Below.heap_setCell _ _ _ _ (by have := HD0.out; have := HZ5.out; have := HZ4.out; simp; omega)).trans HDD.out, HB.out.setCell (p := ⟨w.heap.size + 1 + 1 + 1, 0, none⟩) (by simp; omega) _⟩
            have hz := Boxed.set (.int .i64 (C : Int)) HC1.out
            rw [HCC.out]
            have he : (((C + 1 : Nat) : Int) - 1) = (C : Int) := by omega
            first | exact hz | (rw [he]; exact hz) | simpa using hz
          case measure => simp [intOf]; omega
        | false =>
          rw [hb] at ha1 hdr
          have hcc : (xs.drop j).countP id = (xs.drop (j + 1)).countP id := by rw [hdr]; simp
          rw [hcc] at HC1
          clear hdr hcc hb
          go_wp2_with fail
          go_roundw
          case rel => exact ⟨j + 1, by omega, by go_num, HC1, HR1, HDD, HB⟩
          case measure => simp [intOf]; omega
      · have hje : j = xs.length := by omega
        subst hje
        have hd0 : (xs.drop xs.length).countP id = 0 := by simp
        rw [hd0] at HC1
        have hc1 := HC1.out.cell
        have HBR := Lib.hid (HBw.out.trans HB.out)
        have HB1R := Lib.hid (show Boxed wr (w.heap.size + 1) 4 (.bool false) from HR1.out.trans HB1.out)
        have HKR := Lib.hid (HDD.out.trans HK.out)
        clear hd0
        go_wp2_with fail
        gi_wp2_with fail
        refine ⟨trivial, ?_⟩
        refine (callsIn_wide.2 (awake_calls _)).mono ?_
        rintro e w' ⟨rfl, hb⟩
        have hbx : Boxed w' (w.heap.size + 1) 4 (.bool false) := blk_below HB1R.out hb
        have hfx := hbx.frozen
        have hcx := hbx.cell
        have hcx2 := (Boxed.set (.bool true) hbx).cell
        have HK2 := Lib.hid ((Below.heap_setCell w' ⟨w.heap.size + 1, 0, none⟩ (.bool true) D (by have := HD0.out; have := HZ5.out; have := HZ4.out; simp; omega)).trans ((hb.block D (Array.getElem?_eq_some_iff.1 HKR.out).1).trans HKR.out))
        have HB2 := Lib.hid ((HBR.out.trans (hb.mono HBR.out.size)).setCell (p := ⟨w.heap.size + 1, 0, none⟩) (by simp) (.bool true))
        clear hb hbx hc1
        gi_wp2_with fail
        have hck := cell_kept hcx2 (grownBy_putObj' _ D (.deferred none)) (fun r e => by cases e; exact ⟨_, HK2.out, rfl⟩)
        refine ⟨by simp, .inl ⟨_, _, rfl, run_takeDeferred HK2.out, ?_⟩⟩
        exact ⟨.bool true, by simp [results, Try.results6, go_sem, hck], rfl, HB2.out.trans (belowK_b (w := w) (Nat.le_refl _) _ D _ _ (by have := HD0.out; have := HB5.out.size; omega) HK2.out rfl rfl)⟩
  case stop =>
    rintro D c pre W hD hp ⟨rfl, hno⟩ hK
    exact absurd (okPre_prefix xs pre _ (-1) hp (by have := okPre_wl xs xs [] (-1) rfl (by simp); simpa using this)) hno

theorem final {ok : Bool → Prop} (W : World) (A0 : Option Addr) (c0 : Nat) (l : List Bool) (hc0 : l.length ≤ c0) (hr0 : Kd.C Kd.bool W A0 l.length l) (hm0 : l.length ≤ maxLen) (hok0 : ∀ x ∈ l, ok x) :
    Calls Try.prog 6 #[.slice A0 l.length c0] W fun e w' => e = .returned (.bool true) ∧ Below W.heap.size W w' := by
  by_cases h : l.length > 500
  · exact out W A0 c0 l h (by unfold maxLen at hm0; omega)
  · exact callsIn_wide.1 (main W A0 c0 l (by omega) hr0 hc0)
end Go.Proofs.Ytflaaphlghkpnaa.WhereLaw
