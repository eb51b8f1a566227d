import Derived.Test.YtflaaphlghkpnaaSpotsLaw
set_option linter.unusedVariables false
set_option linter.unusedSimpArgs false
/-! TurnStops: the call: true, whatever comes in. -/
namespace Go.Proofs.Ytflaaphlghkpnaa.StopsLaw
open Go.RowKit Go.Shelf Go.Proofs.YtflaaphlghkpnaaW.PrintWords Go.Proofs.YtflaaphlghkpnaaW.PrintLast Go.Proofs.YtflaaphlghkpnaaW.PrintMore Go.Proofs.Ytflaaphlghkpnaa.Iter Go.Proofs.Ytflaaphlghkpnaa.Awake1 Go.Proofs.Ytflaaphlghkpnaa.Once Go.Proofs.Ytflaaphlghkpnaa.Shift Go.Proofs.Ytflaaphlghkpnaa.Left
attribute [local go_sem] Oper.semAt_some

def cellsSpot (x : Spot3) : List Value := [.int .i64 x.2.1, .int .i64 x.2.2]
def rowSpots (l : List Spot3) : List Value := l.flatMap cellsSpot
theorem rowSpots_length (l : List Spot3) : (rowSpots l).length = l.length * 2 := by
  induction l with
  | nil => rfl
  | cons x l ih => simp [rowSpots, cellsSpot] at ih ⊢; omega
theorem rowSpots_snoc (l : List Spot3) (x : Spot3) : rowSpots (l ++ [x]) = rowSpots l ++ cellsSpot x := by simp [rowSpots]

theorem rowSpots_at : ∀ (l : List Spot3) (i : Nat) (hi : i < l.length), (rowSpots l)[i * 2]? = some (.int .i64 (l[i]'hi).2.1) ∧ (rowSpots l)[i * 2 + 1]? = some (.int .i64 (l[i]'hi).2.2)
  | [], i, hi => absurd hi (by simp)
  | x :: l, 0, _ => ⟨rfl, rfl⟩
  | x :: l, i + 1, hi => by
    have := rowSpots_at l i (by simpa using hi)
    have e : rowSpots (x :: l) = .int .i64 x.2.1 :: .int .i64 x.2.2 :: rowSpots l := rfl
    rw [e, show (i + 1) * 2 = i * 2 + 1 + 1 by omega]
    simpa using this
theorem rows_at {W : World} {base : Nat} {A : Option Addr} {k c : Nat} {p : Int} (h : W.ownsRow base 47 2 (.slice A k c) k (rowSpots (spotsTo p k))) (i : Nat) (hi : i < k) :
    ∃ g, A = some ⟨g, 0, none⟩ ∧ W.cell? ⟨g, i * 2, none⟩ = some (.int .i64 ((i : Int) / p)) ∧ W.cell? ⟨g, i * 2 + 1, none⟩ = some (.int .i64 ((i : Int) % p)) := by
  rcases h.2 with ⟨_, h0⟩ | ⟨g, cap, cur, e, _, hb, hc, _, hsz, ht⟩
  · omega
  · cases e
    have hl : i < (spotsTo p k).length := by rw [spotsTo_length]; exact hi
    obtain ⟨r1, r2⟩ := rowSpots_at (spotsTo p k) i hl
    rw [← ht] at r1 r2
    have g1 : (spotsTo p k)[i]'hl = ((i : Int), (i : Int) / p, (i : Int) % p) := by simp [spotsTo]
    rw [g1] at r1 r2
    rw [List.getElem?_take_of_lt (by omega)] at r1 r2
    refine ⟨g, rfl, ?_, ?_⟩
    · simpa [World.cell?, hb] using r1
    · simpa [World.cell?, hb] using r2
theorem info47 : (Try.prog.info? 47).map (fun i => (i.zero, i.size, i.bytes)) = some (some (.agg #[.int .i64 0, .int .i64 0]), 2, 16) := by kernel_rfl
theorem cell_two_new (w : World) (x y : Value) (t : TypeId) : ∀ j u, [x, y][j]? = some u → (w.alloc (.cells #[x, y] t)).cell? ((⟨w.heap.size, 0, none⟩ : Addr).add j) = some u := by
  intro j u hj
  match j, hj with
  | 0, hj =>
    simp at hj
    subst hj
    simp [Addr.add]
  | 1, hj =>
    simp at hj
    subst hj
    simp [Addr.add]

set_option maxHeartbeats 4000000 in
set_option maxRecDepth 100000 in
theorem main (w : World) (b0 p0 n0 b p : Int) (q : Nat) (hb1 : 1 ≤ b) (hb2 : b ≤ 12) (hp1 : 1 ≤ p) (hp2 : p ≤ 12) (hn2 : q < 150)
    (eb : wrap64 (1 + wrap64 (Int.tmod (IntKind.u64.wrap b0) 12)) = b) (ep : wrap64 (1 + wrap64 (Int.tmod (IntKind.u64.wrap p0) 12)) = p) (en : wrap64 (Int.tmod (IntKind.u64.wrap n0) 150) = (q : Int)) :
    CallsIn Fence.wide 9 Try.prog 11 #[.int .i64 b0, .int .i64 p0, .int .i64 n0] w fun e w' => e = .returned (.bool true) ∧ Below w.heap.size w w' := by
  have hq := run_eql_iter_nil
  obtain ⟨N, hN⟩ : ∃ N : Nat, b * p = (N : Int) := Int.eq_ofNat_of_zero_le (Int.mul_nonneg (by omega) (by omega))
  have hN2 : b * p ≤ 12 * 12 := Int.mul_le_mul hb2 hp2 (by omega) (by omega)
  have hsl : spotsList b p = spotsTo p N := by unfold spotsList; rw [if_neg (by omega), hN]; rfl
  have HSL := Lib.hid hsl
  have HN := Lib.hid hN
  have hNle : N ≤ 144 := by omega
  have hNw : wrap64 (b * p) = (N : Int) := by rw [hN]; unfold wrap64; omega
  have hNw2 : IntKind.i64.wrap (b * p) = (N : Int) := by rw [hN]; exact IntWalk.i64_in _ (by omega)
  have HNW := Lib.hid hNw
  have HNW2 := Lib.hid hNw2
  clear hsl hN hN2 hNw hNw2
  refine callsIn_of_wp_marks Try.func11 rfl trivial ?_ rfl
  simp only [Try.ntmps11, List.size_toArray, List.length_cons, List.length_nil, Nat.reduceAdd, Nat.reduceSub, Array.replicate_succ, Array.replicate_zero, List.push_toArray, List.append_toArray, List.nil_append, List.cons_append]
  gi_wp2_with fail
  refine ⟨trivial, ?_⟩
  rw [eb, ep]
  have q1 : Boxed (w.alloc (.cells #[.int .i64 (q : Int)] 3)) w.heap.size 3 (.int .i64 (q : Int)) := Boxed.new w 3 _
  have hB1 : Below w.heap.size w (w.alloc (.cells #[.int .i64 (q : Int)] 3)) := below_alloc (Below.refl _ _) _
  have hz1 : (w.alloc (.cells #[.int .i64 (q : Int)] 3)).heap.size = w.heap.size + 1 := by simp
  obtain ⟨w1, hw1⟩ : ∃ w1, w.alloc (.cells #[.int .i64 (q : Int)] 3) = w1 := ⟨_, rfl⟩
  rw [hw1] at q1 hB1 hz1 ⊢
  have Q1 := Lib.hid q1
  have HB1 := Lib.hid hB1
  have HZ1 := Lib.hid hz1
  clear q1 hB1 hz1 hw1
  refine (callsIn_wide.2 (spots_calls b p w1)).mono ?_
  rintro e w2 ⟨rfl, hw2⟩
  have r1 : w2.heap[w1.heap.size]? = some (.cells #[.int .i64 b] 3 (0, 0)) := by rw [hw2]; exact blk_alloc (blk_new _ _) _
  have r2 : w2.heap[w1.heap.size + 1]? = some (.cells #[.int .i64 p] 3 (0, 0)) := by rw [hw2]; have := blk_new (w1.alloc (.cells #[.int .i64 b] 3)) (.cells #[.int .i64 p] 3); simpa using this
  have hb2 : Below w1.heap.size w1 w2 := by rw [hw2]; exact below_alloc (below_alloc (Below.refl _ _) _) _
  have HB2 := Lib.hid (below_step HB1.out hb2)
  have HZ2 := Lib.hid (show w2.heap.size = w1.heap.size + 2 by rw [hw2]; simp)
  have P1 := Lib.hid (show Boxed w2 w.heap.size 3 (.int .i64 (q : Int)) from blk_below Q1.out hb2)
  have R1 := Lib.hid r1
  have R2 := Lib.hid r2
  clear hw2 hb2 r1 r2 Q1
  have HSEQ := Lib.hid (spots_stops 8 w1.heap.size (w1.heap.size + 1) b p (w2.alloc (.cells #[.slice none 0 0] 50)) (blk_alloc R1.out _) (blk_alloc R2.out _))
  have HZ3 := Lib.hid (show (w2.alloc (.cells #[.slice none 0 0] 50)).heap.size = w2.heap.size + 1 by simp)
  obtain ⟨i0, hi, hz0, hz1, hz2⟩ := info_parts info47
  have bS := Boxed.new w2 50 (.slice none 0 0)
  have hB3 : Below w2.heap.size w2 (w2.alloc (.cells #[.slice none 0 0] 50)) := below_alloc (Below.refl _ _) _
  clear eb ep en
  gi_wp2_with fail
  refine wpIn_rangeFunc_ownH rfl (by omega) (gf := 28) (lb := #[.pointer (some ⟨w1.heap.size, 0, none⟩), .pointer (some ⟨w1.heap.size + 1, 0, none⟩)]) rfl trivial enters28
    HSEQ.out KpS.t (KpS.b (B := (w2.alloc (.cells #[.slice none 0 0] 50)).heap.size)) (Below.refl _ _) (fun _ => rfl)
    (fun pre W => (∃ v, Boxed W w2.heap.size 50 v ∧ W.ownsRow (w2.heap.size + 1) 47 2 v pre.length (rowSpots pre) ∧ True) ∧ Below w2.heap.size w2 W ∧ pre.length ≤ q)
    (fun c pre W => (∃ v, Boxed W w2.heap.size 50 v ∧ W.ownsRow (w2.heap.size + 1) 47 2 v pre.dropLast.length (rowSpots pre.dropLast) ∧ True) ∧ Below w2.heap.size w2 W ∧ (c = .exit 0 ∧ ∃ ys x, pre = ys ++ [x] ∧ ys.length ≤ q ∧ (x.1 ≠ (ys.length : Int) ∨ q ≤ ys.length)))
    (OwnFrom.and (Own.from (holdsRow_own (w2.heap.size + 1) w2.heap.size 50 47 2 (fun pre : List Spot3 => pre.length) (fun pre : List Spot3 => rowSpots pre) (fun _ _ => True)) _) (OwnFrom.and (ownFrom_below (by simp) (by simp)) (ownFrom_pure _ _)))
    (fun c => OwnFrom.and (Own.from (holdsRow_own (w2.heap.size + 1) w2.heap.size 50 47 2 (fun pre : List Spot3 => pre.dropLast.length) (fun pre : List Spot3 => rowSpots pre.dropLast) (fun _ _ => True)) _) (OwnFrom.and (ownFrom_below (by simp) (by simp)) (ownFrom_pure _ (fun pre : List Spot3 => c = .exit 0 ∧ ∃ ys x, pre = ys ++ [x] ∧ ys.length ≤ q ∧ (x.1 ≠ (ys.length : Int) ∨ q ≤ ys.length)))))
    ⟨⟨_, bS, World.ownsRow_nil _ _ _ _, trivial⟩, hB3, Nat.zero_le _⟩
    (fun x a' W => ∃ B, w2.heap.size + 1 ≤ B ∧ W.heap[B]? = some (.cells #[.int .i64 x.2.1, .int .i64 x.2.2] 47 (0, 0)) ∧ a' = { tmps := #[.int .i64 b, .int .i64 p, .int .i64 n0, undef, undef, .pointer (some ⟨w.heap.size, 0, none⟩), .bool false, .func (.func 28) #[] #[.pointer (some ⟨w1.heap.size, 0, none⟩), .pointer (some ⟨w1.heap.size + 1, 0, none⟩)], .pointer (some ⟨w2.heap.size, 0, none⟩), .int .i64 x.1, .pointer (some ⟨B, 0, none⟩), undef, undef, .int .i64 b0, .int .u64 (IntKind.u64.wrap b0), .int .u64 ((IntKind.u64.wrap b0).tmod 12), .int .i64 (wrap64 ((IntKind.u64.wrap b0).tmod 12)), .int .i64 b, .int .i64 p0, .int .u64 (IntKind.u64.wrap p0), .int .u64 ((IntKind.u64.wrap p0).tmod 12), .int .i64 (wrap64 ((IntKind.u64.wrap p0).tmod 12)), .int .i64 p, .int .i64 n0, .int .u64 (IntKind.u64.wrap n0), .int .u64 ((IntKind.u64.wrap n0).tmod 150), .int .i64 (wrap64 ((IntKind.u64.wrap n0).tmod 150)), .int .i64 b, .int .i64 p, .func (.func 28) #[] #[.pointer (some ⟨w1.heap.size, 0, none⟩), .pointer (some ⟨w1.heap.size + 1, 0, none⟩)], .func (.func 28) #[] #[.pointer (some ⟨w1.heap.size, 0, none⟩), .pointer (some ⟨w1.heap.size + 1, 0, none⟩)], .bool false, .func (.func 28) #[] #[.pointer (some ⟨w1.heap.size, 0, none⟩), .pointer (some ⟨w1.heap.size + 1, 0, none⟩)], .int .i64 x.1, .agg #[.int .i64 x.2.1, .int .i64 x.2.2], undef, undef, undef, undef, undef, undef, undef, undef, undef, undef, undef, undef, undef, undef, undef, undef, undef, undef, undef, undef, undef, undef, undef, undef, undef, undef, undef, undef, undef, undef, undef, undef, undef, undef, undef, undef, undef, undef, undef, undef, undef, undef, undef, undef, undef, undef, undef, undef, undef, undef], defers := [] }) ?hAx ?assign ?body ?done ?stop
  case hAx =>
    rintro x a' _ X Y row ⟨B, hB, hh, ha⟩ hg hrow
    refine ⟨B, hB, (hg.block B (Array.getElem?_eq_some_iff.1 hh).1 (fun e => ?_)).trans hh, ha⟩
    obtain ⟨_, o, ho, hc⟩ := hrow B e.symm
    rw [hh] at ho
    cases ho
    cases hc
  case assign =>
    rintro l pre x W K ⟨⟨v, hv, hrow, -⟩, hB, hle⟩ hK
    simp only [encSpot]
    gi_wp2
    exact hK _ _ ((KeepsOthers.alloc _ _).from _) (KpS.alloc _ _) ⟨⟨v, hv.alloc _, hrow.alloc _, trivial⟩, hB.alloc hB.size _, hle⟩ ⟨W.heap.size, by have := hv.lt; omega, blk_new W _, rfl⟩
  case body =>
    rintro l pre ⟨x, sb, sp⟩ a' W hl - ⟨⟨v, hv, hrow, -⟩, hB, hle⟩ ⟨B, hBB, hh, rfl⟩ hpl
    have HB := Lib.hid hB
    have hc := hv.cell
    have cq : W.cell? ⟨w.heap.size, 0, none⟩ = some (.int .i64 (q : Int)) := (show Boxed W w.heap.size 3 (.int .i64 (q : Int)) from (hB.block _ (by have := HZ2.out; have := HZ1.out; omega)).trans P1.out).cell
    have s0 : W.cell? ⟨B, 0, none⟩ = some (.int .i64 sb) := (blk_cell hh 0).trans rfl
    have s1 : W.cell? ⟨B, 1, none⟩ = some (.int .i64 sp) := (blk_cell hh 1).trans rfl
    clear hh hB
    have hvl : (∃ A c, v = .slice A pre.length c) := by
      rcases hrow.2 with ⟨h, h0⟩ | ⟨g, cap, cur, h, _⟩
      · exact ⟨none, 0, by rw [h, h0]⟩
      · exact ⟨_, _, h⟩
    obtain ⟨A, c, rfl⟩ := hvl
    have hpl2 : pre.length ≤ q := hle
    by_cases h1 : x = (pre.length : Int)
    · subst h1
      have hb1' : ((pre.length : Int) != (pre.length : Int)) = false := by simp
      by_cases h2 : q ≤ pre.length
      · have g2 : decide ((q : Int) ≤ (pre.length : Int)) = true := by simp; omega
        gi_wp2_with fail
        exact ⟨KeepsFrom.refl _ _, ⟨_, hv, by simpa using hrow, trivial⟩, HB.out, rfl, pre, _, rfl, hle, .inr h2⟩
      · have g2 : decide ((q : Int) ≤ (pre.length : Int)) = false := by simp; omega
        gi_wp2_with (gi_at_builtin; refine wpListIn_append_own _ rfl _ _ 50 rfl (w2.heap.size + 1) 47 i0 (.agg #[.int .i64 0, .int .i64 0]) 2 16 Try.underlying50 hi hz0 hz1 hz2 rfl (by decide) _ _ _ rfl (hrow.alloc _) ⟨W.heap.size, 0, none⟩ 1 1 [.int .i64 sb, .int .i64 sp] rfl rfl (cell_two_new _ _ _ _) (by simp [Value.oneCell']) (by unfold maxLen; omega) (by omega) (by have := hv.lt; simp; omega) ?_; intro v' wz hown' hgrow _; obtain ⟨g', cap', rfl⟩ := ownsRow_succ hown'; obtain ⟨hv1, hv2, hr2, hk2, hb2⟩ := hv.appended (by decide) (own_less hrow (Nat.le_succ _)) HB.out.size (Nat.le_refl _) (own_less hown' (Nat.le_succ _)) hgrow; have hor2 := hown'.kept (grownBy_setCell' wz w2.heap.size (.slice (some ⟨g', 0, none⟩) (pre.length + 1) cap')) (.inr (fun e => by have := own_base hown' _ e; omega)); have hc1 := hv1.cell; have hf1 := hv1.frozen; clear hc cq s0 s1; have HR2 := Lib.hid hor2; have HV2 := Lib.hid hv2; have HK2 := Lib.hid hk2; have HB2' := Lib.hid hb2; clear hor2 hv2 hk2 hb2 hr2 hv1 hown' hgrow hrow hv)
        exact ⟨HK2.out.from _, KpS.of_below HB2'.out (fun k hk => by have := HZ2.out; omega), ⟨_, HV2.out, by rw [rowSpots_snoc, List.length_append]; exact HR2.out, trivial⟩, HB.out.trans HB2'.out, by simp; omega⟩
    · have hb1' : (x != (pre.length : Int)) = true := by simpa using h1
      gi_wp2_with fail
      exact ⟨KeepsFrom.refl _ _, ⟨_, hv, by simpa using hrow, trivial⟩, HB.out, rfl, pre, _, rfl, hle, .inl h1⟩
  case done =>
    rintro D ys W hD rfl ⟨⟨v, hv, hrow, -⟩, hB, hle⟩ hK
    have hvl : (∃ A c, v = .slice A (spotsList b p).length c) := by
      rcases hrow.2 with ⟨h, h0⟩ | ⟨g, cap, cur, h, _⟩
      · exact ⟨none, 0, by rw [h, h0]⟩
      · exact ⟨_, _, h⟩
    obtain ⟨A, c, rfl⟩ := hvl
    rw [HSL.out] at hv hrow hle
    rw [spotsTo_length] at hv hrow hle
    have HBw := Lib.hid (show Below w.heap.size w W from HB2.out.trans (hB.mono (by have := HZ2.out; have := HZ1.out; omega)))
    have cq : W.cell? ⟨w.heap.size, 0, none⟩ = some (.int .i64 (q : Int)) := (show Boxed W w.heap.size 3 (.int .i64 (q : Int)) from (hB.block _ (by have := HZ2.out; have := HZ1.out; omega)).trans P1.out).cell
    have hc := hv.cell
    have hnw := HNW.out
    have hnw2 := HNW2.out
    rcases Nat.lt_or_eq_of_le hle with hm | hm
    rotate_left
    subst hm
    all_goals
      gi_wp2_with fail
      have HR := Lib.hid hrow
      have HC := Lib.hid hc
      have HK := Lib.hid hK
      have HDl := Lib.hid (Array.getElem?_eq_some_iff.1 hK).1
      have HD0 := Lib.hid (show w2.heap.size + 1 ≤ D by simp at hD; omega)
      clear hc cq hv hrow hB hK hD hnw hnw2
      refine wpIn_wide.2 ?_
      go_loopw [58] (fun v58 wr => ∃ j : Nat, j ≤ N ∧ v58 = .int .i64 (j : Int) ∧ Hid (Below W.heap.size W wr)) (fun v58 _ => N - (intOf v58).toNat)
      case atStart => exact ⟨0, Nat.zero_le _, rfl, Below.refl _ _⟩
      case round =>
        obtain ⟨j, hj, rfl, HB⟩ := hrel
        by_cases hlt : j < N
        · obtain ⟨g, rfl, a1, a2⟩ := rows_at HR.out j hlt
          replace a1 := pw_cell_below HB.out a1
          replace a2 := pw_cell_below HB.out a2
          have i0 : (0 : Int) ≤ (j : Int) := by omega
          have i1 : (j : Int) < (N : Int) := by omega
          have m0 : 0 ≤ (j : Int) % p := Int.emod_nonneg _ (by omega)
          have m1 : (j : Int) % p < p := Int.emod_lt_of_pos _ (by omega)
          have m2 : (j : Int) / p * p + (j : Int) % p = (j : Int) := by rw [Int.mul_comm]; exact Int.mul_ediv_add_emod _ _
          have w1' : wrap64 ((j : Int) / p * p) = (j : Int) / p * p := by unfold wrap64; omega
          have w2' : wrap64 ((j : Int) / p * p + (j : Int) % p) = (j : Int) := by rw [m2]; unfold wrap64; omega
          have w3' : IntKind.i64.wrap ((j : Int) / p * p) = (j : Int) / p * p := IntWalk.i64_in _ (by omega)
          have w4' : IntKind.i64.wrap ((j : Int) / p * p + (j : Int) % p) = (j : Int) := by rw [m2]; exact IntWalk.i64_in _ (by omega)
          have m3 : ((j : Int) != (j : Int)) = false := by simp
          have m4 : decide (p ≤ (j : Int) % p) = false := by simp; omega
          have m5 : decide ((j : Int) % p < 0) = false := by simp; omega
          clear m2
          go_wp2_with fail
          go_roundw
          case rel => exact ⟨j + 1, by omega, by go_num, below_alloc HB.out _⟩
          case measure => simp [intOf]; omega
        · have HBR := Lib.hid (below_step HBw.out HB.out)
          have HKR := Lib.hid ((HB.out.block D HDl.out).trans HK.out)
          have HDW := Lib.hid (show w.heap.size ≤ D by have := HD0.out; have := HZ2.out; have := HZ1.out; omega)
          go_wp2_with fail
          gi_wp2_with fail
          refine ⟨trivial, ?_⟩
          refine (callsIn_wide.2 (awake_calls _)).mono ?_
          rintro e w' ⟨rfl, hb⟩
          have HK2 := (hb.block D (Array.getElem?_eq_some_iff.1 HKR.out).1).trans HKR.out
          have HB9 := Lib.hid (below_step HBR.out hb)
          clear hb
          gi_wp2_with fail
          refine ⟨by simp, .inl ⟨_, _, rfl, run_takeDeferred HK2, ?_⟩⟩
          exact ⟨_, results_tmp rfl _ _ _, rfl, HB9.out.trans (belowK_b (w := w) (Nat.le_refl _) w' D _ _ HDW.out HK2 rfl rfl)⟩
  case stop =>
    rintro D c pre W hD hp ⟨⟨v, hv, hrow, -⟩, hB, rfl, ys, x, rfl, hle, hx⟩ hK
    rw [List.dropLast_concat] at hrow
    rw [HSL.out] at hp
    have hln : ys.length + 1 ≤ N := by have := hp.length_le; rw [spotsTo_length] at this; simpa using this
    have hys : ys ++ [x] = spotsTo p (ys.length + 1) := by
      have h1 := List.prefix_iff_eq_take.1 hp
      have h2 := List.prefix_iff_eq_take.1 (spotsTo_prefix p hln)
      rw [spotsTo_length] at h2
      rw [h2, h1]
      simp
    rw [spotsTo_snoc] at hys
    have hx1 : x.1 = (ys.length : Int) := by
      have h2 := List.append_inj_right' hys rfl
      simp at h2
      rw [h2]
    have hyl : ys = spotsTo p ys.length := List.append_inj_left' hys rfl
    have hq1 : ys.length = q := by
      rcases hx with h | h
      · exact absurd hx1 h
      · omega
    rw [hq1] at hyl hrow hln
    rw [hyl] at hrow
    clear hys hx1 hx hp hyl
    have hvl : (∃ A c, v = .slice A q c) := by
      rcases hrow.2 with ⟨h, h0⟩ | ⟨g, cap, cur, h, _⟩
      · exact ⟨none, 0, by rw [h, h0]⟩
      · exact ⟨_, _, h⟩
    obtain ⟨A, c, rfl⟩ := hvl
    have HBw := Lib.hid (show Below w.heap.size w W from HB2.out.trans (hB.mono (by have := HZ2.out; have := HZ1.out; omega)))
    have cq : W.cell? ⟨w.heap.size, 0, none⟩ = some (.int .i64 (q : Int)) := (show Boxed W w.heap.size 3 (.int .i64 (q : Int)) from (hB.block _ (by have := HZ2.out; have := HZ1.out; omega)).trans P1.out).cell
    have hc := hv.cell
    have hnw := HNW.out
    have hnw2 := HNW2.out
    have hm : ¬ N < q := by omega
    gi_wp2_with fail
    have HR := Lib.hid hrow
    have HC := Lib.hid hc
    have HK := Lib.hid hK
    have HDl := Lib.hid (Array.getElem?_eq_some_iff.1 hK).1
    have HD0 := Lib.hid (show w2.heap.size + 1 ≤ D by simp at hD; omega)
    clear hc cq hv hrow hB hK hD hnw hnw2
    refine wpIn_wide.2 ?_
    go_loopw [58] (fun v58 wr => ∃ j : Nat, j ≤ q ∧ v58 = .int .i64 (j : Int) ∧ Hid (Below W.heap.size W wr)) (fun v58 _ => q - (intOf v58).toNat)
    case atStart => exact ⟨0, Nat.zero_le _, rfl, Below.refl _ _⟩
    case round =>
      obtain ⟨j, hj, rfl, HB⟩ := hrel
      by_cases hlt : j < q
      · obtain ⟨g, rfl, a1, a2⟩ := rows_at HR.out j hlt
        replace a1 := pw_cell_below HB.out a1
        replace a2 := pw_cell_below HB.out a2
        have i0 : (0 : Int) ≤ (j : Int) := by omega
        have i1 : (j : Int) < (q : Int) := by omega
        have m0 : 0 ≤ (j : Int) % p := Int.emod_nonneg _ (by omega)
        have m1 : (j : Int) % p < p := Int.emod_lt_of_pos _ (by omega)
        have m2 : (j : Int) / p * p + (j : Int) % p = (j : Int) := by rw [Int.mul_comm]; exact Int.mul_ediv_add_emod _ _
        have w1' : wrap64 ((j : Int) / p * p) = (j : Int) / p * p := by unfold wrap64; omega
        have w2' : wrap64 ((j : Int) / p * p + (j : Int) % p) = (j : Int) := by rw [m2]; unfold wrap64; omega
        have w3' : IntKind.i64.wrap ((j : Int) / p * p) = (j : Int) / p * p := IntWalk.i64_in _ (by omega)
        have w4' : IntKind.i64.wrap ((j : Int) / p * p + (j : Int) % p) = (j : Int) := by rw [m2]; exact IntWalk.i64_in _ (by omega)
        have m3 : ((j : Int) != (j : Int)) = false := by simp
        have m4 : decide (p ≤ (j : Int) % p) = false := by simp; omega
        have m5 : decide ((j : Int) % p < 0) = false := by simp; omega
        clear m2
        go_wp2_with fail
        go_roundw
        case rel => exact ⟨j + 1, by omega, by go_num, below_alloc HB.out _⟩
        case measure => simp [intOf]; omega
      · have HBR := Lib.hid (below_step HBw.out HB.out)
        have HKR := Lib.hid ((HB.out.block D HDl.out).trans HK.out)
        have HDW := Lib.hid (show w.heap.size ≤ D by have := HD0.out; have := HZ2.out; have := HZ1.out; omega)
        go_wp2_with fail
        gi_wp2_with fail
        refine ⟨trivial, ?_⟩
        refine (callsIn_wide.2 (awake_calls _)).mono ?_
        rintro e w' ⟨rfl, hb⟩
        have HK2 := (hb.block D (Array.getElem?_eq_some_iff.1 HKR.out).1).trans HKR.out
        have HB9 := Lib.hid (below_step HBR.out hb)
        clear hb
        gi_wp2_with fail
        refine ⟨by simp, .inl ⟨_, _, rfl, run_takeDeferred HK2, ?_⟩⟩
        exact ⟨_, results_tmp rfl _ _ _, rfl, HB9.out.trans (belowK_b (w := w) (Nat.le_refl _) w' D _ _ HDW.out HK2 rfl rfl)⟩

theorem final (W : World) (b0 : Int) (w0 : (Lit.int .i64 b0).wf = true) (p0 : Int) (w1 : (Lit.int .i64 p0).wf = true) (n0 : Int) (w2 : (Lit.int .i64 n0).wf = true) :
    Calls Try.prog 11 #[.int .i64 b0, .int .i64 p0, .int .i64 n0] W fun e w' => e = .returned (.bool true) ∧ Below W.heap.size W w' := by
  obtain ⟨x, hx, hx2⟩ := small b0 12 (by omega) (by omega)
  obtain ⟨y, hy, hy2⟩ := small p0 12 (by omega) (by omega)
  obtain ⟨z, hz, hz2⟩ := small n0 150 (by omega) (by omega)
  exact callsIn_wide.1 (main W b0 p0 n0 (1 + x) (1 + y) z (by omega) (by omega) (by omega) (by omega) hz2
    (by have e : wrap64 ((IntKind.u64.wrap b0).tmod 12) = (x : Int) := by simpa using hx
        rw [e]; unfold wrap64; omega)
    (by have e : wrap64 ((IntKind.u64.wrap p0).tmod 12) = (y : Int) := by simpa using hy
        rw [e]; unfold wrap64; omega) (by simpa using hz))
end Go.Proofs.Ytflaaphlghkpnaa.StopsLaw
