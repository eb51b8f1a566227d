import Derived.Test.YtloldgiggnhemaaCq
set_option linter.unusedVariables false
set_option linter.unusedSimpArgs false
/-! BlockChip, the walk. -/
namespace Go.Proofs.Ytloldgiggnhemaa.Cm
open Go.RowKit Go.Proofs.YtloldgiggnhemaaW.PrintWords Go.Proofs.YtloldgiggnhemaaW.PrintLast Go.Proofs.YtloldgiggnhemaaW.PrintMore Go.Proofs.Ytloldgiggnhemaa.Kp Go.Proofs.Ytloldgiggnhemaa.Cp
attribute [local go_sem] max2_int min2_int max_two min_two max_three min_three max_four min_four

/-- The four counts as they lie. -/
def Us (W : World) (b : Nat) (u : Nat → Nat) : Prop := ∃ cs : Array Value, W.heap[b]? = some (.cells cs 65 (0, 0)) ∧ cs.size = 4 ∧ ∀ j, j < 4 → cs[j]? = some (.int .i64 (u j))
theorem Us.below {W W1 : World} {b : Nat} {u : Nat → Nat} (h : Us W b u) (hb : Below W.heap.size W W1) : Us W1 b u := by
  obtain ⟨cs, h1, h2, h3⟩ := h
  exact ⟨cs, blk_below h1 hb, h2, h3⟩
theorem Us.set {W : World} {b : Nat} {u : Nat → Nat} (h : Us W b u) (j v : Nat) : Us (W.setCell ⟨b, j, none⟩ (.int .i64 (v : Int))) b (upd u j v) := by
  obtain ⟨cs, h1, h2, h3⟩ := h
  refine ⟨cs.setIfInBounds j (.int .i64 (v : Int)), blk_set h1 j _, by simpa using h2, fun i hi => ?_⟩
  unfold upd
  rw [Array.getElem?_setIfInBounds]
  by_cases e : j = i
  · subst e
    rw [if_pos rfl, if_pos (by omega), if_pos rfl]
  · rw [if_neg e, if_neg (fun h => e h.symm)]
    exact h3 i hi
theorem Us.cell {W : World} {b : Nat} {u : Nat → Nat} (h : Us W b u) {j : Nat} (hj : j < 4) : W.cell? ⟨b, j, none⟩ = some (.int .i64 (u j)) ∧ W.frozen? ⟨b, j, none⟩ = false := by
  obtain ⟨cs, h1, h2, h3⟩ := h
  exact ⟨(blk_cell h1 j).trans (h3 j hj), blk_frozen h1 j⟩
theorem Us.lt {W : World} {b : Nat} {u : Nat → Nat} (h : Us W b u) : b < W.heap.size := by
  obtain ⟨cs, h1, -⟩ := h
  exact blk_lt h1
theorem Us.nx {W W1 : World} {base b : Nat} {S S1 : Nat → Prop} {u : Nat → Nat} (h : Us W b u) (hn : Nx base W S W1 S1) (hb : ¬ S b) : Us W1 b u ∧ ¬ S1 b := by
  obtain ⟨cs, h1, h2, h3⟩ := h
  exact ⟨⟨cs, hn.blk h1 hb, h2, h3⟩, hn.not (blk_lt h1) hb⟩
theorem Hd.far {W : World} {base g b j : Nat} {S : Nat → Prop} {s : Chp} (h : Hd W base S g s) (hb : ¬ S b) (v : Value) : Hd (W.setCell ⟨b, j, none⟩ v) base S g s :=
  h.keep (by simp) (fun k hk => Below.heap_setCell W ⟨b, j, none⟩ v k (fun e => hb (by rw [show k = b from e] at hk; exact hk)))
theorem smallV (x : Int) (h0 : 0 ≤ x) (B : Int) (hB : 0 < B) (hB2 : B ≤ 2000000000000) : ∃ n : Nat, wrap64 (Int.tmod x B) = (n : Int) ∧ (n : Int) < B := by
  have t0 : 0 ≤ Int.tmod x B := Int.tmod_nonneg _ h0
  have t1 : Int.tmod x B < B := Int.tmod_lt_of_pos _ hB
  exact ⟨(Int.tmod x B).toNat, by unfold wrap64; omega, by omega⟩
theorem ix4 (u : Nat → Nat) (j : Nat) (hj : j < 4) : ∀ W : World, (Instr.index 65 (.agg #[.int .i64 (u 0), .int .i64 (u 1), .int .i64 (u 2), .int .i64 (u 3)]) (.int .i64 (j : Int))).run Try.prog W = .ok (.int .i64 (u j)) W := fun W => by
  match j, hj with
  | 0, _ => rfl
  | 1, _ => rfl
  | 2, _ => rfl
  | 3, _ => rfl
set_option maxHeartbeats 8000000 in
set_option maxRecDepth 100000 in
theorem blockChip (W : World) (A : Option Addr) (c : Nat) (l : List Int) (hc : l.length ≤ c) (hC : Kd.C (Kd.int .i64) W A l.length l) (a1 : Int) :
    Calls Try.prog 10 #[.slice A l.length c, .int .i64 a1] W fun e W' => e = .returned (.bool true) ∧ Below W.heap.size W W' := by
  have HC := Aside0.mk hC
  have HCC := Aside0.mk hc
  clear hC hc
  obtain ⟨n, hn, hn8⟩ := smallW a1 8 (by decide) (by decide)
  obtain ⟨pg, hpg⟩ : ∃ p, n + 1 = p := ⟨_, rfl⟩
  have HPG := Aside0.mk (show 1 ≤ pg ∧ pg ≤ 8 by omega)
  have hn2 : wrap64 (1 + (n : Int)) = (pg : Int) := by
    rw [← hpg, show (1 : Int) + (n : Int) = ((n + 1 : Nat) : Int) by omega]
    exact wrap_small _ (by omega) (by omega)
  clear hpg hn8
  by_cases h80 : 80 < l.length
  · have d1 : decide ((l.length : Int) > 80) = true := decide_eq_true (by omega)
    have d1n : decide (80 < l.length) = true := decide_eq_true h80
    clear h80
    go_enter Try.func10, Try.ntmps10
    go_wp2_with fail
    refine (awake8 W).mono ?_
    rintro ev w6 ⟨rfl, hb6⟩
    have HB6 := Aside0.mk hb6
    clear hb6
    go_wp2_with fail
    go_ret
    exact ⟨rfl, HB6.out⟩
  have d1 : decide ((l.length : Int) > 80) = false := decide_eq_false (by omega)
  have d1n : decide (80 < l.length) = false := decide_eq_false h80
  have HL := Aside0.mk (show l.length ≤ 80 by omega)
  clear h80
  go_enter Try.func10, Try.ntmps10
  go_wp2_with fail
  rw [hn, hn2]
  clear hn hn2 d1 d1n
  have hcc := newH W 4 pg none 0 [] (Kd.C_nil _ _) (by decide) (by decide) (by decide) (by decide) (by have := HPG.out; omega) (by have := HPG.out; omega)
  refine hcc.mono ?_
  clear hcc
  rintro ev w1 ⟨g, rfl, hh, hbn⟩
  obtain ⟨S0, hS0⟩ : ∃ S : Nat → Prop, (fun k => W.heap.size ≤ k ∧ k < w1.heap.size) = S := ⟨_, rfl⟩
  rw [hS0] at hh
  have HQ1 := Aside0.mk (cq_new pg)
  obtain ⟨s1, hs1⟩ : ∃ s, newS 4 pg [] = s := ⟨_, rfl⟩
  rw [hs1] at hh HQ1
  have HH1 := Aside0.mk hh
  have HB1 := Aside0.mk hbn
  clear hS0 hh hbn hs1
  go_wp2_with fail
  obtain ⟨w2, hw2⟩ : ∃ w2, w1.alloc (.cells #[.int .i64 0, .int .i64 0, .int .i64 0, .int .i64 0] 65) = w2 := ⟨_, rfl⟩
  obtain ⟨bu, hbu⟩ : ∃ b, w1.heap.size = b := ⟨_, rfl⟩
  have hb2 : Below w1.heap.size w1 w2 := by rw [← hw2]; exact below_alloc (Below.refl _ _) _
  have HU2 : Aside0 (Us w2 bu (fun _ => 0)) := ⟨⟨#[.int .i64 0, .int .i64 0, .int .i64 0, .int .i64 0], by rw [← hw2, ← hbu]; exact blk_new w1 _, rfl, fun j hj => by
    match j, hj with
    | 0, _ => rfl
    | 1, _ => rfl
    | 2, _ => rfl
    | 3, _ => rfl⟩⟩
  have NU2 := Aside0.mk (HH1.out.new_not hbu)
  have HH2 := Aside0.mk (HH1.out.below hb2)
  have HB2 := Aside0.mk (below_step HB1.out hb2)
  have HBU := Aside0.mk (show W.heap.size ≤ bu by rw [← hbu]; exact HB1.out.size)
  rw [hw2, hbu]
  clear hw2 hbu hb2 HH1 HB1
  go_loopw [27] (fun v27 wr => ∃ (i : Nat) (u : Nat → Nat) (s : Chp) (S : Nat → Prop), i ≤ l.length ∧ v27 = .int .i64 (i : Int) ∧ Aside0 (CQ s u pg) ∧ Aside0 (Hd wr W.heap.size S g s) ∧ Aside0 (Below W.heap.size W wr) ∧ Aside0 (Us wr bu u) ∧ Aside0 (¬ S bu)) (fun v27 _ => l.length - (intOf v27).toNat)
  case atStart => exact ⟨0, _, s1, S0, Nat.zero_le _, rfl, HQ1, HH2, HB2, HU2, NU2⟩
  case round =>
    clear HQ1 HH2 HB2 HU2 NU2 S0 s1
    obtain ⟨i, u, s, S, hi, rfl, HQ, HH, HB, HU, NU⟩ := hrel
    by_cases hlt : i < l.length
    · have hlt2 : (i : Int) < (l.length : Int) := by omega
      have HLT := Aside0.mk hlt
      have hw2 : wrap64 ((i : Int) + 1) = ((i + 1 : Nat) : Int) := by rw [show (i : Int) + 1 = ((i + 1 : Nat) : Int) by omega]; exact wrap_small _ (by omega) (by have := HL.out; omega)
      have HCr := Aside0.mk (Kd.C_below HC.out HB.out)
      obtain ⟨ad, rfl, hx⟩ := ints_at HCr.out i hlt
      obtain ⟨Z, hZ⟩ : ∃ Z, l.getD i 0 = Z := ⟨_, rfl⟩
      rw [hZ] at hx
      clear hZ hlt hi
      obtain ⟨zb, hzb⟩ : ∃ z, bits BinOp.and IntKind.i64 Z 1 = z := ⟨_, rfl⟩
      obtain ⟨b, hb, hb4⟩ := smallW ((IntKind.u64.wrap Z).tdiv 2) 4 (by decide) (by decide)
      have HB4 := Aside0.mk (show b < 4 by omega)
      obtain ⟨y0, f0⟩ := HU.out.cell HB4.out
      obtain ⟨ub, hub⟩ : ∃ x, u b = x := ⟨_, rfl⟩
      rw [hub] at y0
      have HUB := Aside0.mk hub
      clear hub
      by_cases hz0 : zb = 0
      · subst hz0
        go_wp2_with fail
        rw [hb]
        clear hzb hb
        have hcc := programH (HH.out.below (below_alloc (Below.refl _ wr) (.cells #[.int .u8 1] 5))) (b : Int) (ub : Int) (some ⟨wr.heap.size, 0, none⟩) 1 [1] (C_lit (blk_new wr _) rfl (by simp)) (by simp) (fun ad hA => by
          cases hA
          exact ⟨by simp, fun hs => Nat.lt_irrefl _ (HH.out.lt _ hs)⟩)
        refine hcc.mono ?_
        clear hcc
        rintro ev w4 ⟨rfl, S4, hh4, hn4⟩
        have HB4' := Aside0.mk ((below_step HB.out (below_alloc (Below.refl _ wr) (.cells #[.int .u8 1] 5))).trans (hn4.bel.mono (Nat.le_refl _)))
        obtain ⟨k1_, k2_⟩ := (HU.out.below (below_alloc (Below.refl _ wr) (.cells #[.int .u8 1] 5))).nx hn4 NU.out
        have HU4 := Aside0.mk k1_
        have NU4 := Aside0.mk k2_
        clear hn4 k1_ k2_ y0 f0
        by_cases hlt : ub < pg
        · obtain ⟨q1, q2⟩ := cq_prog HQ.out HB4.out (by have := HPG.out; omega) (by rw [HUB.out]; exact hlt)
          rw [HUB.out] at q1 q2
          rw [q1]
          obtain ⟨s4, hs4⟩ : ∃ x, (progS s (b : Int) (ub : Int) [1]).1 = x := ⟨_, rfl⟩
          rw [hs4] at q2 hh4
          have HQ4 := Aside0.mk q2
          have HH4 := Aside0.mk (hh4.far (b := bu) (j := b) NU4.out (.int .i64 ((ub + 1 : Nat) : Int)))
          have HB5 := Aside0.mk (HB4'.out.setCell (p := ⟨bu, b, none⟩) HBU.out (.int .i64 ((ub + 1 : Nat) : Int)))
          have HU5 := Aside0.mk (HU4.out.set b (ub + 1))
          have hwu : wrap64 ((ub : Int) + 1) = ((ub + 1 : Nat) : Int) := by rw [show (ub : Int) + 1 = ((ub + 1 : Nat) : Int) by omega]; exact wrap_small _ (by omega) (by have := HPG.out; omega)
          obtain ⟨y0, f0⟩ := HU4.out.cell HB4.out
          rw [HUB.out] at y0
          clear q1 q2 hh4 hs4 HH HB HQ HU NU hlt HB4' HU4
          go_wp2_with fail
          go_roundw
          case measure =>
            have hm : l.length - ((i + 1 : Nat) : Int).toNat < l.length - ((i : Nat) : Int).toNat := by
              rw [Int.toNat_natCast, Int.toNat_natCast]
              exact Nat.sub_lt_sub_left HLT.out (Nat.lt_succ_self i)
            first | exact hm | (rw [hw2]; exact hm)
          case rel => exact ⟨i + 1, _, s4, S4, HLT.out, by first | rw [hw2] | rfl, HQ4, by first | exact HH4 | (rw [hwu]; exact HH4), by first | exact HB5 | (rw [hwu]; exact HB5), by first | exact HU5 | (rw [hwu]; exact HU5), NU4⟩
        · have e4 := cq_full HQ.out (b := b) (by rw [HUB.out]; exact hlt)
          rw [HUB.out] at e4
          rw [e4] at hh4
          rw [e4]
          obtain ⟨s4, hs4⟩ : ∃ x, s = x := ⟨_, rfl⟩
          rw [hs4] at HQ hh4
          have HQ4 := HQ
          have HH4 := Aside0.mk hh4
          clear e4 hh4 hs4 HH HB HQ HU NU hlt
          go_wp2_with fail
          go_roundw
          case measure =>
            have hm : l.length - ((i + 1 : Nat) : Int).toNat < l.length - ((i : Nat) : Int).toNat := by
              rw [Int.toNat_natCast, Int.toNat_natCast]
              exact Nat.sub_lt_sub_left HLT.out (Nat.lt_succ_self i)
            first | exact hm | (rw [hw2]; exact hm)
          case rel => exact ⟨i + 1, u, s4, S4, HLT.out, by first | rw [hw2] | rfl, HQ4, HH4, HB4', HU4, NU4⟩
      · have hz1 : decide (zb = 0) = false := decide_eq_false hz0
        have hz2 : (zb == 0) = false := beq_eq_false_iff_ne.2 hz0
        go_wp2_with fail
        rw [hb]
        clear hzb hb
        refine (eraseH HH.out (b : Int)).mono ?_
        rintro ev w4 ⟨rfl, hh4, hn4⟩
        obtain ⟨q1, q2⟩ := cq_erase HQ.out HB4.out
        rw [q1]
        obtain ⟨s4, hs4⟩ : ∃ x, (eraseS s (b : Int)).1 = x := ⟨_, rfl⟩
        rw [hs4] at q2 hh4
        obtain ⟨k1_, -⟩ := HU.out.nx hn4 NU.out
        have HB4' := Aside0.mk (HB.out.trans (hn4.bel.mono (Nat.le_refl _)))
        have HQ4 := Aside0.mk q2
        have HH4 := Aside0.mk (hh4.far (b := bu) (j := b) NU.out (.int .i64 ((0 : Nat) : Int)))
        have HB5 := Aside0.mk (HB4'.out.setCell (p := ⟨bu, b, none⟩) HBU.out (.int .i64 ((0 : Nat) : Int)))
        have HU5 := Aside0.mk (k1_.set b 0)
        clear y0 f0
        obtain ⟨y0, f0⟩ := k1_.cell HB4.out
        clear q1 q2 hh4 hs4 HH HB HQ HU HB4' hn4 k1_
        go_wp2_with fail
        go_roundw
        case measure =>
          have hm : l.length - ((i + 1 : Nat) : Int).toNat < l.length - ((i : Nat) : Int).toNat := by
            rw [Int.toNat_natCast, Int.toNat_natCast]
            exact Nat.sub_lt_sub_left HLT.out (Nat.lt_succ_self i)
          first | exact hm | (rw [hw2]; exact hm)
        case rel => exact ⟨i + 1, _, s4, S, HLT.out, by first | rw [hw2] | rfl, HQ4, HH4, HB5, HU5, NU⟩
    · have he : i = l.length := by omega
      subst he
      have hnn : ¬ (((l.length : Nat) : Int) < (l.length : Int)) := by omega
      clear hlt hi
      go_wp2_with fail
      refine (blocks HH.out (cq_lens HQ.out)).mono ?_
      rintro ev w5 ⟨v5, l5, rfl, hR5, hf5, -, hb5⟩
      have hcr := cq_row HQ.out hf5
      obtain ⟨A5, c5, rfl, -, hC5⟩ := Kd.R_reads hR5
      have hl5 := hcr.1
      have hbd := cr_bad hcr
      rw [hl5] at hC5 hbd
      rw [hl5]
      have HCR := Aside0.mk hcr
      have HC5 := Aside0.mk hC5
      have HB5 := Aside0.mk (below_step HB.out hb5)
      have HU5 := Aside0.mk (HU.out.below hb5)
      have HL5 := Aside0.mk hl5
      have HBD := Aside0.mk hbd
      clear hcr hC5 hb5 hR5 hf5 HH HB HU NU HQ hl5 hbd
      go_wp2_with fail
      have hcc := bbadC w5 A5 c5 l5 (by rw [HL5.out]; exact HC5.out) (by rw [HL5.out]; decide)
      rw [HL5.out, HBD.out] at hcc
      refine hcc.mono ?_
      clear hcc
      rintro ev w6 ⟨rfl, hb6⟩
      have HB6 := Aside0.mk (below_step HB5.out hb6)
      have HC6 := Aside0.mk (Kd.C_below HC5.out hb6)
      have HU6 := HU5.out.below hb6
      obtain ⟨y0, -⟩ := HU6.cell (j := 0) (by decide)
      obtain ⟨y1, -⟩ := HU6.cell (j := 1) (by decide)
      obtain ⟨y2, -⟩ := HU6.cell (j := 2) (by decide)
      obtain ⟨y3, -⟩ := HU6.cell (j := 3) (by decide)
      clear hb6 HB5 HC5 HU5 HU6 HBD
      go_wp2_with fail
      clear y0 y1 y2 y3
      go_loopw [11, 71] (fun v11 v71 wr => ∃ (j : Nat), j ≤ 4 ∧ v11 = .int .i64 (zc u j : Nat) ∧ v71 = .int .i64 (j : Int) ∧ Aside0 (Below W.heap.size W wr) ∧ Aside0 (Kd.C kF wr A5 4 l5)) (fun _ v71 _ => 4 - (intOf v71).toNat)
      case atStart => exact ⟨0, by omega, rfl, rfl, HB6, HC6⟩
      case round =>
        clear HB6 HC6
        obtain ⟨j, hj, rfl, rfl, HB, HC5⟩ := hrel
        by_cases hlt : j < 4
        · have hlt2 : (j : Int) < 4 := by omega
          have HLT := Aside0.mk hlt
          have hw2 : wrap64 ((j : Int) + 1) = ((j + 1 : Nat) : Int) := by rw [show (j : Int) + 1 = ((j + 1 : Nat) : Int) by omega]; exact wrap_small _ (by omega) (by omega)
          obtain ⟨ad, rfl, x0, x1, x2, x3⟩ := fbAt HC5.out j hlt
          obtain ⟨r1, r2, r3⟩ := HCR.out.2 j hlt
          obtain ⟨d, hd⟩ : ∃ d, l5.getD j zF = d := ⟨_, rfl⟩
          rw [hd] at x0 x1 x2 x3 r1 r2
          rw [r1] at x0
          rw [r2] at x1
          have hix := ix4 u j hlt
          have hzs : zc u (j + 1) = if u j = 0 then zc u j + 1 else zc u j := rfl
          have hzl := zc_le u j
          obtain ⟨m, hm⟩ : ∃ m, zc u j = m := ⟨_, rfl⟩
          rw [hm] at hzs hzl ⊢
          obtain ⟨uj, huj⟩ : ∃ x, u j = x := ⟨_, rfl⟩
          rw [huj] at x1 hix hzs r3
          have HZS := Aside0.mk hzs
          have HZL := Aside0.mk hzl
          have HR3 := Aside0.mk r3
          have hwm : wrap64 ((m : Int) + 1) = ((m + 1 : Nat) : Int) := by rw [show (m : Int) + 1 = ((m + 1 : Nat) : Int) by omega]; exact wrap_small _ (by omega) (by omega)
          have hws : wrap64 ((pg : Int) - (uj : Int)) = (pg : Int) - (uj : Int) := wrap_small _ (by omega) (by have := HPG.out; omega)
          clear hlt hj hd r1 r2 r3 hm huj hzs hzl
          by_cases hu0 : uj = 0
          · have z1 : ((uj : Int) == 0) = true := beq_iff_eq.2 (by omega)
            have z2 : decide ((uj : Int) = 0) = true := decide_eq_true (by omega)
            have z3 : decide (uj = 0) = true := decide_eq_true hu0
            have HZ2 : Aside0 (zc u (j + 1) = m + 1) := ⟨by rw [HZS.out, if_pos hu0]⟩
            clear hu0
            go_wp2_with fail
            refine (bcleanC wr false (uj : Int) d.count d.pg.1 d.pg.2.1 d.pg.2.2).mono ?_
            rintro ev w7 ⟨rfl, hb7⟩
            have hcl : (!false && (uj : Int) == 0) = true := by rw [z1]; rfl
            rw [hcl]
            have HB7 := Aside0.mk (below_step HB.out hb7)
            have HC7 := Aside0.mk (Kd.C_below HC5.out hb7)
            replace x0 := pw_cell_below hb7 x0
            replace x1 := pw_cell_below hb7 x1
            replace x2 := pw_cell_below hb7 x2
            replace x3 := pw_cell_below hb7 x3
            clear hb7 hcl HB HC5
            go_wp2_with fail
            refine (bleftC w7 (uj : Int) d.count (pg : Int) d.pg.1 d.pg.2.1 d.pg.2.2 (by omega) (by have := HR3.out; omega) (by have := HPG.out; omega)).mono ?_
            rintro ev w8 ⟨rfl, hb8⟩
            have HB8 := Aside0.mk (below_step HB7.out hb8)
            have HC8 := Aside0.mk (Kd.C_below HC7.out hb8)
            clear hb8 HB7 HC7 x0 x1 x2 x3
            go_wp2_with fail
            go_roundw
            case measure =>
              have hm : 4 - ((j + 1 : Nat) : Int).toNat < 4 - ((j : Nat) : Int).toNat := by
                rw [Int.toNat_natCast, Int.toNat_natCast]
                exact Nat.sub_lt_sub_left HLT.out (Nat.lt_succ_self j)
              first | exact hm | (rw [hw2]; exact hm)
            case rel => exact ⟨j + 1, HLT.out, by rw [HZ2.out]; try (first | rw [hwm] | rfl), by first | rw [hw2] | rfl, HB8, HC8⟩
          · have z1 : ((uj : Int) == 0) = false := beq_eq_false_iff_ne.2 (by omega)
            have z2 : decide ((uj : Int) = 0) = false := decide_eq_false (by omega)
            have z3 : decide (uj = 0) = false := decide_eq_false hu0
            have HZ2 : Aside0 (zc u (j + 1) = m) := ⟨by rw [HZS.out, if_neg hu0]⟩
            clear hu0
            go_wp2_with fail
            refine (bcleanC wr false (uj : Int) d.count d.pg.1 d.pg.2.1 d.pg.2.2).mono ?_
            rintro ev w7 ⟨rfl, hb7⟩
            have hcl : (!false && (uj : Int) == 0) = false := by rw [z1]; rfl
            rw [hcl]
            have HB7 := Aside0.mk (below_step HB.out hb7)
            have HC7 := Aside0.mk (Kd.C_below HC5.out hb7)
            replace x0 := pw_cell_below hb7 x0
            replace x1 := pw_cell_below hb7 x1
            replace x2 := pw_cell_below hb7 x2
            replace x3 := pw_cell_below hb7 x3
            clear hb7 hcl HB HC5
            go_wp2_with fail
            refine (bleftC w7 (uj : Int) d.count (pg : Int) d.pg.1 d.pg.2.1 d.pg.2.2 (by omega) (by have := HR3.out; omega) (by have := HPG.out; omega)).mono ?_
            rintro ev w8 ⟨rfl, hb8⟩
            have HB8 := Aside0.mk (below_step HB7.out hb8)
            have HC8 := Aside0.mk (Kd.C_below HC7.out hb8)
            clear hb8 HB7 HC7 x0 x1 x2 x3
            go_wp2_with fail
            go_roundw
            case measure =>
              have hm : 4 - ((j + 1 : Nat) : Int).toNat < 4 - ((j : Nat) : Int).toNat := by
                rw [Int.toNat_natCast, Int.toNat_natCast]
                exact Nat.sub_lt_sub_left HLT.out (Nat.lt_succ_self j)
              first | exact hm | (rw [hw2]; exact hm)
            case rel => exact ⟨j + 1, HLT.out, by rw [HZ2.out]; try (first | rw [hwm] | rfl), by first | rw [hw2] | rfl, HB8, HC8⟩
        · have he : j = 4 := by omega
          subst he
          have hn4 : ¬ (((4 : Nat) : Int) < 4) := by omega
          clear hlt hj
          go_wp2_with fail
          have hcc := bcleansC wr A5 c5 l5 (by rw [HL5.out]; exact HC5.out) (by rw [HL5.out]; decide)
          rw [HL5.out] at hcc
          refine hcc.mono ?_
          clear hcc
          rintro ev w7 ⟨v7, rfl, hR7, hb7⟩
          obtain ⟨A7, c7, rfl, -, -⟩ := Kd.R_reads hR7
          rw [cr_clean HCR.out 4 (Nat.le_refl _)]
          have HB7 := Aside0.mk (below_step HB.out hb7)
          clear hR7 hb7 HB HC5
          go_wp2_with fail
          refine (awake8 w7).mono ?_
          rintro ev w8 ⟨rfl, hb8⟩
          have HB8 := Aside0.mk (below_step HB7.out hb8)
          clear hb8
          go_wp2_with fail
          go_ret
          exact ⟨rfl, HB8.out⟩
theorem blockChipFinal (W : World) (A0 : Option Addr) (c0 : Nat) (l0 : List Int) (hc0 : l0.length ≤ c0) (hr0 : Kd.C (Kd.int .i64) W A0 l0.length l0) (hm0 : l0.length ≤ maxLen) (hok0 : ∀ x ∈ l0, (Lit.int .i64 x).wf = true) (a1 : Int) (w1 : (Lit.int .i64 a1).wf = true) :
    Calls Try.prog 10 #[.slice A0 l0.length c0, .int .i64 a1] W fun e W' => e = .returned (.bool true) ∧ Below W.heap.size W W' := blockChip W A0 c0 l0 hc0 hr0 a1
end Go.Proofs.Ytloldgiggnhemaa.Cm
