/-  LeastBetween returns true whatever the pairs: the least is no more than any, the most no less; both are named.  -/
import Derived.Test.YthnicdafglohbaaEn
set_option linter.unusedVariables false
set_option linter.unusedSimpArgs false
namespace Go.Proofs.Ythnicdafglohbaa.Lw
open Go.RowKit Go.Maps Go.Sort Go.Lib Go.WideMaps Go.Proofs.YthnicdafglohbaaW.PrintWords Go.Proofs.YthnicdafglohbaaW.PrintLast Go.Proofs.YthnicdafglohbaaW.PrintMore
attribute [local go_sem] max2_int min2_int max_two min_two max_three min_three max_four min_four

structure S33 where
  f0 : Int
  f1 : Int
def z33 : S33 := ⟨0, 0⟩
def k33 : Kd S33 := Kd.iso (Kd.pair (Kd.int .i64) (Kd.int .i64)) (fun x : S33 => (x.f0, x.f1))
theorem pairAt {w : World} {A : Option Addr} {n : Nat} {xs : List S33} (h : Kd.C k33 w A n xs) (i : Nat) (hi : i < n) : ∃ ad, A = some ad ∧ w.cell? (ad.add (i * 2)) = some (.int .i64 (xs.getD i z33).f0) ∧ w.cell? ⟨(ad.add (i * 2)).block, (ad.add (i * 2)).off + 1, none⟩ = some (.int .i64 (xs.getD i z33).f1) := by
  obtain ⟨ad, c, e, _, hK, hc0⟩ := Kd.C_get h z33 (i : Int) (by omega) (by omega)
  have hc : ∀ j u, c[j]? = some u → w.cell? (ad.add (i * 2 + j)) = some u := hc0
  obtain ⟨_, _, rfl, rfl, rfl⟩ := hK
  exact ⟨ad, e, hc 0 _ rfl, by rw [← add_field _ _ 1 (by omega)]; exact hc 1 _ rfl⟩
theorem smallW (a : Int) (B : Int) (hB : 0 < B) (hB2 : B ≤ 2000000000000) : ∃ n : Nat, wrap64 (Int.tmod (IntKind.u64.wrap a) B) = (n : Int) ∧ (n : Int) < B := by
  have h0 : 0 ≤ IntKind.u64.wrap a := by
    rw [IntKind.wrap_u64]
    exact Int.emod_nonneg _ (by decide)
  have t0 : 0 ≤ Int.tmod (IntKind.u64.wrap a) B := Int.tmod_nonneg _ h0
  have t1 : Int.tmod (IntKind.u64.wrap a) B < B := Int.tmod_lt_of_pos _ hB
  exact ⟨(Int.tmod (IntKind.u64.wrap a) B).toNat, by unfold wrap64; omega, by omega⟩
/-- What the best is. -/
theorem bst_spec (lt : Int → Int → Bool) (irr : ∀ a, lt a a = false) (tr : ∀ a b c, lt a b = true → lt b c = true → lt a c = true) (c : Int → Int) (ks : List Int) : ∀ i : Nat, i ≤ ks.length →
    (i = 0 ∧ Li.bst lt c (ks.take i) = (0, 0, false)) ∨ (0 < i ∧ ∃ k, Li.bst lt c (ks.take i) = (k, c k, true) ∧ k ∈ ks.take i ∧ ∀ x ∈ ks.take i, lt (c x) (c k) = false)
  | 0, _ => .inl ⟨rfl, rfl⟩
  | i + 1, hi => by
    refine .inr ⟨by omega, ?_⟩
    have hs := Li.bst_succ lt c ks i (by omega)
    have ht : ks.take (i + 1) = ks.take i ++ [ks[i]] := List.take_succ_eq_append_getElem (by omega)
    rw [hs]
    rcases bst_spec lt irr tr c ks i (by omega) with ⟨h0, h1⟩ | ⟨h0, k, h1, h2, h3⟩
    · rw [h1]
      subst h0
      refine ⟨ks[0], rfl, by rw [ht]; simp, fun x hx => ?_⟩
      rw [ht] at hx
      obtain rfl : x = ks[0] := by simpa using hx
      exact irr _
    · rw [h1]
      cases h : lt (c ks[i]) (c k) with
      | true =>
        refine ⟨ks[i], by unfold Li.bstep; rw [h]; rfl, by rw [ht]; exact List.mem_append_right _ (List.mem_singleton.2 rfl), fun x hx => ?_⟩
        rw [ht, List.mem_append] at hx
        rcases hx with hx | hx
        · cases h4 : lt (c x) (c ks[i]) with
          | false => rfl
          | true => rw [← h3 x hx, tr _ _ _ h4 h]
        · obtain rfl : x = ks[i] := by simpa using hx
          exact irr _
      | false =>
        refine ⟨k, by unfold Li.bstep; rw [h]; rfl, by rw [ht]; exact List.mem_append_left _ h2, fun x hx => ?_⟩
        rw [ht, List.mem_append] at hx
        rcases hx with hx | hx
        · exact h3 x hx
        · obtain rfl : x = ks[i] := by simpa using hx
          exact h
theorem bst_all (lt : Int → Int → Bool) (irr : ∀ a, lt a a = false) (tr : ∀ a b c, lt a b = true → lt b c = true → lt a c = true) (c : Int → Int) (ks : List Int) :
    (ks = [] ∧ Li.bst lt c ks = (0, 0, false)) ∨ (0 < ks.length ∧ ∃ k, Li.bst lt c ks = (k, c k, true) ∧ k ∈ ks ∧ ∀ x ∈ ks, lt (c x) (c k) = false) := by
  have h := bst_spec lt irr tr c ks ks.length (Nat.le_refl _)
  rw [List.take_length] at h
  rcases h with ⟨h0, h1⟩ | h
  · exact .inl ⟨List.length_eq_zero_iff.1 h0, h1⟩
  · exact .inr h
theorem lt_irr (a : Int) : Li.ltI a a = false := decide_eq_false (Int.lt_irrefl a)
theorem lt_tr (a b c : Int) (h1 : Li.ltI a b = true) (h2 : Li.ltI b c = true) : Li.ltI a c = true := decide_eq_true (Int.lt_trans (of_decide_eq_true h1) (of_decide_eq_true h2))
theorem gt_irr (a : Int) : Li.gtI a a = false := decide_eq_false (Int.lt_irrefl a)
theorem gt_tr (a b c : Int) (h1 : Li.gtI a b = true) (h2 : Li.gtI b c = true) : Li.gtI a c = true := decide_eq_true (Int.lt_trans (of_decide_eq_true h2) (of_decide_eq_true h1))
/-- How often a stands among the first i. -/
def cnt (a : Int) (ks : List Int) : Nat → Nat
  | 0 => 0
  | i + 1 => cnt a ks i + (if ks.getD i 0 = a then 1 else 0)
theorem cnt_none {a : Int} {ks : List Int} : ∀ i, (∀ j, j < i → ks.getD j 0 ≠ a) → cnt a ks i = 0
  | 0, _ => rfl
  | i + 1, h => by
    unfold cnt
    rw [cnt_none i (fun j hj => h j (by omega)), if_neg (h i (by omega))]
theorem cnt_one {a : Int} {ks : List Int} (m : Nat) (hm : ks.getD m 0 = a) (hu : ∀ j, j < ks.length → ks.getD j 0 = a → j = m) : ∀ i, m < i → i ≤ ks.length → cnt a ks i = 1
  | i + 1, h1, h2 => by
    unfold cnt
    by_cases e : m = i
    · subst e
      rw [if_pos hm, cnt_none m (fun j hj e => by have := hu j (by omega) e; omega)]
    · rw [if_neg (fun e2 => e (hu i (by omega) e2).symm), cnt_one m hm hu i (by omega) (by omega)]
theorem cnt_le (a : Int) (ks : List Int) : ∀ i, cnt a ks i ≤ i
  | 0 => Nat.le_refl _
  | i + 1 => by
    have := cnt_le a ks i
    unfold cnt
    split <;> omega
theorem cnt_full {c : Int → Int} {ks : List Int} (h : Li.KSet c ks) {a : Int} (ha : a ∈ ks) : cnt a ks ks.length = 1 := by
  obtain ⟨m, hm, e⟩ := List.getElem_of_mem ha
  refine cnt_one m (by rw [getD_at ks 0 m hm]; exact e) (fun j hj ej => ?_) ks.length hm (Nat.le_refl _)
  rw [getD_at ks 0 j hj] at ej
  rcases Nat.lt_trichotomy j m with h1 | h1 | h1
  · have := List.pairwise_iff_getElem.1 h.lt j m hj hm h1
    omega
  · exact h1
  · have := List.pairwise_iff_getElem.1 h.lt m j hm hj h1
    omega
set_option maxHeartbeats 8000000 in
set_option maxRecDepth 100000 in
theorem between (W : World) (A : Option Addr) (cp : Nat) (l : List S33) (hC : Kd.C k33 W A l.length l) (hok : ∀ x ∈ l, (Lit.int .i64 x.f0).wf = true) :
    Calls Try.prog 8 #[.slice A l.length cp] W fun e W' => e = .returned (.bool true) ∧ Below W.heap.size W W' := by
  have HC := Aside0.mk hC
  have HOK := Aside0.mk hok
  clear hC hok
  by_cases h60 : 60 < l.length
  · have d1 : decide ((l.length : Int) > 60) = true := decide_eq_true (by omega)
    have d1n : decide (60 < l.length) = true := decide_eq_true h60
    clear h60
    go_enter Try.func8, Try.ntmps8
    go_wp2_with fail
    refine (awake W).mono ?_
    rintro ev w6 ⟨rfl, hb6⟩
    have HB6 := Aside0.mk hb6
    clear hb6
    go_wp2_with fail
    go_ret
    exact ⟨rfl, HB6.out⟩
  have d1 : decide ((l.length : Int) > 60) = false := decide_eq_false (by omega)
  have d1n : decide (60 < l.length) = false := decide_eq_false h60
  have HL := Aside0.mk (show l.length ≤ 60 by omega)
  clear h60
  go_enter Try.func8, Try.ntmps8
  go_wp2_with fail
  refine (Li.new W).mono ?_
  rintro ev w1 ⟨rfl, hT, hb⟩
  have HB1 := Aside0.mk hb
  have HT1 := Aside0.mk hT
  obtain ⟨tb, htb⟩ : ∃ x, W.heap.size + 1 = x := ⟨_, rfl⟩
  obtain ⟨b, hb'⟩ : ∃ x, W.heap.size = x := ⟨_, rfl⟩
  rw [htb, hb'] at HT1
  rw [htb]
  have HBB := Aside0.mk (show W.heap.size ≤ b by omega)
  clear hT hb htb hb' d1 d1n
  go_wp2_with fail
  go_loopw [24] (fun v24 wr => ∃ (i : Nat) (c : Int → Int), i ≤ l.length ∧ v24 = .int .i64 (i : Int) ∧ Aside0 (Li.Tl wr tb b c i) ∧ Aside0 (Below W.heap.size W wr)) (fun v24 _ => l.length - (intOf v24).toNat)
  case atStart => exact ⟨0, _, Nat.zero_le _, rfl, HT1, HB1⟩
  case round =>
    clear HT1 HB1
    obtain ⟨i, c, hi, rfl, HT, HB⟩ := hrel
    by_cases hlt : i < l.length
    · have hlt2 : (i : Int) < (l.length : Int) := by omega
      have HLT := Aside0.mk hlt
      have hw2 : wrap64 ((i : Int) + 1) = ((i + 1 : Nat) : Int) := by rw [show (i : Int) + 1 = ((i + 1 : Nat) : Int) by omega]; exact Li.wrapS _ (by omega) (by have := HL.out; omega)
      have HCr := Aside0.mk (Kd.C_below HC.out HB.out)
      obtain ⟨ad, rfl, x0, x1⟩ := pairAt HCr.out i hlt
      have hwf := HOK.out (l.getD i z33) (by rw [getD_at l z33 i hlt]; exact List.getElem_mem hlt)
      obtain ⟨d, hd⟩ : ∃ d, l.getD i z33 = d := ⟨_, rfl⟩
      rw [hd] at x0 x1 hwf
      obtain ⟨v, hv, hv50⟩ := smallW d.f1 50 (by decide) (by decide)
      have HWF := Aside0.mk hwf
      have HV := Aside0.mk (Li.rng_wf (x := (v : Int)) (by omega) (by omega))
      clear hd hwf hv50 hlt hi HCr
      obtain ⟨w4, hw4⟩ : ∃ w4, wr.alloc (.cells #[.int .i64 d.f0, .int .i64 d.f1] 33) = w4 := ⟨_, rfl⟩
      have hb4 : Below wr.heap.size wr w4 := by rw [← hw4]; exact below_alloc (Below.refl _ _) _
      have HT4 := Aside0.mk (HT.out.below hb4)
      have HB4 := Aside0.mk (below_step HB.out hb4)
      have HW4 := Aside0.mk hw4
      clear hb4 hw4 HT HB
      go_wp2_with fail
      rw [HW4.out]
      refine (Li.add HT4.out (by have := HLT.out; have := HL.out; omega) d.f0 HWF.out (v : Int) HV.out).mono ?_
      rintro ev w5 ⟨rfl, hT, hg⟩
      have HT5 := Aside0.mk hT
      have HB5 := Aside0.mk (HB4.out.grown hg HB4.out.size (fun j hj => by cases hj; exact HBB.out))
      clear hT hg HT4 HB4 x0 x1 hv
      go_wp2_with fail
      go_roundw
      case measure =>
        have hm : l.length - ((i + 1 : Nat) : Int).toNat < l.length - ((i : Nat) : Int).toNat := by
          rw [Int.toNat_natCast, Int.toNat_natCast]
          exact Nat.sub_lt_sub_left HLT.out (Nat.lt_succ_self i)
        first | exact hm | (rw [hw2]; exact hm)
      case rel => exact ⟨i + 1, _, HLT.out, by first | rw [hw2] | rfl, HT5, HB5⟩
    · have he : i = l.length := by omega
      subst he
      have hnn : ¬ (((l.length : Nat) : Int) < (l.length : Int)) := by omega
      clear hlt hi
      go_wp2_with fail
      refine (Li.least HT.out (by have := HL.out; omega)).mono ?_
      rintro ev w2 ⟨ks, hks, rfl, hb⟩
      have HKS := Aside0.mk hks
      have HB2 := Aside0.mk (below_step HB.out hb)
      have HT2 := Aside0.mk (HT.out.below hb)
      clear hks hb HB HT
      go_wp2_with fail
      refine (mostI HT2.out (by have := HL.out; omega)).mono ?_
      rintro ev w3 ⟨ks2, hks, rfl, hb⟩
      rw [ksetI hks HKS.out]
      have HB3 := Aside0.mk (below_step HB2.out hb)
      have HT3 := Aside0.mk (HT2.out.below hb)
      clear hks hb HB2 HT2
      go_wp2_with fail
      refine (Li.keys HT3.out (by have := HL.out; omega)).mono ?_
      rintro ev w4 ⟨A4, cap4, ks3, rfl, -, hkl, hrow, hks, hb⟩
      have e3 := ksetI hks HKS.out
      subst e3
      have HB4 := Aside0.mk (below_step HB3.out hb)
      have HT4 := Aside0.mk (HT3.out.below hb)
      have HROW := Aside0.mk hrow
      have HKL := Aside0.mk (show ks3.length ≤ 60 by have := HL.out; omega)
      clear hks hb HB3 HT3 hrow hkl
      rcases bst_all Li.ltI lt_irr lt_tr c ks3 with ⟨h0, hl0⟩ | ⟨h0, ka, hla, hma, hba⟩
      · rcases bst_all Li.gtI gt_irr gt_tr c ks3 with ⟨-, hg0⟩ | ⟨h1, -⟩
        · rw [hl0, hg0]
          subst h0
          clear hl0 hg0
          go_wp2_with fail
          go_loopw [13, 64] (fun v13 v64 wr => v13 = .int .i64 0 ∧ v64 = .int .i64 0 ∧ wr = w4) (fun _ _ _ => 0)
          case atStart => exact ⟨rfl, rfl, rfl⟩
          case round =>
            obtain ⟨rfl, rfl, hwr⟩ := hrel
            rw [hwr]
            clear hwr
            go_wp2_with fail
            refine (awake w4).mono ?_
            rintro ev w6 ⟨rfl, hb6⟩
            have HB6 := Aside0.mk (below_step HB4.out hb6)
            clear hb6
            go_wp2_with fail
            go_ret
            exact ⟨rfl, HB6.out⟩
        · subst h0
          exact absurd h1 (by decide)
      · rcases bst_all Li.gtI gt_irr gt_tr c ks3 with ⟨h1, -⟩ | ⟨-, kb, hlb, hmb, hbb⟩
        · subst h1
          exact absurd h0 (by decide)
        · rw [hla, hlb]
          have g1 : decide ((ks3.length : Int) > 0) = true := decide_eq_true (by omega)
          have g1n : decide (0 < ks3.length) = true := decide_eq_true h0
          have HBA := Aside0.mk hba
          have HBB2 := Aside0.mk hbb
          have HCA := Aside0.mk (cnt_full HKS.out hma)
          have HCB := Aside0.mk (cnt_full HKS.out hmb)
          clear hla hlb hma hmb hba hbb h0
          go_wp2_with fail
          clear g1 g1n
          go_loopw [13, 64] (fun v13 v64 wr => ∃ i : Nat, i ≤ ks3.length ∧ v13 = .int .i64 ((cnt ka ks3 i + cnt kb ks3 i : Nat) : Int) ∧ v64 = .int .i64 (i : Int) ∧ wr = w4) (fun _ v64 _ => ks3.length - (intOf v64).toNat)
          case atStart => exact ⟨0, Nat.zero_le _, rfl, rfl, rfl⟩
          case round =>
            obtain ⟨i, hi, rfl, rfl, hwr⟩ := hrel
            rw [hwr]
            clear hwr
            by_cases hlt : i < ks3.length
            · have hlt2 : (i : Int) < (ks3.length : Int) := by omega
              have HLT := Aside0.mk hlt
              have hw2 : wrap64 ((i : Int) + 1) = ((i + 1 : Nat) : Int) := by rw [show (i : Int) + 1 = ((i + 1 : Nat) : Int) by omega]; exact Li.wrapS _ (by omega) (by have := HKL.out; omega)
              obtain ⟨ad, rfl, hx⟩ := HROW.out i hlt
              have hwf := HKS.out.wf _ (List.getElem_mem hlt)
              have hne := (HKS.out.mem _ hwf).1 (List.getElem_mem hlt)
              have hfa := HBA.out _ (List.getElem_mem hlt)
              have hfb := HBB2.out _ (List.getElem_mem hlt)
              have hca : cnt ka ks3 (i + 1) = cnt ka ks3 i + (if ks3[i] = ka then 1 else 0) := by rw [← getD_at ks3 0 i hlt]; rfl
              have hcb : cnt kb ks3 (i + 1) = cnt kb ks3 i + (if ks3[i] = kb then 1 else 0) := by rw [← getD_at ks3 0 i hlt]; rfl
              have hla := cnt_le ka ks3 i
              have hlb := cnt_le kb ks3 i
              obtain ⟨x, hx_⟩ : ∃ x, ks3[i] = x := ⟨_, rfl⟩
              rw [hx_] at hx hwf hne hfa hfb hca hcb
              obtain ⟨m, hm⟩ : ∃ m, cnt ka ks3 i + cnt kb ks3 i = m := ⟨_, rfl⟩
              have hr0 := (HT4.out.rng x).1
              rw [hm]
              have HCAs := Aside0.mk hca
              have HCBs := Aside0.mk hcb
              have HMM := Aside0.mk hm
              have HM120 := Aside0.mk (show m ≤ 120 by have := HKL.out; omega)
              have HWF := Aside0.mk hwf
              have p1 : decide (c x < c ka) = false := hfa
              have q1 : decide (c x > c kb) = false := hfb
              have q1n : decide (c kb < c x) = false := hfb
              have r1 : decide (c x < 1) = false := decide_eq_false (by omega)
              clear hwf hne hfa hfb hca hcb hx_ hm hr0 hla hlb hlt hi
              have hw3 : wrap64 ((m : Int) + 1) = ((m + 1 : Nat) : Int) := by rw [show (m : Int) + 1 = ((m + 1 : Nat) : Int) by omega]; exact Li.wrapS _ (by omega) (by have := HM120.out; omega)
              have hw4 : wrap64 (((m + 1 : Nat) : Int) + 1) = ((m + 2 : Nat) : Int) := by rw [show ((m + 1 : Nat) : Int) + 1 = ((m + 2 : Nat) : Int) by omega]; exact Li.wrapS _ (by omega) (by have := HM120.out; omega)
              have hw5 : wrap64 ((m : Int) + 1 + 1) = ((m + 2 : Nat) : Int) := by rw [show (m : Int) + 1 + 1 = ((m + 2 : Nat) : Int) by omega]; exact Li.wrapS _ (by omega) (by have := HM120.out; omega)
              go_wp2_with fail
              refine (Li.of' HT4.out x HWF.out).mono ?_
              rintro ev w5 ⟨rfl, hw⟩
              rw [hw]
              clear hw w5
              by_cases hxa : x = ka
              · by_cases hxb : x = kb
                · have p2 : (x == ka) = true := beq_iff_eq.2 hxa
                  have p2d : decide (x = ka) = true := decide_eq_true hxa
                  have q2 : (x == kb) = true := beq_iff_eq.2 hxb
                  have q2d : decide (x = kb) = true := decide_eq_true hxb
                  have hres : cnt ka ks3 (i + 1) + cnt kb ks3 (i + 1) = m + 2 := by rw [HCAs.out, HCBs.out, if_pos hxa, if_pos hxb]; have := HMM.out; omega
                  have HRES := Aside0.mk hres
                  clear hres hxa hxb
                  go_wp2_with fail
                  go_roundw
                  case measure =>
                    have hm : ks3.length - ((i + 1 : Nat) : Int).toNat < ks3.length - ((i : Nat) : Int).toNat := by
                      rw [Int.toNat_natCast, Int.toNat_natCast]
                      exact Nat.sub_lt_sub_left HLT.out (Nat.lt_succ_self i)
                    first | exact hm | (rw [hw2]; exact hm)
                  case rel => exact ⟨i + 1, HLT.out, by rw [HRES.out]; try (first | rw [hw5] | rw [hw4] | rw [hw3, hw4] | rw [hw3] | rfl), by first | rw [hw2] | rfl, by first | rfl | trivial⟩
                · have p2 : (x == ka) = true := beq_iff_eq.2 hxa
                  have p2d : decide (x = ka) = true := decide_eq_true hxa
                  have q2 : (x == kb) = false := beq_eq_false_iff_ne.2 hxb
                  have q2d : decide (x = kb) = false := decide_eq_false hxb
                  have hres : cnt ka ks3 (i + 1) + cnt kb ks3 (i + 1) = m + 1 := by rw [HCAs.out, HCBs.out, if_pos hxa, if_neg hxb]; have := HMM.out; omega
                  have HRES := Aside0.mk hres
                  clear hres hxa hxb
                  go_wp2_with fail
                  go_roundw
                  case measure =>
                    have hm : ks3.length - ((i + 1 : Nat) : Int).toNat < ks3.length - ((i : Nat) : Int).toNat := by
                      rw [Int.toNat_natCast, Int.toNat_natCast]
                      exact Nat.sub_lt_sub_left HLT.out (Nat.lt_succ_self i)
                    first | exact hm | (rw [hw2]; exact hm)
                  case rel => exact ⟨i + 1, HLT.out, by rw [HRES.out]; try (first | rw [hw5] | rw [hw4] | rw [hw3, hw4] | rw [hw3] | rfl), by first | rw [hw2] | rfl, by first | rfl | trivial⟩
              · by_cases hxb : x = kb
                · have p2 : (x == ka) = false := beq_eq_false_iff_ne.2 hxa
                  have p2d : decide (x = ka) = false := decide_eq_false hxa
                  have q2 : (x == kb) = true := beq_iff_eq.2 hxb
                  have q2d : decide (x = kb) = true := decide_eq_true hxb
                  have hres : cnt ka ks3 (i + 1) + cnt kb ks3 (i + 1) = m + 1 := by rw [HCAs.out, HCBs.out, if_neg hxa, if_pos hxb]; have := HMM.out; omega
                  have HRES := Aside0.mk hres
                  clear hres hxa hxb
                  go_wp2_with fail
                  go_roundw
                  case measure =>
                    have hm : ks3.length - ((i + 1 : Nat) : Int).toNat < ks3.length - ((i : Nat) : Int).toNat := by
                      rw [Int.toNat_natCast, Int.toNat_natCast]
                      exact Nat.sub_lt_sub_left HLT.out (Nat.lt_succ_self i)
                    first | exact hm | (rw [hw2]; exact hm)
                  case rel => exact ⟨i + 1, HLT.out, by rw [HRES.out]; try (first | rw [hw5] | rw [hw4] | rw [hw3, hw4] | rw [hw3] | rfl), by first | rw [hw2] | rfl, by first | rfl | trivial⟩
                · have p2 : (x == ka) = false := beq_eq_false_iff_ne.2 hxa
                  have p2d : decide (x = ka) = false := decide_eq_false hxa
                  have q2 : (x == kb) = false := beq_eq_false_iff_ne.2 hxb
                  have q2d : decide (x = kb) = false := decide_eq_false hxb
                  have hres : cnt ka ks3 (i + 1) + cnt kb ks3 (i + 1) = m := by rw [HCAs.out, HCBs.out, if_neg hxa, if_neg hxb]; have := HMM.out; omega
                  have HRES := Aside0.mk hres
                  clear hres hxa hxb
                  go_wp2_with fail
                  go_roundw
                  case measure =>
                    have hm : ks3.length - ((i + 1 : Nat) : Int).toNat < ks3.length - ((i : Nat) : Int).toNat := by
                      rw [Int.toNat_natCast, Int.toNat_natCast]
                      exact Nat.sub_lt_sub_left HLT.out (Nat.lt_succ_self i)
                    first | exact hm | (rw [hw2]; exact hm)
                  case rel => exact ⟨i + 1, HLT.out, by rw [HRES.out]; try (first | rw [hw5] | rw [hw4] | rw [hw3, hw4] | rw [hw3] | rfl), by first | rw [hw2] | rfl, by first | rfl | trivial⟩
            · have he : i = ks3.length := by omega
              subst he
              have hnn2 : ¬ (((ks3.length : Nat) : Int) < (ks3.length : Int)) := by omega
              clear hlt hi
              rw [HCA.out, HCB.out]
              go_wp2_with fail
              refine (awake w4).mono ?_
              rintro ev w6 ⟨rfl, hb6⟩
              have HB6 := Aside0.mk (below_step HB4.out hb6)
              clear hb6
              go_wp2_with fail
              go_ret
              exact ⟨rfl, HB6.out⟩
theorem betweenFinal (W : World) (A0 : Option Addr) (c0 : Nat) (l0 : List S33) (hc0 : l0.length ≤ c0) (hr0 : Kd.C k33 W A0 l0.length l0) (hm0 : l0.length ≤ maxLen) (hok0 : ∀ x ∈ l0, (Lit.int .i64 x.f0).wf = true ∧ (Lit.int .i64 x.f1).wf = true) :
    Calls Try.prog 8 #[.slice A0 l0.length c0] W fun e W' => e = .returned (.bool true) ∧ Below W.heap.size W W' := between W A0 c0 l0 hr0 (fun x hx => (hok0 x hx).1)
end Go.Proofs.Ythnicdafglohbaa.Lw
