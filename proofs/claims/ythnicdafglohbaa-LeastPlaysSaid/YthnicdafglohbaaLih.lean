/-  Low and High (of one kind).  -/
import Derived.Test.YthnicdafglohbaaLib
import Derived.Sort.Walk0
import Derived.Laws.Cover1
set_option linter.unusedVariables false
set_option linter.unusedSimpArgs false
namespace Go.Proofs.Ythnicdafglohbaa.Li
open Go.RowKit Go.Maps Go.Sort Go.Lib Go.WideMaps Go.Proofs.YthnicdafglohbaaW.PrintWords Go.Proofs.YthnicdafglohbaaW.PrintLast Go.Proofs.YthnicdafglohbaaW.PrintMore
attribute [local go_sem] max2_int min2_int max_two min_two max_three min_three max_four min_four

def endAt (lt : Int → Int → Bool) (ks : List Int) : Nat → Int
  | 0 => -1
  | i + 1 => if endAt lt ks i < 0 ∨ lt (ks.getD i 0) (ks.getD (endAt lt ks i).toNat 0) = true then (i : Int) else endAt lt ks i
theorem endAt_rng (lt : Int → Int → Bool) (ks : List Int) : ∀ i : Nat, -1 ≤ endAt lt ks i ∧ endAt lt ks i < (i : Int)
  | 0 => by unfold endAt; omega
  | i + 1 => by
    have := endAt_rng lt ks i
    unfold endAt
    split <;> omega
def lowF (x y : Int) : Bool := decide (x < y)
def highF (x y : Int) : Bool := decide (y < x)
set_option maxHeartbeats 4000000 in
set_option maxRecDepth 100000 in
theorem low {w : World} {A : Option Addr} {cap : Nat} {ks : List Int} (hr : RowAt w A ks) (hl : ks.length ≤ 1000000) :
    Calls Try.prog 10 #[.slice A ks.length cap] w fun e w' => e = .returned (.int .i64 (endAt lowF ks ks.length)) ∧ w' = w := by
  have HR := Aside0.mk hr
  have HL := Aside0.mk hl
  clear hr hl
  go_enter Try.func10, Try.ntmps10
  go_wp2_with fail
  go_loopw [3, 8] (fun v3 v8 wr => ∃ (i : Nat), i ≤ ks.length ∧ v3 = .int .i64 (endAt lowF ks i) ∧ v8 = .int .i64 (i : Int) ∧ wr = w) (fun _ v8 _ => ks.length - (intOf v8).toNat)
  case atStart => exact ⟨0, Nat.zero_le _, rfl, rfl, rfl⟩
  case round =>
    obtain ⟨i, hi, rfl, rfl, hwr⟩ := hrel
    rw [hwr]
    clear hwr
    by_cases hlt : i < ks.length
    · have hlt2 : (i : Int) < (ks.length : Int) := by omega
      have HLT := Aside0.mk hlt
      have hw2 : wrap64 ((i : Int) + 1) = ((i + 1 : Nat) : Int) := by rw [show (i : Int) + 1 = ((i + 1 : Nat) : Int) by omega]; exact wrapS _ (by omega) (by have := HL.out; omega)
      obtain ⟨ad, rfl, hx⟩ := HR.out i hlt
      have hes : endAt lowF ks (i + 1) = if endAt lowF ks i < 0 ∨ lowF ks[i] (ks.getD (endAt lowF ks i).toNat 0) = true then (i : Int) else endAt lowF ks i := by
        show (if _ ∨ lowF (ks.getD i 0) _ = true then _ else _) = _
        rw [List.getD_eq_getElem?_getD (l := ks) (i := i), List.getElem?_eq_getElem hlt]
        rfl
      obtain ⟨hr0, hr1⟩ := endAt_rng lowF ks i
      obtain ⟨k, hk⟩ : ∃ k, ks[i] = k := ⟨_, rfl⟩
      rw [hk] at hx hes
      obtain ⟨z, hz⟩ : ∃ z, endAt lowF ks i = z := ⟨_, rfl⟩
      rw [hz] at hes hr0 hr1 ⊢
      have HES := Aside0.mk hes
      clear hes hk hz hi
      by_cases hneg : z < 0
      · have HE2 : Aside0 (endAt lowF ks (i + 1) = (i : Int)) := ⟨by rw [HES.out, if_pos (.inl hneg)]⟩
        have d1 : decide (z < 0) = true := decide_eq_true hneg
        clear hr0 hr1 hneg
        go_wp2_with fail
        go_roundw
        case measure =>
          have hm : ks.length - ((i + 1 : Nat) : Int).toNat < ks.length - ((i : Nat) : Int).toNat := by
            rw [Int.toNat_natCast, Int.toNat_natCast]
            exact Nat.sub_lt_sub_left HLT.out (Nat.lt_succ_self i)
          first | exact hm | (rw [hw2]; exact hm)
        case rel => exact ⟨i + 1, HLT.out, by rw [HE2.out], by first | rw [hw2] | rfl, by first | rfl | trivial⟩
      · obtain ⟨m, hm⟩ : ∃ m : Nat, z = (m : Int) := ⟨z.toNat, by omega⟩
        subst hm
        have hml : m < ks.length := by omega
        obtain ⟨ad2, e2, hy⟩ := HR.out m hml
        cases e2
        have d1 : decide ((m : Int) < 0) = false := decide_eq_false (by omega)
        have hml2 : (m : Int) < (ks.length : Int) := by omega
        obtain ⟨k2, hk2⟩ : ∃ k2, ks[m] = k2 := ⟨_, rfl⟩
        have hgd : ks.getD (Int.toNat (m : Int)) 0 = k2 := by
          rw [Int.toNat_natCast, List.getD_eq_getElem?_getD, List.getElem?_eq_getElem hml]
          exact hk2
        rw [hk2] at hy
        have HGD := Aside0.mk hgd
        clear hr0 hr1 hk2 hgd hneg hlt
        cases hb : lowF k k2 with
        | true =>
          have HE2 : Aside0 (endAt lowF ks (i + 1) = (i : Int)) := ⟨by rw [HES.out, HGD.out, if_pos (.inr hb)]⟩
          have hb2 : decide (k < k2) = _ := hb
          clear hb hml
          go_wp2_with fail
          go_roundw
          case measure =>
            have hm : ks.length - ((i + 1 : Nat) : Int).toNat < ks.length - ((i : Nat) : Int).toNat := by
              rw [Int.toNat_natCast, Int.toNat_natCast]
              exact Nat.sub_lt_sub_left HLT.out (Nat.lt_succ_self i)
            first | exact hm | (rw [hw2]; exact hm)
          case rel => exact ⟨i + 1, HLT.out, by rw [HE2.out], by first | rw [hw2] | rfl, by first | rfl | trivial⟩
        | false =>
          have HE2 : Aside0 (endAt lowF ks (i + 1) = (m : Int)) := ⟨by rw [HES.out, HGD.out, if_neg (by rintro (h | h); exact absurd h (by omega); rw [hb] at h; cases h)]⟩
          have hb2 : decide (k < k2) = _ := hb
          clear hb hml
          go_wp2_with fail
          go_roundw
          case measure =>
            have hm : ks.length - ((i + 1 : Nat) : Int).toNat < ks.length - ((i : Nat) : Int).toNat := by
              rw [Int.toNat_natCast, Int.toNat_natCast]
              exact Nat.sub_lt_sub_left HLT.out (Nat.lt_succ_self i)
            first | exact hm | (rw [hw2]; exact hm)
          case rel => exact ⟨i + 1, HLT.out, by rw [HE2.out], by first | rw [hw2] | rfl, by first | rfl | trivial⟩
    · have he : i = ks.length := by omega
      subst he
      have hnn : ¬ (((ks.length : Nat) : Int) < (ks.length : Int)) := by omega
      clear hlt hi
      go_wp2_with fail
      go_ret
      exact ⟨rfl, rfl⟩
set_option maxHeartbeats 4000000 in
set_option maxRecDepth 100000 in
theorem high {w : World} {A : Option Addr} {cap : Nat} {ks : List Int} (hr : RowAt w A ks) (hl : ks.length ≤ 1000000) :
    Calls Try.prog 11 #[.slice A ks.length cap] w fun e w' => e = .returned (.int .i64 (endAt highF ks ks.length)) ∧ w' = w := by
  have HR := Aside0.mk hr
  have HL := Aside0.mk hl
  clear hr hl
  go_enter Try.func11, Try.ntmps11
  go_wp2_with fail
  go_loopw [3, 8] (fun v3 v8 wr => ∃ (i : Nat), i ≤ ks.length ∧ v3 = .int .i64 (endAt highF ks i) ∧ v8 = .int .i64 (i : Int) ∧ wr = w) (fun _ v8 _ => ks.length - (intOf v8).toNat)
  case atStart => exact ⟨0, Nat.zero_le _, rfl, rfl, rfl⟩
  case round =>
    obtain ⟨i, hi, rfl, rfl, hwr⟩ := hrel
    rw [hwr]
    clear hwr
    by_cases hlt : i < ks.length
    · have hlt2 : (i : Int) < (ks.length : Int) := by omega
      have HLT := Aside0.mk hlt
      have hw2 : wrap64 ((i : Int) + 1) = ((i + 1 : Nat) : Int) := by rw [show (i : Int) + 1 = ((i + 1 : Nat) : Int) by omega]; exact wrapS _ (by omega) (by have := HL.out; omega)
      obtain ⟨ad, rfl, hx⟩ := HR.out i hlt
      have hes : endAt highF ks (i + 1) = if endAt highF ks i < 0 ∨ highF ks[i] (ks.getD (endAt highF ks i).toNat 0) = true then (i : Int) else endAt highF ks i := by
        show (if _ ∨ highF (ks.getD i 0) _ = true then _ else _) = _
        rw [List.getD_eq_getElem?_getD (l := ks) (i := i), List.getElem?_eq_getElem hlt]
        rfl
      obtain ⟨hr0, hr1⟩ := endAt_rng highF ks i
      obtain ⟨k, hk⟩ : ∃ k, ks[i] = k := ⟨_, rfl⟩
      rw [hk] at hx hes
      obtain ⟨z, hz⟩ : ∃ z, endAt highF ks i = z := ⟨_, rfl⟩
      rw [hz] at hes hr0 hr1 ⊢
      have HES := Aside0.mk hes
      clear hes hk hz hi
      by_cases hneg : z < 0
      · have HE2 : Aside0 (endAt highF ks (i + 1) = (i : Int)) := ⟨by rw [HES.out, if_pos (.inl hneg)]⟩
        have d1 : decide (z < 0) = true := decide_eq_true hneg
        clear hr0 hr1 hneg
        go_wp2_with fail
        go_roundw
        case measure =>
          have hm : ks.length - ((i + 1 : Nat) : Int).toNat < ks.length - ((i : Nat) : Int).toNat := by
            rw [Int.toNat_natCast, Int.toNat_natCast]
            exact Nat.sub_lt_sub_left HLT.out (Nat.lt_succ_self i)
          first | exact hm | (rw [hw2]; exact hm)
        case rel => exact ⟨i + 1, HLT.out, by rw [HE2.out], by first | rw [hw2] | rfl, by first | rfl | trivial⟩
      · obtain ⟨m, hm⟩ : ∃ m : Nat, z = (m : Int) := ⟨z.toNat, by omega⟩
        subst hm
        have hml : m < ks.length := by omega
        obtain ⟨ad2, e2, hy⟩ := HR.out m hml
        cases e2
        have d1 : decide ((m : Int) < 0) = false := decide_eq_false (by omega)
        have hml2 : (m : Int) < (ks.length : Int) := by omega
        obtain ⟨k2, hk2⟩ : ∃ k2, ks[m] = k2 := ⟨_, rfl⟩
        have hgd : ks.getD (Int.toNat (m : Int)) 0 = k2 := by
          rw [Int.toNat_natCast, List.getD_eq_getElem?_getD, List.getElem?_eq_getElem hml]
          exact hk2
        rw [hk2] at hy
        have HGD := Aside0.mk hgd
        clear hr0 hr1 hk2 hgd hneg hlt
        cases hb : highF k k2 with
        | true =>
          have HE2 : Aside0 (endAt highF ks (i + 1) = (i : Int)) := ⟨by rw [HES.out, HGD.out, if_pos (.inr hb)]⟩
          have hb2 : decide (k2 < k) = _ := hb
          have hb3 : decide (k > k2) = _ := hb
          clear hb hml
          go_wp2_with fail
          go_roundw
          case measure =>
            have hm : ks.length - ((i + 1 : Nat) : Int).toNat < ks.length - ((i : Nat) : Int).toNat := by
              rw [Int.toNat_natCast, Int.toNat_natCast]
              exact Nat.sub_lt_sub_left HLT.out (Nat.lt_succ_self i)
            first | exact hm | (rw [hw2]; exact hm)
          case rel => exact ⟨i + 1, HLT.out, by rw [HE2.out], by first | rw [hw2] | rfl, by first | rfl | trivial⟩
        | false =>
          have HE2 : Aside0 (endAt highF ks (i + 1) = (m : Int)) := ⟨by rw [HES.out, HGD.out, if_neg (by rintro (h | h); exact absurd h (by omega); rw [hb] at h; cases h)]⟩
          have hb2 : decide (k2 < k) = _ := hb
          have hb3 : decide (k > k2) = _ := hb
          clear hb hml
          go_wp2_with fail
          go_roundw
          case measure =>
            have hm : ks.length - ((i + 1 : Nat) : Int).toNat < ks.length - ((i : Nat) : Int).toNat := by
              rw [Int.toNat_natCast, Int.toNat_natCast]
              exact Nat.sub_lt_sub_left HLT.out (Nat.lt_succ_self i)
            first | exact hm | (rw [hw2]; exact hm)
          case rel => exact ⟨i + 1, HLT.out, by rw [HE2.out], by first | rw [hw2] | rfl, by first | rfl | trivial⟩
    · have he : i = ks.length := by omega
      subst he
      have hnn : ¬ (((ks.length : Nat) : Int) < (ks.length : Int)) := by omega
      clear hlt hi
      go_wp2_with fail
      go_ret
      exact ⟨rfl, rfl⟩
end Go.Proofs.Ythnicdafglohbaa.Li
