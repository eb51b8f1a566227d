/-  LeastEnds returns true whatever the numbers and the texts: the first of the lowest, the first of the greatest.  -/
import Derived.Test.YthnicdafglohbaaNi
set_option linter.unusedVariables false
set_option linter.unusedSimpArgs false
namespace Go.Proofs.Ythnicdafglohbaa.Lw
open Go.RowKit Go.Maps Go.Sort Go.Lib Go.WideMaps Go.Proofs.YthnicdafglohbaaW.PrintWords Go.Proofs.YthnicdafglohbaaW.PrintLast Go.Proofs.YthnicdafglohbaaW.PrintMore
attribute [local go_sem] max2_int min2_int max_two min_two max_three min_three max_four min_four

theorem rowI {w : World} {A : Option Addr} {l : List Int} (h : Kd.C (Kd.int .i64) w A l.length l) : Li.RowAt w A l := fun j hj => by
  obtain ⟨ad, c, e, _, hK, hc⟩ := Kd.C_get h 0 (j : Int) (by omega) (by omega)
  have hk : c = [.int .i64 (l.getD j 0)] := hK
  have hz := hc 0 (.int .i64 (l.getD j 0)) (by rw [hk]; rfl)
  refine ⟨ad, e, ?_⟩
  have : l.getD j 0 = l[j] := by rw [List.getD_eq_getElem?_getD, List.getElem?_eq_getElem hj]; rfl
  rw [this] at hz
  simpa [Kd.int, Kd.scalar] using hz
theorem getD_at {α : Type} (l : List α) (z : α) (j : Nat) (h : j < l.length) : l.getD j z = l[j] := by rw [List.getD_eq_getElem?_getD, List.getElem?_eq_getElem h]; rfl
def ofB (s : ByteArray) : List UInt8 := s.data.toList
theorem rowS {w : World} {A : Option Addr} {l : List ByteArray} (h : Kd.C Kd.string w A l.length l) : Ls.RowAt w A (l.map ofB) := fun j hj => by
  have hj' : j < l.length := by simpa using hj
  obtain ⟨ad, c, e, _, hK, hc⟩ := Kd.C_get h ByteArray.empty (j : Int) (by omega) (by omega)
  have hk : c = [.string (l.getD j ByteArray.empty)] := hK
  have hz := hc 0 (.string (l.getD j ByteArray.empty)) (by rw [hk]; rfl)
  refine ⟨ad, e, ?_⟩
  have e2 : l.getD j ByteArray.empty = l[j] := by rw [List.getD_eq_getElem?_getD, List.getElem?_eq_getElem hj']; rfl
  rw [e2] at hz
  have e3 : encStr ((l.map ofB)[j]) = .string l[j] := by
    rw [List.getElem_map]
    show Value.string ⟨(l[j].data.toList).toArray⟩ = _
    rw [Array.toArray_toList]
  rw [e3]
  simpa [Kd.string, Kd.scalar] using hz
theorem endI (lt : Int → Int → Bool) (irr : ∀ a, lt a a = false) (tr : ∀ a b c, lt a b = true → lt b c = true → lt a c = true) (ks : List Int) : ∀ i : Nat, i ≤ ks.length → (i = 0 ∧ Li.endAt lt ks i = -1) ∨ ∃ m : Nat, Li.endAt lt ks i = (m : Int) ∧ m < i ∧ ∀ j, j < i → lt (ks.getD j 0) (ks.getD m 0) = false ∧ (j < m → ks.getD j 0 ≠ ks.getD m 0)
  | 0, _ => .inl ⟨rfl, rfl⟩
  | i + 1, hi => by
    refine .inr ?_
    have hes : Li.endAt lt ks (i + 1) = if Li.endAt lt ks i < 0 ∨ lt (ks.getD i 0) (ks.getD (Li.endAt lt ks i).toNat 0) = true then (i : Int) else Li.endAt lt ks i := rfl
    rw [hes]
    rcases endI lt irr tr ks i (by omega) with ⟨h0, h1⟩ | ⟨m, h1, h2, h3⟩
    · rw [h1, if_pos (.inl (by omega))]
      subst h0
      refine ⟨0, rfl, by omega, fun j hj => ?_⟩
      obtain rfl : j = 0 := by omega
      refine ⟨?_, fun h => absurd h (by omega)⟩
      cases h : lt (ks.getD 0 0) (ks.getD 0 0) with
      | false => rfl
      | true => exact absurd h (by rw [irr (ks.getD 0 0)]; decide)
    · rw [h1, Int.toNat_natCast]
      cases h : lt (ks.getD i 0) (ks.getD m 0) with
      | true =>
        rw [if_pos (.inr rfl)]
        refine ⟨i, rfl, by omega, fun j hj => ?_⟩
        by_cases e : j = i
        · subst e
          exact ⟨irr _, fun h => absurd h (by omega)⟩
        · obtain ⟨h4, h5⟩ := h3 j (by omega)
          refine ⟨?_, fun _ e2 => ?_⟩
          · cases h6 : lt (ks.getD j 0) (ks.getD i 0) with
            | false => rfl
            | true => rw [tr _ _ _ h6 h] at h4; cases h4
          · rw [e2, h] at h4; cases h4
      | false =>
        rw [if_neg (by rintro (h6 | h6); omega; cases h6)]
        refine ⟨m, rfl, by omega, fun j hj => ?_⟩
        by_cases e : j = i
        · subst e
          exact ⟨h, fun h => absurd h (by omega)⟩
        · exact h3 j (by omega)
theorem endS (lt : (List UInt8) → (List UInt8) → Bool) (irr : ∀ a, lt a a = false) (tr : ∀ a b c, lt a b = true → lt b c = true → lt a c = true) (ks : List (List UInt8)) : ∀ i : Nat, i ≤ ks.length → (i = 0 ∧ Ls.endAt lt ks i = -1) ∨ ∃ m : Nat, Ls.endAt lt ks i = (m : Int) ∧ m < i ∧ ∀ j, j < i → lt (ks.getD j []) (ks.getD m []) = false ∧ (j < m → ks.getD j [] ≠ ks.getD m [])
  | 0, _ => .inl ⟨rfl, rfl⟩
  | i + 1, hi => by
    refine .inr ?_
    have hes : Ls.endAt lt ks (i + 1) = if Ls.endAt lt ks i < 0 ∨ lt (ks.getD i []) (ks.getD (Ls.endAt lt ks i).toNat []) = true then (i : Int) else Ls.endAt lt ks i := rfl
    rw [hes]
    rcases endS lt irr tr ks i (by omega) with ⟨h0, h1⟩ | ⟨m, h1, h2, h3⟩
    · rw [h1, if_pos (.inl (by omega))]
      subst h0
      refine ⟨0, rfl, by omega, fun j hj => ?_⟩
      obtain rfl : j = 0 := by omega
      refine ⟨?_, fun h => absurd h (by omega)⟩
      cases h : lt (ks.getD 0 []) (ks.getD 0 []) with
      | false => rfl
      | true => exact absurd h (by rw [irr (ks.getD 0 [])]; decide)
    · rw [h1, Int.toNat_natCast]
      cases h : lt (ks.getD i []) (ks.getD m []) with
      | true =>
        rw [if_pos (.inr rfl)]
        refine ⟨i, rfl, by omega, fun j hj => ?_⟩
        by_cases e : j = i
        · subst e
          exact ⟨irr _, fun h => absurd h (by omega)⟩
        · obtain ⟨h4, h5⟩ := h3 j (by omega)
          refine ⟨?_, fun _ e2 => ?_⟩
          · cases h6 : lt (ks.getD j []) (ks.getD i []) with
            | false => rfl
            | true => rw [tr _ _ _ h6 h] at h4; cases h4
          · rw [e2, h] at h4; cases h4
      | false =>
        rw [if_neg (by rintro (h6 | h6); omega; cases h6)]
        refine ⟨m, rfl, by omega, fun j hj => ?_⟩
        by_cases e : j = i
        · subst e
          exact ⟨h, fun h => absurd h (by omega)⟩
        · exact h3 j (by omega)
set_option maxHeartbeats 8000000 in
set_option maxRecDepth 100000 in
theorem ends (W : World) (A : Option Addr) (c : Nat) (l : List Int) (hr : Li.RowAt W A l) (A1 : Option Addr) (c1 : Nat) (s : List (List UInt8)) (hs : Ls.RowAt W A1 s) :
    Calls Try.prog 3 #[.slice A l.length c, .slice A1 s.length c1] W fun e W' => e = .returned (.bool true) ∧ Below W.heap.size W W' := by
  have HR := Aside0.mk hr
  have HS := Aside0.mk hs
  clear hr hs
  by_cases h200 : 200 < l.length
  · have d1 : decide ((l.length : Int) > 200) = true := decide_eq_true (by omega)
    have d1n : decide (200 < l.length) = true := decide_eq_true h200
    clear h200
    go_enter Try.func3, Try.ntmps3
    go_wp2_with fail
    refine (awake W).mono ?_
    rintro ev w6 ⟨rfl, hb6⟩
    have HB6 := Aside0.mk hb6
    clear hb6
    go_wp2_with fail
    go_ret
    exact ⟨rfl, HB6.out⟩
  by_cases hs200 : 200 < s.length
  · have d1 : decide ((l.length : Int) > 200) = false := decide_eq_false (by omega)
    have d1n : decide (200 < l.length) = false := decide_eq_false h200
    have d2 : decide ((s.length : Int) > 200) = true := decide_eq_true (by omega)
    have d2n : decide (200 < s.length) = true := decide_eq_true hs200
    clear h200 hs200
    go_enter Try.func3, Try.ntmps3
    go_wp2_with fail
    refine (awake W).mono ?_
    rintro ev w6 ⟨rfl, hb6⟩
    have HB6 := Aside0.mk hb6
    clear hb6
    go_wp2_with fail
    go_ret
    exact ⟨rfl, HB6.out⟩
  have d1 : decide ((l.length : Int) > 200) = false := decide_eq_false (by omega)
  have d1n : decide (200 < l.length) = false := decide_eq_false h200
  have d2 : decide ((s.length : Int) > 200) = false := decide_eq_false (by omega)
  have d2n : decide (200 < s.length) = false := decide_eq_false hs200
  have HL := Aside0.mk (show l.length ≤ 200 by omega)
  have HSL := Aside0.mk (show s.length ≤ 200 by omega)
  clear h200 hs200
  have la := endI Li.lowF (fun a => decide_eq_false (Int.lt_irrefl a)) (fun a b c h1 h2 => decide_eq_true (Int.lt_trans (of_decide_eq_true h1) (of_decide_eq_true h2))) l l.length (Nat.le_refl _)
  have lb := endI Li.highF (fun a => decide_eq_false (Int.lt_irrefl a)) (fun a b c h1 h2 => decide_eq_true (Int.lt_trans (of_decide_eq_true h2) (of_decide_eq_true h1))) l l.length (Nat.le_refl _)
  have sa := endS Ls.lowF (fun a => decide_eq_false (List.lt_irrefl a)) (fun a b c h1 h2 => decide_eq_true (List.lt_trans (of_decide_eq_true h1) (of_decide_eq_true h2))) s s.length (Nat.le_refl _)
  have sb := endS Ls.highF (fun a => decide_eq_false (List.lt_irrefl a)) (fun a b c h1 h2 => decide_eq_true (List.lt_trans (of_decide_eq_true h2) (of_decide_eq_true h1))) s s.length (Nat.le_refl _)
  have LA := Aside0.mk la
  have LB := Aside0.mk lb
  have SA := Aside0.mk sa
  have SB := Aside0.mk sb
  clear la lb sa sb
  go_enter Try.func3, Try.ntmps3
  go_wp2_with fail
  refine (Li.low HR.out (by have := HL.out; omega)).mono ?_
  rintro ev w1 ⟨rfl, hw⟩
  rw [hw]
  clear hw w1 d1 d1n d2 d2n
  go_wp2_with fail
  refine (Li.high HR.out (by have := HL.out; omega)).mono ?_
  rintro ev w1 ⟨rfl, hw⟩
  rw [hw]
  clear hw w1
  by_cases h0 : l.length = 0
  · have a1 : Li.endAt Li.lowF l l.length = -1 := by
      rcases LA.out with ⟨_, h⟩ | ⟨m, _, hm, _⟩
      · exact h
      · omega
    have b1 : Li.endAt Li.highF l l.length = -1 := by
      rcases LB.out with ⟨_, h⟩ | ⟨m, _, hm, _⟩
      · exact h
      · omega
    rw [a1, b1, h0]
    clear a1 b1 h0
    go_wp2_with fail
    go_loopw [64] (fun v wr => v = .int .i64 0 ∧ wr = W) (fun v _ => 0)
    case atStart => exact ⟨rfl, rfl⟩
    case round =>
      obtain ⟨rfl, hwr⟩ := hrel
      rw [hwr]
      clear hwr
      go_wp2_with fail
      refine (Ls.low HS.out (by have := HSL.out; omega)).mono ?_
      rintro ev w1 ⟨rfl, hw⟩
      rw [hw]
      clear hw w1
      go_wp2_with fail
      refine (Ls.high HS.out (by have := HSL.out; omega)).mono ?_
      rintro ev w1 ⟨rfl, hw⟩
      rw [hw]
      clear hw w1
      by_cases h0 : s.length = 0
      · have a1 : Ls.endAt Ls.lowF s s.length = -1 := by
          rcases SA.out with ⟨_, h⟩ | ⟨m, _, hm, _⟩
          · exact h
          · omega
        have b1 : Ls.endAt Ls.highF s s.length = -1 := by
          rcases SB.out with ⟨_, h⟩ | ⟨m, _, hm, _⟩
          · exact h
          · omega
        rw [a1, b1, h0]
        clear a1 b1 h0
        go_wp2_with fail
        refine (awake W).mono ?_
        rintro ev w6 ⟨rfl, hb6⟩
        have HB6 := Aside0.mk hb6
        clear hb6
        go_wp2_with fail
        go_ret
        exact ⟨rfl, HB6.out⟩
      · obtain ⟨ma, a1, a2, a3⟩ : ∃ m : Nat, Ls.endAt Ls.lowF s s.length = (m : Int) ∧ m < s.length ∧ ∀ j, j < s.length → Ls.lowF (s.getD j []) (s.getD m []) = false ∧ (j < m → s.getD j [] ≠ s.getD m []) := by
          rcases SA.out with ⟨h, _⟩ | ⟨m, h1, h2, h3⟩
          · exact absurd h h0
          · exact ⟨m, h1, h2, h3⟩
        obtain ⟨mb, b1, b2, b3⟩ : ∃ m : Nat, Ls.endAt Ls.highF s s.length = (m : Int) ∧ m < s.length ∧ ∀ j, j < s.length → Ls.highF (s.getD j []) (s.getD m []) = false ∧ (j < m → s.getD j [] ≠ s.getD m []) := by
          rcases SB.out with ⟨h, _⟩ | ⟨m, h1, h2, h3⟩
          · exact absurd h h0
          · exact ⟨m, h1, h2, h3⟩
        have MAS := Aside0.mk (And.intro a2 a3)
        have MBS := Aside0.mk (And.intro b2 b3)
        rw [a1, b1]
        have g0 : ((s.length : Int) == 0) = false := beq_eq_false_iff_ne.2 (by omega)
        have g0d : decide ((s.length : Int) = 0) = false := decide_eq_false (by omega)
        have g0n : decide (s.length = 0) = false := decide_eq_false h0
        have g1 : decide ((ma : Int) < 0) = false := decide_eq_false (by omega)
        have g2 : decide ((mb : Int) < 0) = false := decide_eq_false (by omega)
        have g3 : decide ((ma : Int) ≥ (s.length : Int)) = false := decide_eq_false (by omega)
        have g3n : decide (s.length ≤ ma) = false := decide_eq_false (by omega)
        have g4 : decide ((mb : Int) ≥ (s.length : Int)) = false := decide_eq_false (by omega)
        have g4n : decide (s.length ≤ mb) = false := decide_eq_false (by omega)
        clear a1 a2 a3 b1 b2 b3 h0
        go_wp2_with fail
        clear g0 g0d g0n g1 g2 g3 g3n g4 g4n
        go_loopw [146] (fun v wr => ∃ (i : Nat), i ≤ s.length ∧ v = .int .i64 (i : Int) ∧ wr = W) (fun v _ => s.length - (intOf v).toNat)
        case atStart => exact ⟨0, Nat.zero_le _, rfl, rfl⟩
        case round =>
          obtain ⟨i, hi, rfl, hwr⟩ := hrel
          rw [hwr]
          clear hwr
          by_cases hlt : i < s.length
          · have hlt2 : (i : Int) < (s.length : Int) := by omega
            have HLT := Aside0.mk hlt
            have hw2 : wrap64 ((i : Int) + 1) = ((i + 1 : Nat) : Int) := by rw [show (i : Int) + 1 = ((i + 1 : Nat) : Int) by omega]; exact Li.wrapS _ (by omega) (by have := HSL.out; omega)
            obtain ⟨ad, rfl, hx⟩ := HS.out i hlt
            have hxa := HS.out ma MAS.out.1
            have hxb := HS.out mb MBS.out.1
            obtain ⟨ad2, e2, hya⟩ := hxa
            cases e2
            obtain ⟨ad3, e3, hyb⟩ := hxb
            cases e3
            have fa := MAS.out.2 i hlt
            have fb := MBS.out.2 i hlt
            have hma : (ma : Int) < (s.length : Int) := by have := MAS.out.1; omega
            have hmb : (mb : Int) < (s.length : Int) := by have := MBS.out.1; omega
            have ga := getD_at s [] ma MAS.out.1
            have gb := getD_at s [] mb MBS.out.1
            have gx := getD_at s [] i hlt
            rw [ga, gx] at fa
            rw [gb, gx] at fb
            obtain ⟨x, hx_⟩ : ∃ x, s[i] = x := ⟨_, rfl⟩
            obtain ⟨xa, hxa_⟩ : ∃ x, s[ma]'(MAS.out.1) = x := ⟨_, rfl⟩
            obtain ⟨xb, hxb_⟩ : ∃ x, s[mb]'(MBS.out.1) = x := ⟨_, rfl⟩
            rw [hx_] at hx fa fb
            rw [hxa_] at hya fa
            rw [hxb_] at hyb fb
            have FA : Aside0 (¬ x < xa ∧ (x = xa → ¬ i < ma)) := ⟨⟨of_decide_eq_false fa.1, fun e h => fa.2 h e⟩⟩
            have FB : Aside0 (¬ xb < x ∧ (x = xb → ¬ i < mb)) := ⟨⟨of_decide_eq_false fb.1, fun e h => fb.2 h e⟩⟩
            clear fa fb ga gb gx hx_ hxa_ hxb_ hlt hi
            have p1 : Op.bytesLess x xa = false := by rw [bytesLess_eq]; exact decide_eq_false FA.out.1
            by_cases hxa : x = xa
            · by_cases hxb : x = xb
              · have p2 : (x == xa) = true := beq_iff_eq.2 hxa
                have p2d : decide (x = xa) = true := decide_eq_true hxa
                have p3 : decide ((i : Int) < (ma : Int)) = false := decide_eq_false (by have := FA.out.2 hxa; omega)
                have p3n : decide (i < ma) = false := decide_eq_false (FA.out.2 hxa)
                have q1 : Op.bytesLess x xb = false := by rw [bytesLess_eq, hxb]; exact decide_eq_false (List.lt_irrefl _)
                have q2 : (x == xb) = true := beq_iff_eq.2 hxb
                have q2d : decide (x = xb) = true := decide_eq_true hxb
                have q3 : decide ((i : Int) < (mb : Int)) = false := decide_eq_false (by have := FB.out.2 hxb; omega)
                have q3n : decide (i < mb) = false := decide_eq_false (FB.out.2 hxb)
                clear hxa hxb
                go_wp2_with fail
                go_roundw
                case measure =>
                  have hm : s.length - ((i + 1 : Nat) : Int).toNat < s.length - ((i : Nat) : Int).toNat := by
                    rw [Int.toNat_natCast, Int.toNat_natCast]
                    exact Nat.sub_lt_sub_left HLT.out (Nat.lt_succ_self i)
                  first | exact hm | (rw [hw2]; exact hm)
                case rel => exact ⟨i + 1, HLT.out, by first | rw [hw2] | rfl, by first | rfl | trivial⟩
              · have p2 : (x == xa) = true := beq_iff_eq.2 hxa
                have p2d : decide (x = xa) = true := decide_eq_true hxa
                have p3 : decide ((i : Int) < (ma : Int)) = false := decide_eq_false (by have := FA.out.2 hxa; omega)
                have p3n : decide (i < ma) = false := decide_eq_false (FA.out.2 hxa)
                have q1 : Op.bytesLess x xb = true := by rw [bytesLess_eq]; exact decide_eq_true (List.not_le.1 (fun h5 => hxb (List.le_antisymm (List.not_lt.1 FB.out.1) h5)))
                have q2 : (x == xb) = false := beq_eq_false_iff_ne.2 hxb
                have q2d : decide (x = xb) = false := decide_eq_false hxb
                clear hxa hxb
                go_wp2_with fail
                go_roundw
                case measure =>
                  have hm : s.length - ((i + 1 : Nat) : Int).toNat < s.length - ((i : Nat) : Int).toNat := by
                    rw [Int.toNat_natCast, Int.toNat_natCast]
                    exact Nat.sub_lt_sub_left HLT.out (Nat.lt_succ_self i)
                  first | exact hm | (rw [hw2]; exact hm)
                case rel => exact ⟨i + 1, HLT.out, by first | rw [hw2] | rfl, by first | rfl | trivial⟩
            · by_cases hxb : x = xb
              · have p2 : (x == xa) = false := beq_eq_false_iff_ne.2 hxa
                have p2d : decide (x = xa) = false := decide_eq_false hxa
                have q1 : Op.bytesLess x xb = false := by rw [bytesLess_eq, hxb]; exact decide_eq_false (List.lt_irrefl _)
                have q2 : (x == xb) = true := beq_iff_eq.2 hxb
                have q2d : decide (x = xb) = true := decide_eq_true hxb
                have q3 : decide ((i : Int) < (mb : Int)) = false := decide_eq_false (by have := FB.out.2 hxb; omega)
                have q3n : decide (i < mb) = false := decide_eq_false (FB.out.2 hxb)
                clear hxa hxb
                go_wp2_with fail
                go_roundw
                case measure =>
                  have hm : s.length - ((i + 1 : Nat) : Int).toNat < s.length - ((i : Nat) : Int).toNat := by
                    rw [Int.toNat_natCast, Int.toNat_natCast]
                    exact Nat.sub_lt_sub_left HLT.out (Nat.lt_succ_self i)
                  first | exact hm | (rw [hw2]; exact hm)
                case rel => exact ⟨i + 1, HLT.out, by first | rw [hw2] | rfl, by first | rfl | trivial⟩
              · have p2 : (x == xa) = false := beq_eq_false_iff_ne.2 hxa
                have p2d : decide (x = xa) = false := decide_eq_false hxa
                have q1 : Op.bytesLess x xb = true := by rw [bytesLess_eq]; exact decide_eq_true (List.not_le.1 (fun h5 => hxb (List.le_antisymm (List.not_lt.1 FB.out.1) h5)))
                have q2 : (x == xb) = false := beq_eq_false_iff_ne.2 hxb
                have q2d : decide (x = xb) = false := decide_eq_false hxb
                clear hxa hxb
                go_wp2_with fail
                go_roundw
                case measure =>
                  have hm : s.length - ((i + 1 : Nat) : Int).toNat < s.length - ((i : Nat) : Int).toNat := by
                    rw [Int.toNat_natCast, Int.toNat_natCast]
                    exact Nat.sub_lt_sub_left HLT.out (Nat.lt_succ_self i)
                  first | exact hm | (rw [hw2]; exact hm)
                case rel => exact ⟨i + 1, HLT.out, by first | rw [hw2] | rfl, by first | rfl | trivial⟩
          · have he : i = s.length := by omega
            subst he
            have hnn : ¬ (((s.length : Nat) : Int) < (s.length : Int)) := by omega
            clear hlt hi
            go_wp2_with fail
            refine (awake W).mono ?_
            rintro ev w6 ⟨rfl, hb6⟩
            have HB6 := Aside0.mk hb6
            clear hb6
            go_wp2_with fail
            go_ret
            exact ⟨rfl, HB6.out⟩
  · obtain ⟨ma, a1, a2, a3⟩ : ∃ m : Nat, Li.endAt Li.lowF l l.length = (m : Int) ∧ m < l.length ∧ ∀ j, j < l.length → Li.lowF (l.getD j 0) (l.getD m 0) = false ∧ (j < m → l.getD j 0 ≠ l.getD m 0) := by
      rcases LA.out with ⟨h, _⟩ | ⟨m, h1, h2, h3⟩
      · exact absurd h h0
      · exact ⟨m, h1, h2, h3⟩
    obtain ⟨mb, b1, b2, b3⟩ : ∃ m : Nat, Li.endAt Li.highF l l.length = (m : Int) ∧ m < l.length ∧ ∀ j, j < l.length → Li.highF (l.getD j 0) (l.getD m 0) = false ∧ (j < m → l.getD j 0 ≠ l.getD m 0) := by
      rcases LB.out with ⟨h, _⟩ | ⟨m, h1, h2, h3⟩
      · exact absurd h h0
      · exact ⟨m, h1, h2, h3⟩
    have MAI := Aside0.mk (And.intro a2 a3)
    have MBI := Aside0.mk (And.intro b2 b3)
    rw [a1, b1]
    have g0 : ((l.length : Int) == 0) = false := beq_eq_false_iff_ne.2 (by omega)
    have g0d : decide ((l.length : Int) = 0) = false := decide_eq_false (by omega)
    have g0n : decide (l.length = 0) = false := decide_eq_false h0
    have g0g : decide ((l.length : Int) > 0) = true := decide_eq_true (by omega)
    have g0h : decide (0 < l.length) = true := decide_eq_true (by omega)
    have g1 : decide ((ma : Int) < 0) = false := decide_eq_false (by omega)
    have g2 : decide ((mb : Int) < 0) = false := decide_eq_false (by omega)
    have g3 : decide ((ma : Int) ≥ (l.length : Int)) = false := decide_eq_false (by omega)
    have g3n : decide (l.length ≤ ma) = false := decide_eq_false (by omega)
    have g4 : decide ((mb : Int) ≥ (l.length : Int)) = false := decide_eq_false (by omega)
    have g4n : decide (l.length ≤ mb) = false := decide_eq_false (by omega)
    clear a1 a2 a3 b1 b2 b3 h0
    go_wp2_with fail
    clear g0 g0d g0n g0g g0h g1 g2 g3 g3n g4 g4n
    go_loopw [64] (fun v wr => ∃ (i : Nat), i ≤ l.length ∧ v = .int .i64 (i : Int) ∧ wr = W) (fun v _ => l.length - (intOf v).toNat)
    case atStart => exact ⟨0, Nat.zero_le _, rfl, rfl⟩
    case round =>
      obtain ⟨i, hi, rfl, hwr⟩ := hrel
      rw [hwr]
      clear hwr
      by_cases hlt : i < l.length
      · have hlt2 : (i : Int) < (l.length : Int) := by omega
        have HLT := Aside0.mk hlt
        have hw2 : wrap64 ((i : Int) + 1) = ((i + 1 : Nat) : Int) := by rw [show (i : Int) + 1 = ((i + 1 : Nat) : Int) by omega]; exact Li.wrapS _ (by omega) (by have := HL.out; omega)
        obtain ⟨ad, rfl, hx⟩ := HR.out i hlt
        have hxa := HR.out ma MAI.out.1
        have hxb := HR.out mb MBI.out.1
        obtain ⟨ad2, e2, hya⟩ := hxa
        cases e2
        obtain ⟨ad3, e3, hyb⟩ := hxb
        cases e3
        have fa := MAI.out.2 i hlt
        have fb := MBI.out.2 i hlt
        have hma : (ma : Int) < (l.length : Int) := by have := MAI.out.1; omega
        have hmb : (mb : Int) < (l.length : Int) := by have := MBI.out.1; omega
        have ga := getD_at l 0 ma MAI.out.1
        have gb := getD_at l 0 mb MBI.out.1
        have gx := getD_at l 0 i hlt
        rw [ga, gx] at fa
        rw [gb, gx] at fb
        obtain ⟨x, hx_⟩ : ∃ x, l[i] = x := ⟨_, rfl⟩
        obtain ⟨xa, hxa_⟩ : ∃ x, l[ma]'(MAI.out.1) = x := ⟨_, rfl⟩
        obtain ⟨xb, hxb_⟩ : ∃ x, l[mb]'(MBI.out.1) = x := ⟨_, rfl⟩
        rw [hx_] at hx fa fb
        rw [hxa_] at hya fa
        rw [hxb_] at hyb fb
        have FA : Aside0 (¬ x < xa ∧ (x = xa → ¬ i < ma)) := ⟨⟨of_decide_eq_false fa.1, fun e h => fa.2 h e⟩⟩
        have FB : Aside0 (¬ xb < x ∧ (x = xb → ¬ i < mb)) := ⟨⟨of_decide_eq_false fb.1, fun e h => fb.2 h e⟩⟩
        clear fa fb ga gb gx hx_ hxa_ hxb_ hlt hi
        have p1 : decide (x < xa) = false := decide_eq_false FA.out.1
        have q1 : decide (x > xb) = false := decide_eq_false FB.out.1
        have q1n : decide (xb < x) = false := decide_eq_false FB.out.1
        by_cases hxa : x = xa
        · by_cases hxb : x = xb
          · have p2 : (x == xa) = true := beq_iff_eq.2 hxa
            have p2d : decide (x = xa) = true := decide_eq_true hxa
            have p3 : decide ((i : Int) < (ma : Int)) = false := decide_eq_false (by have := FA.out.2 hxa; omega)
            have p3n : decide (i < ma) = false := decide_eq_false (FA.out.2 hxa)
            have q2 : (x == xb) = true := beq_iff_eq.2 hxb
            have q2d : decide (x = xb) = true := decide_eq_true hxb
            have q3 : decide ((i : Int) < (mb : Int)) = false := decide_eq_false (by have := FB.out.2 hxb; omega)
            have q3n : decide (i < mb) = false := decide_eq_false (FB.out.2 hxb)
            clear hxa hxb
            go_wp2_with fail
            go_roundw
            case measure =>
              have hm : l.length - ((i + 1 : Nat) : Int).toNat < l.length - ((i : Nat) : Int).toNat := by
                rw [Int.toNat_natCast, Int.toNat_natCast]
                exact Nat.sub_lt_sub_left HLT.out (Nat.lt_succ_self i)
              first | exact hm | (rw [hw2]; exact hm)
            case rel => exact ⟨i + 1, HLT.out, by first | rw [hw2] | rfl, by first | rfl | trivial⟩
          · have p2 : (x == xa) = true := beq_iff_eq.2 hxa
            have p2d : decide (x = xa) = true := decide_eq_true hxa
            have p3 : decide ((i : Int) < (ma : Int)) = false := decide_eq_false (by have := FA.out.2 hxa; omega)
            have p3n : decide (i < ma) = false := decide_eq_false (FA.out.2 hxa)
            have q2 : (x == xb) = false := beq_eq_false_iff_ne.2 hxb
            have q2d : decide (x = xb) = false := decide_eq_false hxb
            clear hxa hxb
            go_wp2_with fail
            go_roundw
            case measure =>
              have hm : l.length - ((i + 1 : Nat) : Int).toNat < l.length - ((i : Nat) : Int).toNat := by
                rw [Int.toNat_natCast, Int.toNat_natCast]
                exact Nat.sub_lt_sub_left HLT.out (Nat.lt_succ_self i)
              first | exact hm | (rw [hw2]; exact hm)
            case rel => exact ⟨i + 1, HLT.out, by first | rw [hw2] | rfl, by first | rfl | trivial⟩
        · by_cases hxb : x = xb
          · have p2 : (x == xa) = false := beq_eq_false_iff_ne.2 hxa
            have p2d : decide (x = xa) = false := decide_eq_false hxa
            have q2 : (x == xb) = true := beq_iff_eq.2 hxb
            have q2d : decide (x = xb) = true := decide_eq_true hxb
            have q3 : decide ((i : Int) < (mb : Int)) = false := decide_eq_false (by have := FB.out.2 hxb; omega)
            have q3n : decide (i < mb) = false := decide_eq_false (FB.out.2 hxb)
            clear hxa hxb
            go_wp2_with fail
            go_roundw
            case measure =>
              have hm : l.length - ((i + 1 : Nat) : Int).toNat < l.length - ((i : Nat) : Int).toNat := by
                rw [Int.toNat_natCast, Int.toNat_natCast]
                exact Nat.sub_lt_sub_left HLT.out (Nat.lt_succ_self i)
              first | exact hm | (rw [hw2]; exact hm)
            case rel => exact ⟨i + 1, HLT.out, by first | rw [hw2] | rfl, by first | rfl | trivial⟩
          · have p2 : (x == xa) = false := beq_eq_false_iff_ne.2 hxa
            have p2d : decide (x = xa) = false := decide_eq_false hxa
            have q2 : (x == xb) = false := beq_eq_false_iff_ne.2 hxb
            have q2d : decide (x = xb) = false := decide_eq_false hxb
            clear hxa hxb
            go_wp2_with fail
            go_roundw
            case measure =>
              have hm : l.length - ((i + 1 : Nat) : Int).toNat < l.length - ((i : Nat) : Int).toNat := by
                rw [Int.toNat_natCast, Int.toNat_natCast]
                exact Nat.sub_lt_sub_left HLT.out (Nat.lt_succ_self i)
              first | exact hm | (rw [hw2]; exact hm)
            case rel => exact ⟨i + 1, HLT.out, by first | rw [hw2] | rfl, by first | rfl | trivial⟩
      · have he : i = l.length := by omega
        subst he
        have hnn : ¬ (((l.length : Nat) : Int) < (l.length : Int)) := by omega
        clear hlt hi
        go_wp2_with fail
        refine (Ls.low HS.out (by have := HSL.out; omega)).mono ?_
        rintro ev w1 ⟨rfl, hw⟩
        rw [hw]
        clear hw w1
        go_wp2_with fail
        refine (Ls.high HS.out (by have := HSL.out; omega)).mono ?_
        rintro ev w1 ⟨rfl, hw⟩
        rw [hw]
        clear hw w1
        by_cases h0 : s.length = 0
        · have a1 : Ls.endAt Ls.lowF s s.length = -1 := by
            rcases SA.out with ⟨_, h⟩ | ⟨m, _, hm, _⟩
            · exact h
            · omega
          have b1 : Ls.endAt Ls.highF s s.length = -1 := by
            rcases SB.out with ⟨_, h⟩ | ⟨m, _, hm, _⟩
            · exact h
            · omega
          rw [a1, b1, h0]
          clear a1 b1 h0
          go_wp2_with fail
          refine (awake W).mono ?_
          rintro ev w6 ⟨rfl, hb6⟩
          have HB6 := Aside0.mk hb6
          clear hb6
          go_wp2_with fail
          go_ret
          exact ⟨rfl, HB6.out⟩
        · obtain ⟨ma, a1, a2, a3⟩ : ∃ m : Nat, Ls.endAt Ls.lowF s s.length = (m : Int) ∧ m < s.length ∧ ∀ j, j < s.length → Ls.lowF (s.getD j []) (s.getD m []) = false ∧ (j < m → s.getD j [] ≠ s.getD m []) := by
            rcases SA.out with ⟨h, _⟩ | ⟨m, h1, h2, h3⟩
            · exact absurd h h0
            · exact ⟨m, h1, h2, h3⟩
          obtain ⟨mb, b1, b2, b3⟩ : ∃ m : Nat, Ls.endAt Ls.highF s s.length = (m : Int) ∧ m < s.length ∧ ∀ j, j < s.length → Ls.highF (s.getD j []) (s.getD m []) = false ∧ (j < m → s.getD j [] ≠ s.getD m []) := by
            rcases SB.out with ⟨h, _⟩ | ⟨m, h1, h2, h3⟩
            · exact absurd h h0
            · exact ⟨m, h1, h2, h3⟩
          have MAS := Aside0.mk (And.intro a2 a3)
          have MBS := Aside0.mk (And.intro b2 b3)
          rw [a1, b1]
          have g0 : ((s.length : Int) == 0) = false := beq_eq_false_iff_ne.2 (by omega)
          have g0d : decide ((s.length : Int) = 0) = false := decide_eq_false (by omega)
          have g0n : decide (s.length = 0) = false := decide_eq_false h0
          have g1 : decide ((ma : Int) < 0) = false := decide_eq_false (by omega)
          have g2 : decide ((mb : Int) < 0) = false := decide_eq_false (by omega)
          have g3 : decide ((ma : Int) ≥ (s.length : Int)) = false := decide_eq_false (by omega)
          have g3n : decide (s.length ≤ ma) = false := decide_eq_false (by omega)
          have g4 : decide ((mb : Int) ≥ (s.length : Int)) = false := decide_eq_false (by omega)
          have g4n : decide (s.length ≤ mb) = false := decide_eq_false (by omega)
          clear a1 a2 a3 b1 b2 b3 h0
          go_wp2_with fail
          clear g0 g0d g0n g1 g2 g3 g3n g4 g4n
          go_loopw [146] (fun v wr => ∃ (i : Nat), i ≤ s.length ∧ v = .int .i64 (i : Int) ∧ wr = W) (fun v _ => s.length - (intOf v).toNat)
          case atStart => exact ⟨0, Nat.zero_le _, rfl, rfl⟩
          case round =>
            obtain ⟨i, hi, rfl, hwr⟩ := hrel
            rw [hwr]
            clear hwr
            by_cases hlt : i < s.length
            · have hlt2 : (i : Int) < (s.length : Int) := by omega
              have HLT := Aside0.mk hlt
              have hw2 : wrap64 ((i : Int) + 1) = ((i + 1 : Nat) : Int) := by rw [show (i : Int) + 1 = ((i + 1 : Nat) : Int) by omega]; exact Li.wrapS _ (by omega) (by have := HSL.out; omega)
              obtain ⟨ad, rfl, hx⟩ := HS.out i hlt
              have hxa := HS.out ma MAS.out.1
              have hxb := HS.out mb MBS.out.1
              obtain ⟨ad2, e2, hya⟩ := hxa
              cases e2
              obtain ⟨ad3, e3, hyb⟩ := hxb
              cases e3
              have fa := MAS.out.2 i hlt
              have fb := MBS.out.2 i hlt
              have hma : (ma : Int) < (s.length : Int) := by have := MAS.out.1; omega
              have hmb : (mb : Int) < (s.length : Int) := by have := MBS.out.1; omega
              have ga := getD_at s [] ma MAS.out.1
              have gb := getD_at s [] mb MBS.out.1
              have gx := getD_at s [] i hlt
              rw [ga, gx] at fa
              rw [gb, gx] at fb
              obtain ⟨x, hx_⟩ : ∃ x, s[i] = x := ⟨_, rfl⟩
              obtain ⟨xa, hxa_⟩ : ∃ x, s[ma]'(MAS.out.1) = x := ⟨_, rfl⟩
              obtain ⟨xb, hxb_⟩ : ∃ x, s[mb]'(MBS.out.1) = x := ⟨_, rfl⟩
              rw [hx_] at hx fa fb
              rw [hxa_] at hya fa
              rw [hxb_] at hyb fb
              have FA : Aside0 (¬ x < xa ∧ (x = xa → ¬ i < ma)) := ⟨⟨of_decide_eq_false fa.1, fun e h => fa.2 h e⟩⟩
              have FB : Aside0 (¬ xb < x ∧ (x = xb → ¬ i < mb)) := ⟨⟨of_decide_eq_false fb.1, fun e h => fb.2 h e⟩⟩
              clear fa fb ga gb gx hx_ hxa_ hxb_ hlt hi
              have p1 : Op.bytesLess x xa = false := by rw [bytesLess_eq]; exact decide_eq_false FA.out.1
              by_cases hxa : x = xa
              · by_cases hxb : x = xb
                · have p2 : (x == xa) = true := beq_iff_eq.2 hxa
                  have p2d : decide (x = xa) = true := decide_eq_true hxa
                  have p3 : decide ((i : Int) < (ma : Int)) = false := decide_eq_false (by have := FA.out.2 hxa; omega)
                  have p3n : decide (i < ma) = false := decide_eq_false (FA.out.2 hxa)
                  have q1 : Op.bytesLess x xb = false := by rw [bytesLess_eq, hxb]; exact decide_eq_false (List.lt_irrefl _)
                  have q2 : (x == xb) = true := beq_iff_eq.2 hxb
                  have q2d : decide (x = xb) = true := decide_eq_true hxb
                  have q3 : decide ((i : Int) < (mb : Int)) = false := decide_eq_false (by have := FB.out.2 hxb; omega)
                  have q3n : decide (i < mb) = false := decide_eq_false (FB.out.2 hxb)
                  clear hxa hxb
                  go_wp2_with fail
                  go_roundw
                  case measure =>
                    have hm : s.length - ((i + 1 : Nat) : Int).toNat < s.length - ((i : Nat) : Int).toNat := by
                      rw [Int.toNat_natCast, Int.toNat_natCast]
                      exact Nat.sub_lt_sub_left HLT.out (Nat.lt_succ_self i)
                    first | exact hm | (rw [hw2]; exact hm)
                  case rel => exact ⟨i + 1, HLT.out, by first | rw [hw2] | rfl, by first | rfl | trivial⟩
                · have p2 : (x == xa) = true := beq_iff_eq.2 hxa
                  have p2d : decide (x = xa) = true := decide_eq_true hxa
                  have p3 : decide ((i : Int) < (ma : Int)) = false := decide_eq_false (by have := FA.out.2 hxa; omega)
                  have p3n : decide (i < ma) = false := decide_eq_false (FA.out.2 hxa)
                  have q1 : Op.bytesLess x xb = true := by rw [bytesLess_eq]; exact decide_eq_true (List.not_le.1 (fun h5 => hxb (List.le_antisymm (List.not_lt.1 FB.out.1) h5)))
                  have q2 : (x == xb) = false := beq_eq_false_iff_ne.2 hxb
                  have q2d : decide (x = xb) = false := decide_eq_false hxb
                  clear hxa hxb
                  go_wp2_with fail
                  go_roundw
                  case measure =>
                    have hm : s.length - ((i + 1 : Nat) : Int).toNat < s.length - ((i : Nat) : Int).toNat := by
                      rw [Int.toNat_natCast, Int.toNat_natCast]
                      exact Nat.sub_lt_sub_left HLT.out (Nat.lt_succ_self i)
                    first | exact hm | (rw [hw2]; exact hm)
                  case rel => exact ⟨i + 1, HLT.out, by first | rw [hw2] | rfl, by first | rfl | trivial⟩
              · by_cases hxb : x = xb
                · have p2 : (x == xa) = false := beq_eq_false_iff_ne.2 hxa
                  have p2d : decide (x = xa) = false := decide_eq_false hxa
                  have q1 : Op.bytesLess x xb = false := by rw [bytesLess_eq, hxb]; exact decide_eq_false (List.lt_irrefl _)
                  have q2 : (x == xb) = true := beq_iff_eq.2 hxb
                  have q2d : decide (x = xb) = true := decide_eq_true hxb
                  have q3 : decide ((i : Int) < (mb : Int)) = false := decide_eq_false (by have := FB.out.2 hxb; omega)
                  have q3n : decide (i < mb) = false := decide_eq_false (FB.out.2 hxb)
                  clear hxa hxb
                  go_wp2_with fail
                  go_roundw
                  case measure =>
                    have hm : s.length - ((i + 1 : Nat) : Int).toNat < s.length - ((i : Nat) : Int).toNat := by
                      rw [Int.toNat_natCast, Int.toNat_natCast]
                      exact Nat.sub_lt_sub_left HLT.out (Nat.lt_succ_self i)
                    first | exact hm | (rw [hw2]; exact hm)
                  case rel => exact ⟨i + 1, HLT.out, by first | rw [hw2] | rfl, by first | rfl | trivial⟩
                · have p2 : (x == xa) = false := beq_eq_false_iff_ne.2 hxa
                  have p2d : decide (x = xa) = false := decide_eq_false hxa
                  have q1 : Op.bytesLess x xb = true := by rw [bytesLess_eq]; exact decide_eq_true (List.not_le.1 (fun h5 => hxb (List.le_antisymm (List.not_lt.1 FB.out.1) h5)))
                  have q2 : (x == xb) = false := beq_eq_false_iff_ne.2 hxb
                  have q2d : decide (x = xb) = false := decide_eq_false hxb
                  clear hxa hxb
                  go_wp2_with fail
                  go_roundw
                  case measure =>
                    have hm : s.length - ((i + 1 : Nat) : Int).toNat < s.length - ((i : Nat) : Int).toNat := by
                      rw [Int.toNat_natCast, Int.toNat_natCast]
                      exact Nat.sub_lt_sub_left HLT.out (Nat.lt_succ_self i)
                    first | exact hm | (rw [hw2]; exact hm)
                  case rel => exact ⟨i + 1, HLT.out, by first | rw [hw2] | rfl, by first | rfl | trivial⟩
            · have he : i = s.length := by omega
              subst he
              have hnn : ¬ (((s.length : Nat) : Int) < (s.length : Int)) := by omega
              clear hlt hi
              go_wp2_with fail
              refine (awake W).mono ?_
              rintro ev w6 ⟨rfl, hb6⟩
              have HB6 := Aside0.mk hb6
              clear hb6
              go_wp2_with fail
              go_ret
              exact ⟨rfl, HB6.out⟩
theorem endsFinal (W : World) (A0 : Option Addr) (c0 : Nat) (l0 : List Int) (hc0 : l0.length ≤ c0) (hr0 : Kd.C (Kd.int .i64) W A0 l0.length l0) (hm0 : l0.length ≤ maxLen) (hok0 : ∀ x ∈ l0, (Lit.int .i64 x).wf = true) (A1 : Option Addr) (c1 : Nat) (l1 : List ByteArray) (hc1 : l1.length ≤ c1) (hr1 : Kd.C Kd.string W A1 l1.length l1) (hm1 : l1.length ≤ maxLen) (hok1 : ∀ x ∈ l1, x.size ≤ maxLen) :
    Calls Try.prog 3 #[.slice A0 l0.length c0, .slice A1 l1.length c1] W fun e W' => e = .returned (.bool true) ∧ Below W.heap.size W W' := by
  have h := ends W A0 c0 l0 (rowI hr0) A1 c1 (l1.map ofB) (rowS hr1)
  rwa [List.length_map] at h
end Go.Proofs.Ythnicdafglohbaa.Lw
