import Derived.Test.YtmoefknefopdlaaG2
import Derived.Test.YtmoefknefopdlaaG3
set_option linter.unusedVariables false
set_option linter.unusedSimpArgs false
/-! Numbers as bytes, in plain words: what is written. -/
namespace Go.Proofs.Ytmoefknefopdlaa.Pl1
open Go.RowKit Go.Proofs.YtmoefknefopdlaaW.PrintWords Go.Proofs.YtmoefknefopdlaaW.PrintLast Go.Proofs.YtmoefknefopdlaaW.PrintMore Go.Proofs.Ytmoefknefopdlaa.PAll

theorem w64 {n : Int} (h : -9223372036854775808 ≤ n) (h' : n ≤ 9223372036854775807) : wrap64 n = n := by unfold wrap64; omega
theorem rd_nat (v : List Int) (i : Nat) : rd v (i : Int) = v.getD i 0 := by simp [rd]
theorem wraps_i64 (n : Int) (h₀ : 0 ≤ n) (h₁ : n < 2 ^ 62) : IntKind.i64.wrap n = n := by rw [IntKind.wrap_i64]; omega
theorem and127 (x : Int) (h0 : 0 ≤ x) (h1 : x < 2 ^ 62) : Go.bits .and .i64 x 127 = x % 128 := bits_mask .i64 62 (by decide) wraps_i64 7 (by decide) x h0 h1
theorem or_low (x y : Int) (h0 : 0 ≤ x) (h1 : x < 2 ^ 50) (h2 : 0 ≤ y) (h3 : y < 128) : Go.bits .or .i64 (x * 128) y = x * 128 + y :=
  bits_join .i64 62 (by decide) wraps_i64 7 (x * 128) y (by omega) (by omega) (by omega) h2 (by omega) (by omega)
theorem or128 (y : Int) (h2 : 0 ≤ y) (h3 : y < 128) : Go.bits .or .u8 y 128 = y + 128 := by
  obtain ⟨a, rfl⟩ := Int.eq_ofNat_of_zero_le h2
  have h := (bits_nat .u8 8 (by decide) wraps_u8 a 128 (by omega) (by omega)).2
  have e : Go.bits .or .u8 (a : Int) 128 = ((a ||| 128 : Nat) : Int) := h
  rw [e]
  have : ∀ a : Fin 128, (a.val ||| 128) = a.val + 128 := by decide
  have := this ⟨a, by omega⟩
  simp only at this
  omega

/-! ### slices.Reverse -/
theorem rev_loop : ∀ (n : Nat) (A mid B : List Int), mid.length ≤ n → A.length + mid.length + B.length ≤ 1000000 →
    Ev (fun k => slices_Reverse_byte_byte.l0 k (A ++ mid ++ B) (A.length : Int) ((A.length : Int) + mid.length - 1)) (A ++ mid.reverse ++ B)
  | 0, A, mid, B, hn, hl => by
    have : mid = [] := List.length_eq_zero_iff.1 (by omega)
    subst this
    refine Ev.step (f := fun _ => some (A ++ [] ++ B)) (fun k => ?_) (Ev.now _)
    simp only [slices_Reverse_byte_byte.l0]
    rw [if_neg (by simp; omega)]
  | n + 1, A, [], B, hn, hl => by
    refine Ev.step (f := fun _ => some (A ++ [] ++ B)) (fun k => ?_) (Ev.now _)
    simp only [slices_Reverse_byte_byte.l0]
    rw [if_neg (by simp; omega)]
  | n + 1, A, x :: rest, B, hn, hl => by
    rcases List.eq_nil_or_concat rest with h | ⟨m, y, h⟩
    · subst h
      refine Ev.step (f := fun _ => some (A ++ [x] ++ B)) (fun k => ?_) (Ev.now _)
      simp only [slices_Reverse_byte_byte.l0]
      rw [if_neg (by simp)]
    · have h' : rest = m ++ [y] := by rw [h]; simp
      clear h
      subst h'
      have hml : (x :: (m ++ [y])).length = m.length + 2 := by simp
      have ih := rev_loop n (A ++ [y]) m (x :: B) (by omega) (by simp at *; omega)
      have e1 : ((A ++ [y]).length : Int) = (A.length : Int) + 1 := by simp
      have hlast : (A.length : Int) + ((x :: (m ++ [y])).length : Int) - 1 = ((A.length + m.length + 1 : Nat) : Int) := by rw [hml]; omega
      have hd : A ++ x :: (m ++ [y]) ++ B = A ++ (x :: (m ++ (y :: B))) := by simp
      have g1 : rd (A ++ (x :: (m ++ (y :: B)))) (A.length : Int) = x := by rw [rd_nat]; simp
      have g2 : rd (A ++ (x :: (m ++ (y :: B)))) ((A.length + m.length + 1 : Nat) : Int) = y := by
        rw [rd_nat, List.getD_eq_getElem?_getD, List.getElem?_append_right (by omega), show A.length + m.length + 1 - A.length = m.length + 1 by omega, List.getElem?_cons_succ, List.getElem?_append_right (by omega), Nat.sub_self]
        rfl
      have s1 : (A ++ (x :: (m ++ (y :: B)))).set A.length y = A ++ (y :: (m ++ (y :: B))) := by rw [List.set_append_right _ _ (Nat.le_refl _), Nat.sub_self]; rfl
      have s2 : (A ++ (y :: (m ++ (y :: B)))).set (A.length + m.length + 1) x = A ++ (y :: (m ++ (x :: B))) := by
        rw [List.set_append_right _ _ (by omega), show A.length + m.length + 1 - A.length = m.length + 1 by omega, List.set_cons_succ, List.set_append_right _ _ (by omega), Nat.sub_self]
        rfl
      have hln : (A ++ (x :: (m ++ (y :: B)))).length = A.length + m.length + B.length + 2 := by simp; omega
      have res : A ++ (x :: (m ++ [y])).reverse ++ B = A ++ [y] ++ m.reverse ++ (x :: B) := by simp
      rw [res]
      refine Ev.step (fun k => ?_) ih
      simp only [slices_Reverse_byte_byte.l0]
      rw [hlast, hd, if_pos (by omega), if_pos (by omega), if_pos (by omega), if_pos (by omega), if_pos (by omega), g1, g2, Int.toNat_natCast, Int.toNat_natCast, s1, s2, w64 (by omega) (by omega), w64 (by omega) (by omega), e1]
      congr 1
      · simp
      · omega
theorem rev_ev (l : List Int) (hl : l.length ≤ 1000000) : Ev (fun k => slices_Reverse_byte_byte.f k l) l.reverse := by
  have := rev_loop l.length [] l [] (Nat.le_refl _) (by simp; omega)
  simp only [List.nil_append, List.append_nil, List.length_nil] at this
  refine Ev.congr (fun k => ?_) this
  unfold slices_Reverse_byte_byte.f
  rw [w64 (by omega) (by omega)]
  simp

/-! ### a number's bytes -/
/-- The digits ahead of the last one, the highest first, each with 128. -/
def front (n : Nat) : List Int := if n = 0 then [] else front (n / 128) ++ [((n % 128 : Nat) : Int) + 128]
termination_by n
decreasing_by omega
def code (n : Nat) : List Int := front (n / 128) ++ [((n % 128 : Nat) : Int)]
theorem front_zero : front 0 = [] := by unfold front; simp
theorem front_pos (n : Nat) (h : n ≠ 0) : front n = front (n / 128) ++ [((n % 128 : Nat) : Int) + 128] := by
  rw [front, if_neg h]
theorem front_len : ∀ (d n : Nat), n < 128 ^ d → (front n).length ≤ d
  | 0, n, h => by
    have : n = 0 := by simpa using h
    subst this
    rw [front_zero]
    simp
  | d + 1, n, h => by
    by_cases hz : n = 0
    · subst hz; rw [front_zero]; simp
    · rw [front_pos n hz]
      have := front_len d (n / 128) (by rw [Nat.pow_succ] at h; omega)
      simp
      omega
/-- What a number is held to. -/
def clamp (n : Int) : Nat := (mn (mx n 0) 1099511627776).toNat
theorem clamp_le (n : Int) : clamp n ≤ 1099511627776 := by unfold clamp mn mx; split <;> split <;> omega
theorem clamp_int (n : Int) : mn (mx n 0) 1099511627776 = ((clamp n : Nat) : Int) := by unfold clamp mn mx; split <;> split <;> omega
theorem clamp_int2 (n : Int) : mx 0 (mn n 1099511627776) = ((clamp n : Nat) : Int) := by
  unfold clamp mn mx
  repeat' split
  all_goals omega
theorem clamp_of (n : Nat) (h : n ≤ 1099511627776) : clamp (n : Int) = n := by unfold clamp mn mx; split <;> split <;> omega
theorem code_len (n : Nat) (h : n ≤ 1099511627776) : (code n).length ≤ 6 ∧ 1 ≤ (code n).length := by
  have := front_len 5 (n / 128) (by omega)
  unfold code
  simp
  omega

theorem number_loop (b : List Int) (hb : b.length ≤ 100000) : ∀ (d n : Nat) (out : List Int), n < 128 ^ d → out.length + d ≤ 1000 → n ≤ 1099511627776 →
    Ev (fun k => bytes_Number.l0 k b (n : Int) out) (b ++ (front n ++ out.reverse)) := by
  intro d
  induction d with
  | zero =>
    intro n out h ho hn
    have : n = 0 := by simpa using h
    subst this
    rw [front_zero, List.nil_append]
    refine Ev.step (f := fun k => (slices_Reverse_byte_byte.f k out).bind fun t115 => ((slices_Concat_byte_byte.f k (([b, t115] : List (List Int)))).bind fun t119 => (some t119))) (fun k => ?_) (Ev.bind (rev_ev out (by omega)) ?_)
    · simp only [bytes_Number.l0]
      rw [if_neg (by omega)]
    · refine Ev.congr (f := fun _ => some (b ++ out.reverse)) (fun k => ?_) (Ev.now _)
      have : slices_Concat_byte_byte.f k [b, out.reverse] = some (b ++ out.reverse) := by
        unfold slices_Concat_byte_byte.f
        rw [if_pos ⟨by simp, by simp [Cc.lens]; omega⟩]
        simp
      simp only [this, Option.bind_some]
  | succ d ih =>
    intro n out h ho hn
    by_cases hz : n = 0
    · subst hz
      have := ih 0 out (Nat.two_pow_pos 0 |> fun _ => Nat.pow_pos (by decide)) (by omega) (by omega)
      exact this
    · have hp : n / 128 < 128 ^ d := by rw [Nat.pow_succ] at h; omega
      have := ih (n / 128) (out ++ [((n % 128 : Nat) : Int) + 128]) hp (by simp; omega) (by omega)
      rw [List.reverse_append] at this
      have e : front n ++ out.reverse = front (n / 128) ++ ([((n % 128 : Nat) : Int) + 128].reverse ++ out.reverse) := by rw [front_pos n hz]; simp
      rw [e]
      refine Ev.step (fun k => ?_) this
      simp only [bytes_Number.l0]
      have h1 : Int.tdiv (n : Int) 128 = ((n / 128 : Nat) : Int) := by rw [Int.tdiv_eq_ediv_of_nonneg (by omega)]; omega
      have h2 : Int.tmod (n : Int) 128 = ((n % 128 : Nat) : Int) := by rw [Int.tmod_eq_emod_of_nonneg (by omega)]; omega
      rw [if_pos (by omega), if_pos (by omega), h1, h2, w64 (by omega) (by omega), w64 (by omega) (by omega), Int.emod_eq_of_lt (by omega) (by omega)]
theorem number_ev (b : List Int) (hb : b.length ≤ 100000) (n : Int) : Ev (fun k => bytes_Number.f k b n) (b ++ code (clamp n)) := by
  have hc := clamp_le n
  have := number_loop b hb 6 (clamp n / 128) [((clamp n % 128 : Nat) : Int)] (by omega) (by simp) (by omega)
  refine Ev.congr (fun k => ?_) this
  unfold bytes_Number.f
  rw [clamp_int]
  congr 1
theorem text_ev (b s : List Int) (hb : b.length ≤ 100000) (hs : s.length ≤ 100000) : Ev (fun k => bytes_Text.f k b s) (b ++ code s.length ++ s) := by
  have h := number_ev b hb (s.length : Int)
  rw [clamp_of _ (by omega)] at h
  have hl := code_len s.length (by omega)
  refine Ev.congr (fun k => by unfold bytes_Text.f; rfl) (Ev.bind h ?_)
  refine Ev.congr (fun k => by rw [if_pos (by simp; omega)]) (Ev.now _)

/-! ### the document's -/
/-- The digits, the lowest first, without 128. -/
def lows (n : Nat) : List Int := ((n % 128 : Nat) : Int) :: (if n / 128 = 0 then [] else lows (n / 128))
termination_by n
decreasing_by omega
theorem lows_zero (n : Nat) (h : n / 128 = 0) : lows n = [((n % 128 : Nat) : Int)] := by rw [lows, if_pos h]
theorem lows_pos (n : Nat) (h : n / 128 ≠ 0) : lows n = ((n % 128 : Nat) : Int) :: lows (n / 128) := by rw [lows, if_neg h]
theorem lows_small : ∀ (d n : Nat), n < 128 ^ d → ∀ x ∈ lows n, 0 ≤ x ∧ x < 128
  | 0, n, h => by
    have : n = 0 := by simpa using h
    subst this
    rw [lows_zero 0 rfl]
    intro x hx
    rw [List.mem_singleton] at hx
    subst hx
    decide
  | d + 1, n, h => by
    intro x hx
    by_cases hz : n / 128 = 0
    · rw [lows_zero n hz, List.mem_singleton] at hx
      omega
    · rw [lows_pos n hz] at hx
      rcases List.mem_cons.1 hx with h1 | h1
      · omega
      · exact lows_small d (n / 128) (by rw [Nat.pow_succ] at h; omega) x h1
theorem lows_front : ∀ (d n : Nat), n < 128 ^ d → n ≠ 0 → ((lows n).map (· + 128)).reverse = front n
  | 0, n, h, hz => by
    have : n = 0 := by simpa using h
    exact absurd this hz
  | d + 1, n, h, hz => by
    rw [front_pos n hz]
    by_cases hq : n / 128 = 0
    · rw [lows_zero n hq, hq, front_zero]; simp
    · rw [lows_pos n hq, List.map_cons, List.reverse_cons, lows_front d (n / 128) (by rw [Nat.pow_succ] at h; omega) hq]
theorem lows_len : ∀ (d n : Nat), n < 128 ^ d → (lows n).length ≤ d + 1
  | 0, n, h => by
    have : n = 0 := by simpa using h
    subst this
    rw [lows_zero 0 rfl]
    simp
  | d + 1, n, h => by
    by_cases hz : n / 128 = 0
    · rw [lows_zero n hz]; simp
    · rw [lows_pos n hz]
      have := lows_len d (n / 128) (by rw [Nat.pow_succ] at h; omega)
      simp
      omega
/-- What the second loop writes: from place i down to the first. -/
theorem put_back (L : List Int) (hL : L.length ≤ 1000) (hs : ∀ x ∈ L, 0 ≤ x ∧ x < 128) : ∀ (i : Nat) (out : List Int), i < L.length → out.length + i ≤ 100000 →
    Ev (fun k => potsherdref3_PutNumber.l1 k out L (i : Int)) (out ++ (((L.take (i + 1)).drop 1).map (· + 128)).reverse ++ [L.getD 0 0])
  | 0, out, hi, ho => by
    have hz : (L.take 1).drop 1 = [] := List.drop_eq_nil_of_le (by rw [List.length_take]; omega)
    rw [hz]
    refine Ev.step (f := fun k => potsherdref3_PutNumber.l1 k (out ++ [rd L 0]) L (-1)) (fun k => ?_) (Ev.step (f := fun _ => some (out ++ [rd L 0])) (fun k => ?_) ?_)
    · simp only [potsherdref3_PutNumber.l1]
      rw [if_pos (by omega), if_pos (by omega), if_pos (by omega), if_neg (by omega), if_pos (by omega), w64 (by omega) (by omega)]
      rfl
    · simp only [potsherdref3_PutNumber.l1]
      rw [if_neg (by omega)]
    · have : rd L 0 = L.getD 0 0 := rd_nat L 0
      rw [this]
      simpa using Ev.now _
  | i + 1, out, hi, ho => by
    have hx : L.getD (i + 1) 0 ∈ L := by
      rw [List.getD_eq_getElem?_getD, List.getElem?_eq_getElem hi]
      exact List.getElem_mem _
    have hx2 := hs _ hx
    have ih := put_back L hL hs i (out ++ [L.getD (i + 1) 0 + 128]) (by omega) (by simp; omega)
    have e : (L.take (i + 1 + 1)).drop 1 = (L.take (i + 1)).drop 1 ++ [L.getD (i + 1) 0] := by
      rw [List.take_succ_eq_append_getElem hi, List.drop_append_of_le_length (by rw [List.length_take]; omega), List.getD_eq_getElem?_getD, List.getElem?_eq_getElem hi]
      rfl
    rw [e, List.map_append, List.reverse_append]
    have e2 : out ++ (List.reverse (List.map (· + 128) [L.getD (i + 1) 0]) ++ (List.map (· + 128) ((L.take (i + 1)).drop 1)).reverse) ++ [L.getD 0 0] = out ++ [L.getD (i + 1) 0 + 128] ++ (((L.take (i + 1)).drop 1).map (· + 128)).reverse ++ [L.getD 0 0] := by simp
    rw [e2]
    refine Ev.step (fun k => ?_) ih
    simp only [potsherdref3_PutNumber.l1]
    have hc : ((i + 1 : Nat) : Int) = (i : Int) + 1 := by omega
    rw [if_pos (by omega), if_pos (by omega), if_pos (by omega), if_pos (by omega), if_pos (by omega), w64 (by omega) (by omega), rd_nat, or128 _ hx2.1 hx2.2, show ((i + 1 : Nat) : Int) - 1 = (i : Int) by omega]
theorem put_loop (b : List Int) (hb : b.length ≤ 1000) : ∀ (d n : Nat) (out : List Int), n < 128 ^ d → out.length + d ≤ 900 → n ≤ 1099511627776 → (∀ x ∈ out, 0 ≤ x ∧ x < 128) →
    Ev (fun k => potsherdref3_PutNumber.l0 k b (n : Int) out) (b ++ ((((out ++ lows n)).drop 1).map (· + 128)).reverse ++ [(out ++ lows n).getD 0 0]) := by
  have fin : ∀ (n : Nat) (out : List Int), n / 128 = 0 → n ≤ 1099511627776 → out.length ≤ 900 → (∀ x ∈ out, 0 ≤ x ∧ x < 128) → Ev (fun k => potsherdref3_PutNumber.l0 k b (n : Int) out) (b ++ ((((out ++ lows n)).drop 1).map (· + 128)).reverse ++ [(out ++ lows n).getD 0 0]) := fun n out hq hn ho hs => by
    have hlow := lows_small 6 n (by omega)
    have hb := put_back (out ++ lows n) (by rw [lows_zero n hq]; simp; omega) (fun x hx => by
      rcases List.mem_append.1 hx with h1 | h1
      · exact hs x h1
      · exact hlow x h1) out.length b (by rw [lows_zero n hq]; simp) (by omega)
    rw [List.take_of_length_le (by rw [lows_zero n hq]; simp)] at hb
    refine Ev.step (fun k => ?_) hb
    simp only [potsherdref3_PutNumber.l0, Option.bind_some]
    rw [lows_zero n hq, if_pos (by omega), if_pos (by omega), and127 _ (by omega) (by omega), show ((n : Int) % 128) % 256 = ((n % 128 : Nat) : Int) by omega, w64 (by simp; try omega) (by simp; try omega)]
    congr 1
    simp
  intro d
  induction d with
  | zero =>
    intro n out h ho hn hs
    have : n = 0 := by simpa using h
    subst this
    exact fin 0 out rfl (by omega) (by omega) hs
  | succ d ih =>
    intro n out h ho hn hs
    by_cases hq : n / 128 = 0
    · exact fin n out hq hn (by omega) hs
    · have hp : n / 128 < 128 ^ d := by rw [Nat.pow_succ] at h; omega
      have := ih (n / 128) (out ++ [((n % 128 : Nat) : Int)]) hp (by simp; omega) (by omega) (fun x hx => by
        rcases List.mem_append.1 hx with h1 | h1
        · exact hs x h1
        · rw [List.mem_singleton] at h1; omega)
      have e3 : out ++ [((n % 128 : Nat) : Int)] ++ lows (n / 128) = out ++ lows n := by rw [lows_pos n hq]; simp
      rw [e3] at this
      refine Ev.step (fun k => ?_) this
      simp only [potsherdref3_PutNumber.l0, Option.bind_some]
      rw [if_pos (by omega), if_neg (by omega), and127 _ (by omega) (by omega), show ((n : Int) % 128) % 256 = ((n % 128 : Nat) : Int) by omega]
      rfl
theorem put_ev (b : List Int) (hb : b.length ≤ 1000) (n : Int) : Ev (fun k => potsherdref3_PutNumber.f k b n) (b ++ code (clamp n)) := by
  have hc := clamp_le n
  have := put_loop b hb 6 (clamp n) [] (by omega) (by simp) hc (fun x hx => by cases hx)
  have e : b ++ ((([] ++ lows (clamp n)).drop 1).map (· + 128)).reverse ++ [([] ++ lows (clamp n)).getD 0 0] = b ++ code (clamp n) := by
    rw [List.nil_append, List.append_assoc]
    congr 1
    unfold code
    by_cases hq : clamp n / 128 = 0
    · rw [lows_zero _ hq, hq, front_zero]; simp
    · rw [lows_pos _ hq, ← lows_front 6 (clamp n / 128) (by omega) hq]; simp
  rw [e] at this
  refine Ev.congr (fun k => ?_) this
  unfold potsherdref3_PutNumber.f
  rw [clamp_int2]
theorem putText_ev (b s : List Int) (hb : b.length ≤ 1000) (hs : s.length ≤ 100000) : Ev (fun k => potsherdref3_PutText.f k b s) (b ++ code s.length ++ s) := by
  have h := put_ev b hb (s.length : Int)
  rw [clamp_of _ (by omega)] at h
  have hl := code_len s.length (by omega)
  refine Ev.congr (fun k => by unfold potsherdref3_PutText.f; rfl) (Ev.bind h ?_)
  refine Ev.congr (fun k => by rw [if_pos (by simp; omega)]) (Ev.now _)
end Go.Proofs.Ytmoefknefopdlaa.Pl1
