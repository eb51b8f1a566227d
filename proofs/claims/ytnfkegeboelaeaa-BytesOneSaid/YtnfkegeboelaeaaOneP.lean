import Derived.Test.YtnfkegeboelaeaaBounds
import Derived.Test.YtnfkegeboelaeaaSt
set_option linter.unusedVariables false
set_option linter.unusedSimpArgs false
/-! Numbers are in the order of their lengths and bytes. -/
namespace Go.Proofs.Ytnfkegeboelaeaa.OneP
open Go.RowKit Go.Proofs.YtnfkegeboelaeaaW.PrintWords Go.Proofs.YtnfkegeboelaeaaW.PrintLast Go.Proofs.YtnfkegeboelaeaaW.PrintMore Go.Proofs.Ytnfkegeboelaeaa.PAll Go.Proofs.Ytnfkegeboelaeaa.Pl1 Go.Proofs.Ytnfkegeboelaeaa.Pl2 Go.Proofs.Ytnfkegeboelaeaa.St Go.Proofs.Ytnfkegeboelaeaa.Bounds

def lexI : List Int → List Int → Bool
  | _, [] => false
  | [], _ :: _ => true
  | a :: x, b :: y => decide (a < b) || (decide (a = b) && lexI x y)
theorem u8_nat (a : Int) (h : 0 ≤ a ∧ a < 256) : (UInt8.ofNat a.toNat).toNat = a.toNat := by
  rw [UInt8.toNat_ofNat']
  exact Nat.mod_eq_of_lt (by omega)
theorem less_lex : ∀ (a b : List Int), Bytes a → Bytes b → Op.bytesLess (a.map fun n => UInt8.ofNat n.toNat) (b.map fun n => UInt8.ofNat n.toNat) = lexI a b
  | a, [], _, _ => by cases a <;> rfl
  | [], b :: y, _, _ => rfl
  | a :: x, b :: y, ha, hb => by
    obtain ⟨a1, a2⟩ := ha.cons
    obtain ⟨b1, b2⟩ := hb.cons
    have ih := less_lex x y a2 b2
    have h1 : (UInt8.ofNat a.toNat < UInt8.ofNat b.toNat) ↔ a < b := by
      rw [UInt8.lt_iff_toNat_lt, u8_nat a a1, u8_nat b b1]
      omega
    have h2 : (UInt8.ofNat a.toNat = UInt8.ofNat b.toNat) ↔ a = b := by
      rw [← UInt8.toNat_inj, u8_nat a a1, u8_nat b b1]
      omega
    simp only [List.map_cons, Op.bytesLess, lexI, ih]
    congr 1
    · exact decide_eq_decide.2 h1
    · congr 1
      by_cases h : a = b
      · simp [h]
      · rw [decide_eq_false h]
        exact beq_eq_false_iff_ne.2 (fun e => h (h2.1 e))
theorem lex_snoc : ∀ (a b : List Int) (x y : Int), a.length = b.length → lexI (a ++ [x]) (b ++ [y]) = (lexI a b || (decide (a = b) && decide (x < y)))
  | [], [], x, y, _ => by simp [lexI]
  | [], b :: l, x, y, h => by simp at h
  | a :: l, [], x, y, h => by simp at h
  | a :: l, b :: l', x, y, h => by
    have ih := lex_snoc l l' x y (by simpa using h)
    simp only [List.cons_append, lexI, ih]
    by_cases h1 : a < b
    · simp [h1]
    · by_cases h2 : a = b
      · subst h2
        simp
      · simp [h1, h2]
theorem front_short : ∀ (d q p : Nat), q < 128 ^ d → (front q).length < (front p).length → q < p
  | 0, q, p, hq, h => by
    have : q = 0 := by simpa using hq
    subst this
    rcases Nat.eq_zero_or_pos p with rfl | hp
    · omega
    · exact hp
  | d + 1, q, p, hq, h => by
    rcases Nat.eq_zero_or_pos p with rfl | hp
    · rw [front_zero] at h; simp at h
    · rcases Nat.eq_zero_or_pos q with rfl | hq0
      · exact hp
      · rw [front_pos q (by omega), front_pos p (by omega)] at h
        have := front_short d (q / 128) (p / 128) (by rw [Nat.pow_succ] at hq; omega) (by simpa using h)
        omega
theorem front_lex : ∀ (d q p : Nat), q < 128 ^ d → (front q).length = (front p).length → lexI (front q) (front p) = decide (q < p) ∧ (front q = front p ↔ q = p)
  | 0, q, p, hq, h => by
    have : q = 0 := by simpa using hq
    subst this
    rcases Nat.eq_zero_or_pos p with rfl | hp
    · rw [front_zero]; exact ⟨rfl, by simp⟩
    · rw [front_zero, front_pos p (by omega)] at h; simp at h
  | d + 1, q, p, hq, h => by
    rcases Nat.eq_zero_or_pos p with rfl | hp
    · rcases Nat.eq_zero_or_pos q with rfl | hq0
      · rw [front_zero]; exact ⟨rfl, by simp⟩
      · rw [front_zero, front_pos q (by omega)] at h; simp at h
    · rcases Nat.eq_zero_or_pos q with rfl | hq0
      · rw [front_zero, front_pos p (by omega)] at h; simp at h
      · rw [front_pos q (by omega), front_pos p (by omega)] at h ⊢
        obtain ⟨i1, i2⟩ := front_lex d (q / 128) (p / 128) (by rw [Nat.pow_succ] at hq; omega) (by simpa using h)
        refine ⟨?_, ?_⟩
        · have e5 : decide (front (q / 128) = front (p / 128)) = decide (q / 128 = p / 128) := decide_eq_decide.2 i2
          rw [lex_snoc _ _ _ _ (by simpa using h), i1, e5, Bool.eq_iff_iff]
          simp only [Bool.or_eq_true, Bool.and_eq_true, decide_eq_true_eq]
          omega
        · constructor
          · intro e
            have e1 := List.append_inj e (by simpa using h)
            have e2 := i2.1 e1.1
            have e3 : ((q % 128 : Nat) : Int) + 128 = ((p % 128 : Nat) : Int) + 128 := by simpa using e1.2
            omega
          · rintro rfl; rfl
theorem code_short (n m : Nat) (hn : n ≤ 1099511627776) (h : (code n).length < (code m).length) : n < m := by
  unfold code at h
  have := front_short 6 (n / 128) (m / 128) (by omega) (by simpa using h)
  omega
theorem code_lex (n m : Nat) (hn : n ≤ 1099511627776) (h : (code n).length = (code m).length) : lexI (code n) (code m) = decide (n < m) := by
  unfold code at h ⊢
  have hl : (front (n / 128)).length = (front (m / 128)).length := by simpa using h
  obtain ⟨i1, i2⟩ := front_lex 6 (n / 128) (m / 128) (by omega) hl
  have e5 : decide (front (n / 128) = front (m / 128)) = decide (n / 128 = m / 128) := decide_eq_decide.2 i2
  rw [lex_snoc _ _ _ _ hl, i1, e5, Bool.eq_iff_iff]
  simp only [Bool.or_eq_true, Bool.and_eq_true, decide_eq_true_eq]
  omega
theorem hcmp (n m : Nat) (hn : n ≤ 1099511627776) (hm : m ≤ 1099511627776) : ((strOfNums (code n)).size < (strOfNums (code m)).size ∧ n < m) ∨ ((strOfNums (code n)).size = (strOfNums (code m)).size ∧ Op.bytesLess (strOfNums (code n)).toList (strOfNums (code m)).toList = decide (n < m)) ∨ ((strOfNums (code m)).size < (strOfNums (code n)).size ∧ ¬ n < m) := by
  rw [strOfNums_size, strOfNums_size]
  rcases Nat.lt_trichotomy (code n).length (code m).length with h | h | h
  · exact .inl ⟨h, code_short n m hn h⟩
  · refine .inr (.inl ⟨h, ?_⟩)
    rw [ByteArray.toList_eq, ByteArray.toList_eq, strOfNums_data, strOfNums_data, less_lex _ _ (code_bytes n hn) (code_bytes m hm), code_lex n m hn h]
  · have := code_short m n hm h
    exact .inr (.inr ⟨h, by omega⟩)
theorem hend {b : List Int} (hf : Fine b) {v e' : Int} {l' : List Int} (hst : numStep b 0 1099511627776 = (v, l', e')) : (e' = 5 ∧ v = 0 ∧ l' = b) ∨ (e' = 0 ∧ ∃ z : List Int, ∃ k, bytes_Number.f k [] v = some z ∧ z.length ≤ b.length ∧ l'.length + z.length = b.length ∧ b.take z.length = z) := by
  unfold numStep at hst
  rw [if_pos rfl] at hst
  cases hr : rdNum b with
  | none =>
    rw [hr] at hst
    simp only [Prod.mk.injEq] at hst
    obtain ⟨rfl, rfl, rfl⟩ := hst
    exact .inl ⟨rfl, rfl, rfl⟩
  | some p =>
    obtain ⟨n, s⟩ := p
    rw [hr] at hst
    obtain ⟨n', rfl, h1, h2, h3, h4⟩ := rdNum_inv hf.1 hr
    by_cases hm : (n' : Int) > 1099511627776
    · simp only [if_pos hm, Prod.mk.injEq] at hst
      obtain ⟨rfl, rfl, rfl⟩ := hst
      exact .inl ⟨rfl, rfl, rfl⟩
    · simp only [if_neg hm, Prod.mk.injEq] at hst
      obtain ⟨rfl, rfl, rfl⟩ := hst
      obtain ⟨k, hk⟩ := (number_ev [] (by simp) (n' : Int)).rounds
      rw [List.nil_append, clamp_of n' (by omega)] at hk
      refine .inr ⟨rfl, code n', k, hk, by omega, by rw [List.length_drop]; omega, by rw [← h2, h1]⟩
end Go.Proofs.Ytnfkegeboelaeaa.OneP
