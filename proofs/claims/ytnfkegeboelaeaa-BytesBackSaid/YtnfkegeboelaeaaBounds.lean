import Derived.Test.YtnfkegeboelaeaaBoundsW
set_option linter.unusedVariables false
set_option linter.unusedSimpArgs false
/-! BytesBounds: always true. -/
namespace Go.Proofs.Ytnfkegeboelaeaa.Bounds
open Go.RowKit Go.Proofs.YtnfkegeboelaeaaW.PrintWords Go.Proofs.YtnfkegeboelaeaaW.PrintLast Go.Proofs.YtnfkegeboelaeaaW.PrintMore Go.Proofs.Ytnfkegeboelaeaa.PAll Go.Proofs.Ytnfkegeboelaeaa.Pl1 Go.Proofs.Ytnfkegeboelaeaa.Pl2

theorem front_bytes : ∀ (d n : Nat), n < 128 ^ d → Bytes (front n)
  | 0, n, h => by
    have : n = 0 := by simpa using h
    subst this
    rw [front_zero]
    exact fun x hx => by cases hx
  | d + 1, n, h => by
    by_cases hz : n = 0
    · subst hz; rw [front_zero]; exact fun x hx => by cases hx
    · rw [front_pos n hz]
      exact (front_bytes d (n / 128) (by rw [Nat.pow_succ] at h; omega)).append (fun x hx => by rw [List.mem_singleton] at hx; omega)
theorem code_bytes (n : Nat) (h : n ≤ 1099511627776) : Bytes (code n) :=
  (front_bytes 6 (n / 128) (by omega)).append (fun x hx => by rw [List.mem_singleton] at hx; omega)
theorem bytes_of {l : List Int} (h : ∀ x ∈ l, (Lit.int .u8 x).wf = true) : Bytes l := fun x hx => by
  have h1 := h x hx
  have h2 : IntKind.u8.min ≤ x ∧ x ≤ IntKind.u8.max := by simpa [Lit.wf] using h1
  have h3 : IntKind.u8.min = 0 := by decide
  have h4 : IntKind.u8.max = 255 := by decide
  omega
theorem small (a : Int) (B : Int) (hB : 0 < B) (hB2 : B ≤ 2000000000000) : ∃ n : Nat, wrap64 (Int.tmod (IntKind.u64.wrap a) B) = (n : Int) ∧ (n : Int) < B := by
  have h0 : 0 ≤ IntKind.u64.wrap a := by
    rw [IntKind.wrap_u64]
    exact Int.emod_nonneg _ (by decide)
  have t0 : 0 ≤ Int.tmod (IntKind.u64.wrap a) B := Int.tmod_nonneg _ h0
  have t1 : Int.tmod (IntKind.u64.wrap a) B < B := Int.tmod_lt_of_pos _ hB
  exact ⟨(Int.tmod (IntKind.u64.wrap a) B).toNat, by rw [w64 (by omega) (by omega)]; omega, by omega⟩
theorem own_code (n : Nat) (h : n ≤ 1099511627776) (rest : List Int) (most : Int) : own (rdNum (code n ++ rest)) most = if (n : Int) > most then (0, 0) else ((n : Int), ((code n).length : Int)) := by
  rw [rdNum_code n h rest]; rfl
theorem final (W : World) (a0 : Int) (w0 : (Lit.int .i64 a0).wf = true) (a1 : Int) (w1 : (Lit.int .i64 a1).wf = true)
    (A2 : Option Addr) (c2 : Nat) (l2 : List Int) (hc2 : l2.length ≤ c2) (hr2 : Kd.C (Kd.int .u8) W A2 l2.length l2) (hm2 : l2.length ≤ maxLen) (hok2 : ∀ x ∈ l2, (Lit.int .u8 x).wf = true) :
    Calls Try.prog 8 #[.int .i64 a0, .int .i64 a1, .slice A2 l2.length c2] W fun e w' => e = .returned (.bool true) ∧ Below W.heap.size W w' := by
  by_cases hl : 300 < l2.length
  · exact long W a0 a1 A2 c2 l2 hl
  · have hb := bytes_of hok2
    obtain ⟨n, hn, hn2⟩ := small a0 100000 (by decide) (by decide)
    obtain ⟨m, hm, hm2'⟩ := small a1 100000 (by decide) (by decide)
    have hq : Int.tmod (m : Int) 400 = ((m % 400 : Nat) : Int) := by rw [Int.tmod_eq_emod_of_nonneg (by omega)]; omega
    have cl := code_len n (by omega)
    have cs := code_len l2.length (by omega)
    have hL : (code n).length ≤ 1000000 := by omega
    have hL2 : ([] ++ code l2.length ++ l2).length ≤ 1000000 := by simp; omega
    obtain ⟨k1, e1⟩ := number_ev [] (by simp) (n : Int)
    obtain ⟨k2, e2⟩ := text_ev [] l2 (by simp) (by omega)
    obtain ⟨k3, e3⟩ := own_ev (code n) (by omega) (code_bytes n (by omega)) (m : Int)
    obtain ⟨k4, e4⟩ := own_ev ([] ++ code l2.length ++ l2) hL2 ((code_bytes l2.length (by omega)).append hb) ((m % 400 : Nat) : Int)
    have f1 := e1 (k1 + k2 + k3 + k4) (by omega)
    have f2 := e2 (k1 + k2 + k3 + k4) (by omega)
    have f3 := e3 (k1 + k2 + k3 + k4) (by omega)
    have f4 := e4 (k1 + k2 + k3 + k4) (by omega)
    simp only [clamp_of n (show n ≤ 1099511627776 by omega), List.nil_append] at f1 f2 f4 hL2
    have o3 := own_code n (by omega) [] (m : Int)
    rw [List.append_nil] at o3
    simp only [o3] at f3
    simp only [own_code l2.length (by omega) l2 ((m % 400 : Nat) : Int)] at f4
    by_cases g1 : n ≤ m
    · rw [if_neg (by omega)] at f3
      by_cases g2 : l2.length ≤ m % 400
      · rw [if_neg (by omega)] at f4
        exact walkYY W a0 a1 A2 c2 l2 (by omega) hr2 hc2 n m (m % 400) hn hm hq (code n) (code l2.length ++ l2) _ f1 hL f2 hL2 g1 f3 _ g2 f4 (by omega) (by simp) (by
          rw [show (((code l2.length).length : Int) + (l2.length : Int)).toNat = (code l2.length).length + l2.length by omega, List.take_of_length_le (by simp), Int.toNat_natCast, List.drop_left])
      · rw [if_pos (by omega)] at f4
        exact walkYN W a0 a1 A2 c2 l2 (by omega) hr2 hc2 n m (m % 400) hn hm hq (code n) (code l2.length ++ l2) _ f1 hL f2 hL2 g1 f3 (by omega) f4
    · rw [if_pos (by omega)] at f3
      by_cases g2 : l2.length ≤ m % 400
      · rw [if_neg (by omega)] at f4
        exact walkNY W a0 a1 A2 c2 l2 (by omega) hr2 hc2 n m (m % 400) hn hm hq (code n) (code l2.length ++ l2) _ f1 hL f2 hL2 (by omega) f3 _ g2 f4 (by omega) (by simp) (by
          rw [show (((code l2.length).length : Int) + (l2.length : Int)).toNat = (code l2.length).length + l2.length by omega, List.take_of_length_le (by simp), Int.toNat_natCast, List.drop_left])
      · rw [if_pos (by omega)] at f4
        exact walkNN W a0 a1 A2 c2 l2 (by omega) hr2 hc2 n m (m % 400) hn hm hq (code n) (code l2.length ++ l2) _ f1 hL f2 hL2 (by omega) f3 (by omega) f4
end Go.Proofs.Ytnfkegeboelaeaa.Bounds
