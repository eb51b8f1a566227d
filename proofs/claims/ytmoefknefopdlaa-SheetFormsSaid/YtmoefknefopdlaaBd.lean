import Derived.Test.YtmoefknefopdlaaSp
set_option linter.unusedVariables false
set_option linter.unusedSimpArgs false
/-! Small plain lemmas: bytes, remainders, strings of bytes. -/
namespace Go.Proofs.Ytmoefknefopdlaa.Bd
open Go.RowKit Go.Proofs.YtmoefknefopdlaaW.PrintWords Go.Proofs.Ytmoefknefopdlaa.Pl1 Go.Proofs.Ytmoefknefopdlaa.Pl2 Go.Proofs.Ytmoefknefopdlaa.Sp

theorem front_bytes : ∀ (d n : Nat), n < 128 ^ d → Bytes (front n)
  | 0, n, h => by
    have : n = 0 := by simpa using h
    subst this
    rw [front_zero]
    exact fun x hx => by cases hx
  | d + 1, n, h => by
    by_cases hz : n = 0
    · subst hz; rw [front_zero]; exact fun x hx => by cases hx
    · rw [front_pos n hz]
      exact (front_bytes d (n / 128) (by rw [Nat.pow_succ] at h; omega)).append (fun x hx => by rw [List.mem_singleton] at hx; omega)
theorem code_bytes (n : Nat) (h : n ≤ 1099511627776) : Bytes (code n) :=
  (front_bytes 6 (n / 128) (by omega)).append (fun x hx => by rw [List.mem_singleton] at hx; omega)
theorem bytes_of {l : List Int} (h : ∀ x ∈ l, (Lit.int .u8 x).wf = true) : Bytes l := fun x hx => by
  have h1 := h x hx
  have h2 : IntKind.u8.min ≤ x ∧ x ≤ IntKind.u8.max := by simpa [Lit.wf] using h1
  have h3 : IntKind.u8.min = 0 := by decide
  have h4 : IntKind.u8.max = 255 := by decide
  omega
theorem small (a : Int) (B : Int) (hB : 0 < B) (hB2 : B ≤ 2000000000000) : ∃ n : Nat, wrap64 (Int.tmod (IntKind.u64.wrap a) B) = (n : Int) ∧ (n : Int) < B := by
  have h0 : 0 ≤ IntKind.u64.wrap a := by
    rw [IntKind.wrap_u64]
    exact Int.emod_nonneg _ (by decide)
  have t0 : 0 ≤ Int.tmod (IntKind.u64.wrap a) B := Int.tmod_nonneg _ h0
  have t1 : Int.tmod (IntKind.u64.wrap a) B < B := Int.tmod_lt_of_pos _ hB
  exact ⟨(Int.tmod (IntKind.u64.wrap a) B).toNat, by rw [w64 (by omega) (by omega)]; omega, by omega⟩
theorem laid_bytes {p q : Int} {d : List Int} (hd : Bytes d) (hl : d.length ≤ 1099511627776) : Bytes (laidL p q d) := by
  unfold laidL
  exact (((((code_bytes _ (clamp_le p)).append (code_bytes _ (clamp_le q))).append (code_bytes _ hl)).append hd).append (fun x hx => by rw [List.mem_singleton] at hx; omega))
theorem u8_back {a : Int} (h : 0 ≤ a ∧ a < 256) : (((UInt8.ofNat a.toNat).toNat : Nat) : Int) = a := by
  have : (UInt8.ofNat a.toNat).toNat = a.toNat := by
    rw [UInt8.toNat_ofNat']
    exact Nat.mod_eq_of_lt (by omega)
  omega
theorem str_inj {a b : List Int} (ha : Bytes a) (hb : Bytes b) (h : (strOfNums a).toList = (strOfNums b).toList) : a = b := by
  have h1 : (a.map fun n => UInt8.ofNat n.toNat) = b.map fun n => UInt8.ofNat n.toNat := by
    rw [ByteArray.toList_eq, ByteArray.toList_eq, strOfNums_data, strOfNums_data] at h
    exact h
  have back : ∀ l : List Int, Bytes l → (l.map fun n => UInt8.ofNat n.toNat).map (fun u => ((u.toNat : Nat) : Int)) = l := by
    intro l
    induction l with
    | nil => intro _; rfl
    | cons x l ih =>
      intro hl
      obtain ⟨hx, hl'⟩ := hl.cons
      rw [List.map_cons, List.map_cons, ih hl', u8_back hx]
  have h3 := congrArg (List.map (fun u : UInt8 => ((u.toNat : Nat) : Int))) h1
  rw [back a ha, back b hb] at h3
  exact h3
end Go.Proofs.Ytmoefknefopdlaa.Bd
