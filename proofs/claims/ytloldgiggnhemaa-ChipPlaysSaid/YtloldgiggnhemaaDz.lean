import Derived.Test.YtloldgiggnhemaaSz
set_option linter.unusedVariables false
set_option linter.unusedSimpArgs false
/-! The calls that the laws take: a row of Do; Heavy. -/
namespace Go.Proofs.Ytloldgiggnhemaa.Cm
open Go.RowKit Go.Proofs.YtloldgiggnhemaaW.PrintWords Go.Proofs.YtloldgiggnhemaaW.PrintLast Go.Proofs.YtloldgiggnhemaaW.PrintMore Go.Proofs.Ytloldgiggnhemaa.Kp Go.Proofs.Ytloldgiggnhemaa.Cp

structure S29 where
  f0 : Int
  f1 : Int
def k29 : Kd S29 := Kd.iso (Kd.pair (Kd.int .i64) (Kd.int .i64)) (fun x : S29 => (x.f0, x.f1))
structure S52 where
  f0 : Int
  f1 : Int
  f2 : Int
  f3 : S29
  f4 : List Int
def z52 : S52 := ⟨0, 0, 0, ⟨0, 0⟩, []⟩
def k52 : Kd S52 := Kd.iso (Kd.pair (Kd.int .i64) (Kd.pair (Kd.int .i64) (Kd.pair (Kd.int .i64) (Kd.pair k29 (Kd.slice 5 (Kd.int .u8)))))) (fun x : S52 => (x.f0, x.f1, x.f2, x.f3, x.f4))
theorem doOpen {w : World} {x : S52} {cs : List Value} (h : k52.K w x cs) : ∃ A4 c4, cs = [.int .i64 x.f0, .int .i64 x.f1, .int .i64 x.f2, .int .i64 x.f3.f0, .int .i64 x.f3.f1, .slice A4 x.f4.length c4] ∧ x.f4.length ≤ c4 ∧ (Kd.int .u8).C w A4 x.f4.length x.f4 := by
  obtain ⟨_, _, rfl, rfl, ⟨_, _, rfl, rfl, ⟨_, _, rfl, rfl, ⟨_, _, rfl, ⟨_, _, rfl, rfl, rfl⟩, ⟨A4, c4, rfl, l4, g4⟩⟩⟩⟩⟩ := h
  exact ⟨A4, c4, rfl, l4, g4⟩
theorem doAt {w : World} {A : Option Addr} {n : Nat} {xs : List S52} (h : Kd.C k52 w A n xs) (i : Nat) (hi : i < n) : ∃ ad A4 c4, A = some ad ∧ w.cell? (ad.add (i * 6)) = some (.int .i64 (xs.getD i z52).f0) ∧ w.cell? ⟨(ad.add (i * 6)).block, (ad.add (i * 6)).off + 1, none⟩ = some (.int .i64 (xs.getD i z52).f1) ∧
    w.cell? ⟨(ad.add (i * 6)).block, (ad.add (i * 6)).off + 2, none⟩ = some (.int .i64 (xs.getD i z52).f2) ∧ w.cell? ⟨(ad.add (i * 6)).block, (ad.add (i * 6)).off + 3, none⟩ = some (.int .i64 (xs.getD i z52).f3.f0) ∧ w.cell? ⟨(ad.add (i * 6)).block, (ad.add (i * 6)).off + 4, none⟩ = some (.int .i64 (xs.getD i z52).f3.f1) ∧
    w.cell? ⟨(ad.add (i * 6)).block, (ad.add (i * 6)).off + 5, none⟩ = some (.slice A4 (xs.getD i z52).f4.length c4) ∧ (xs.getD i z52).f4.length ≤ c4 ∧ (Kd.int .u8).C w A4 (xs.getD i z52).f4.length (xs.getD i z52).f4 := by
  obtain ⟨ad, c, e, _, hK, hc0⟩ := Kd.C_get h z52 (i : Int) (by omega) (by omega)
  have hc : ∀ j u, c[j]? = some u → w.cell? (ad.add (i * 6 + j)) = some u := hc0
  obtain ⟨A4, c4, rfl, l4, g4⟩ := doOpen hK
  exact ⟨ad, A4, c4, e, hc 0 _ rfl, by rw [← add_field _ _ 1 (by omega)]; exact hc 1 _ rfl, by rw [← add_field _ _ 2 (by omega)]; exact hc 2 _ rfl, by rw [← add_field _ _ 3 (by omega)]; exact hc 3 _ rfl, by rw [← add_field _ _ 4 (by omega)]; exact hc 4 _ rfl, by rw [← add_field _ _ 5 (by omega)]; exact hc 5 _ rfl, l4, g4⟩
set_option maxHeartbeats 4000000 in
set_option maxRecDepth 100000 in
theorem heavy (w : World) (A : Option Addr) (c : Nat) (l : List S52) (hC : Kd.C k52 w A l.length l) (hc : l.length ≤ c) (hl : l.length ≤ maxLen) :
    Calls Try.prog 23 #[.slice A l.length c] w fun e w' => ∃ r : Int, e = .returned (.int .i64 r) ∧ (r ≤ 0 → l.length ≤ 150 ∧ ∀ j, j < l.length → (l.getD j z52).f4.length ≤ 2500) ∧ Below w.heap.size w w' := by
  have HC := Aside0.mk hC
  have HL := Aside0.mk hl
  clear hC hc hl
  go_enter Try.func23, Try.ntmps23
  go_wp2_with fail
  go_loopw [7] (fun v7 wr => ∃ k : Nat, k ≤ l.length ∧ v7 = .int .i64 (k : Int) ∧ Aside0 (Below w.heap.size w wr) ∧ Aside0 (k ≤ 150 ∧ ∀ j, j < k → (l.getD j z52).f4.length ≤ 2500)) (fun v7 _ => l.length - (intOf v7).toNat)
  case atStart => exact ⟨0, Nat.zero_le _, rfl, ⟨Below.refl _ _⟩, ⟨by omega, fun j h => absurd h (Nat.not_lt_zero _)⟩⟩
  case round =>
    obtain ⟨k, hk, rfl, HB, HN⟩ := hrel
    by_cases hlt : k < l.length
    · have hlt2 : (k : Int) < (l.length : Int) := by omega
      have HLT := Aside0.mk hlt
      have hw2 : wrap64 ((k : Int) + 1) = ((k + 1 : Nat) : Int) := by rw [show (k : Int) + 1 = ((k + 1 : Nat) : Int) by omega]; exact wrap_small _ (by omega) (by have := HN.out.1; omega)
      have HCr := Aside0.mk (Kd.C_below HC.out HB.out)
      obtain ⟨ad, A4, c4, rfl, x0, x1, x2, x3, x4, x5, -, -⟩ := doAt HCr.out k hlt
      obtain ⟨d, hd⟩ : ∃ d, l.getD k z52 = d := ⟨_, rfl⟩
      rw [hd] at x0 x1 x2 x3 x4 x5
      have HD := Aside0.mk hd
      clear hd hlt hk HCr
      have HB2 := Aside0.mk (below_step HB.out (below_alloc (Below.refl _ wr) (.cells #[.int .i64 d.f0, .int .i64 d.f1, .int .i64 d.f2, .int .i64 d.f3.f0, .int .i64 d.f3.f1, .slice A4 d.f4.length c4] 52)))
      by_cases h1 : 150 ≤ k
      · have e1 : decide ((k : Int) ≥ 150) = true := decide_eq_true (by omega)
        have e1n : decide (150 ≤ k) = true := decide_eq_true h1
        clear h1
        go_wp2_with fail
        go_ret
        exact ⟨_, rfl, fun h => absurd h (by omega), HB2.out⟩
      · have e1 : decide ((k : Int) ≥ 150) = false := decide_eq_false (by omega)
        have e1n : decide (150 ≤ k) = false := decide_eq_false h1
        have H1 := Aside0.mk h1
        by_cases h2 : 2500 < d.f4.length
        · have e2 : decide ((d.f4.length : Int) > 2500) = true := decide_eq_true (by omega)
          have e2n : decide (2500 < d.f4.length) = true := decide_eq_true h2
          clear h1 h2
          go_wp2_with fail
          go_ret
          exact ⟨_, rfl, fun h => absurd h (by omega), HB2.out⟩
        · have e2 : decide ((d.f4.length : Int) > 2500) = false := decide_eq_false (by omega)
          have e2n : decide (2500 < d.f4.length) = false := decide_eq_false h2
          have H2 := Aside0.mk h2
          clear h1 h2
          go_wp2_with fail
          go_roundw
          case measure =>
            have hm : l.length - ((k + 1 : Nat) : Int).toNat < l.length - ((k : Nat) : Int).toNat := by
              rw [Int.toNat_natCast, Int.toNat_natCast]
              exact Nat.sub_lt_sub_left HLT.out (Nat.lt_succ_self k)
            first | exact hm | (rw [hw2]; exact hm)
          case rel => exact ⟨k + 1, HLT.out, by first | rw [hw2] | rfl, HB2, ⟨by have := H1.out; omega, fun j hj => by
            by_cases e : j = k
            · subst e
              rw [HD.out]
              have := H2.out
              omega
            · exact HN.out.2 j (by omega)⟩⟩
    · have he : k = l.length := by omega
      subst he
      have hn : ¬ (((l.length : Nat) : Int) < (l.length : Int)) := by omega
      clear hlt hk
      go_wp2_with fail
      go_ret
      exact ⟨_, rfl, fun _ => ⟨HN.out.1, HN.out.2⟩, HB.out⟩
end Go.Proofs.Ytloldgiggnhemaa.Cm
