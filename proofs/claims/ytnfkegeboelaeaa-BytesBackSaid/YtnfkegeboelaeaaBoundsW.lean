import Derived.Test.YtnfkegeboelaeaaAw
set_option linter.unusedVariables false
set_option linter.unusedSimpArgs false
/-! BytesBounds: the walks. -/
namespace Go.Proofs.Ytnfkegeboelaeaa.Bounds
open Go.RowKit Go.Proofs.YtnfkegeboelaeaaW.PrintWords Go.Proofs.YtnfkegeboelaeaaW.PrintLast Go.Proofs.YtnfkegeboelaeaaW.PrintMore Go.Proofs.Ytnfkegeboelaeaa.PAll Go.Proofs.Ytnfkegeboelaeaa.Rdr Go.Proofs.Ytnfkegeboelaeaa.Aw
attribute [local go_sem] max2_int min2_int max_two min_two max_three min_three max_four min_four

set_option maxHeartbeats 4000000 in
set_option maxRecDepth 100000 in
theorem long (W : World) (a0 a1 : Int) (A2 : Option Addr) (c2 : Nat) (s : List Int) (h : 300 < s.length) : Calls Try.prog 8 #[.int .i64 a0, .int .i64 a1, .slice A2 s.length c2] W fun e w' => e = .returned (.bool true) ∧ Below W.heap.size W w' := by
  have h1 : ((s.length : Int) > 300) := by omega
  clear h
  go_enter Try.func8, Try.ntmps8
  go_wp2_with (go_at_call 9; refine (Aw.awake _).mono ?_; rintro e w5 ⟨rfl, hb⟩; have HB5 := Aside0.mk hb; clear hb)
  go_ret
  exact ⟨rfl, HB5.out⟩

set_option maxHeartbeats 8000000 in
set_option maxRecDepth 100000 in
theorem walkYY (W : World) (a0 a1 : Int) (A2 : Option Addr) (c2 : Nat) (s : List Int) (hs : s.length ≤ 300) (hr : Kd.C (Kd.int .u8) W A2 s.length s) (hc : s.length ≤ c2)
    (n m q : Nat) (hn : wrap64 (Int.tmod (IntKind.u64.wrap a0) 100000) = (n : Int)) (hm : wrap64 (Int.tmod (IntKind.u64.wrap a1) 100000) = (m : Int)) (hq : Int.tmod (m : Int) 400 = (q : Int))
    (L L2 : List Int) (k : Nat) (h1 : bytes_Number.f k [] n = some L) (hL : L.length ≤ 1000000) (h2 : bytes_Text.f k [] s = some L2) (hL2 : L2.length ≤ 1000000)
    (hnm : n ≤ m) (h3 : bytes_number.f k L m = some ((n : Int), (L.length : Int)))
    (z : Int) (hsq : s.length ≤ q) (h4 : bytes_number.f k L2 q = some ((s.length : Int), z)) (z0 : 0 < z) (z1 : z + s.length = L2.length) (z2 : (L2.take (z + s.length).toNat).drop z.toNat = s) : Calls Try.prog 8 #[.int .i64 a0, .int .i64 a1, .slice A2 s.length c2] W fun e w' => e = .returned (.bool true) ∧ Below W.heap.size W w' := by
  have g1 : ¬ ((s.length : Int) > 300) := by omega
  have g2 : ¬ (300 < (s.length : Int)) := by omega
  have g3 : ((n : Int) ≤ (m : Int)) := by omega
  have g4 : ¬ ((n : Int) > (m : Int)) := by omega
  have g5 : ¬ ((s.length : Int) > (q : Int)) := by omega
  have HR := Aside0.mk hr
  have HC := Aside0.mk hc
  have H1 := Aside0.mk h1
  have H2 := Aside0.mk h2
  have H3 := Aside0.mk h3
  have H4 := Aside0.mk h4
  have HL := Aside0.mk hL
  have HL2 := Aside0.mk hL2
  have Z0 := Aside0.mk z0
  have Z1 := Aside0.mk z1
  have Z2 := Aside0.mk z2
  clear z0 z1 z2
  clear hr hc h1 h2 h3 h4 hL hL2 hs hnm hsq
  go_enter Try.func8, Try.ntmps8
  go_wp2_with (go_at_call 10; refine (number0 k n L _ H1.out).mono ?_; rintro e w1 ⟨A1, c1, rfl, hz, hC, hb⟩; have HZ1 := Aside0.mk hz; have HC1 := Aside0.mk hC; have HB1 := Aside0.mk hb; clear hz hC hb)
  go_wp2_with fail
  refine (newReader _ A1 c1 L HC1.out HZ1.out HL.out).mono ?_
  rintro e w2 ⟨g, u, rfl, hI, hb, hB⟩
  have HI2 := Aside0.mk hI
  have HU := Aside0.mk (below_step HB1.out hb)
  have HB2 := Aside0.mk hB
  clear hI hb hB
  go_wp2_with fail
  refine (Rdr.number k u _ g L m n L.length HI2.out HB2.out H3.out (by omega) (by omega)).mono ?_
  rintro e w3 ⟨rfl, hI, hB, -⟩
  have hz : IsRd 53 u w3 g [] 0 := by
    by_cases hl : (L.length : Int) = 0
    · have hl' : L = [] := List.length_eq_zero_iff.1 (by omega)
      have := Aw.number_nonempty H1.out
      exact absurd hl' this
    · rw [if_neg hl] at hI
      simpa using hI
  have HI3 := Aside0.mk hz
  have HB3 := Aside0.mk hB
  clear hI hB hz
  go_wp2_with (go_at_call 20; refine (Rdr.err u _ g [] 0 HI3.out).mono ?_; rintro e w4 ⟨rfl, hb⟩; have HB4 := Aside0.mk (below_step HU.out (below_weaken HB3.out HB3.out.size hb)); clear hb)
  refine (textC k none 0 [] A2 c2 s L2 _ (Kd.C_below (C_none _) (Below.refl _ _)) (Nat.le_refl _) (Kd.C_below HR.out HB4.out) HC.out H2.out).mono ?_
  rintro e w5 ⟨A5, c5, rfl, hz, hC, hb⟩
  have HZ5 := Aside0.mk hz
  have HC5 := Aside0.mk hC
  have HB5 := Aside0.mk (below_step HB4.out hb)
  clear hz hC hb
  go_wp2_with fail
  refine (newReader _ A5 c5 L2 HC5.out HZ5.out HL2.out).mono ?_
  rintro e w6 ⟨g', u', rfl, hI, hb, hB⟩
  have HI6 := Aside0.mk hI
  have HU' := Aside0.mk (below_step HB5.out hb)
  have HB6 := Aside0.mk hB
  clear hI hb hB
  go_wp2_with fail
  refine (Rdr.text k u' _ g' L2 q s.length z HI6.out HB6.out H4.out Z0.out (by have := Z1.out; omega) HL2.out (by omega) (by have := Z1.out; omega)).mono ?_
  rintro e w7 ⟨v, rfl, hR, hI, hB, -⟩
  have hnil : L2.drop (z + (s.length : Int)).toNat = [] := List.drop_eq_nil_of_le (by have := Z1.out; omega)
  rw [hnil] at hI
  rw [Z2.out] at hR
  have HI7 := Aside0.mk hI
  have HB7 := Aside0.mk hB
  obtain ⟨A7, c7, rfl, h7, hC7⟩ := Kd.R_reads hR
  have hs1 : (convert 22 9 (.slice A7 s.length c7)).run Try.prog w7 = .ok (.string (strOfNums s)) w7 := conv hC7 rfl
  have hs2 : (convert 22 9 (.slice A2 s.length c2)).run Try.prog w7 = .ok (.string (strOfNums s)) w7 := conv (Kd.C_below HR.out (below_step HU'.out hB)) rfl
  clear hI hB hR h7 hC7 hnil
  go_wp2_with (first | (go_at_call 20; refine (Rdr.err u' _ g' [] 0 HI7.out).mono ?_; rintro e w8 ⟨rfl, hb⟩; have HI8 := Aside0.mk (HI7.out.below hb); have HB8 := Aside0.mk (below_weaken HB7.out HB7.out.size hb); clear hb) | (go_at_call 19; refine (Rdr.left u' _ g' [] 0 HI8.out).mono ?_; rintro e w9 ⟨rfl, hb⟩; have HB9 := Aside0.mk (below_step HU'.out (below_weaken HB8.out HB8.out.size hb)); clear hb) | (go_at_call 9; refine (Aw.awake _).mono ?_; rintro e wa ⟨rfl, hb⟩; have HBa := Aside0.mk (below_step HB9.out hb); clear hb))
  go_ret
  exact ⟨rfl, HBa.out⟩

set_option maxHeartbeats 8000000 in
set_option maxRecDepth 100000 in
theorem walkYN (W : World) (a0 a1 : Int) (A2 : Option Addr) (c2 : Nat) (s : List Int) (hs : s.length ≤ 300) (hr : Kd.C (Kd.int .u8) W A2 s.length s) (hc : s.length ≤ c2)
    (n m q : Nat) (hn : wrap64 (Int.tmod (IntKind.u64.wrap a0) 100000) = (n : Int)) (hm : wrap64 (Int.tmod (IntKind.u64.wrap a1) 100000) = (m : Int)) (hq : Int.tmod (m : Int) 400 = (q : Int))
    (L L2 : List Int) (k : Nat) (h1 : bytes_Number.f k [] n = some L) (hL : L.length ≤ 1000000) (h2 : bytes_Text.f k [] s = some L2) (hL2 : L2.length ≤ 1000000)
    (hnm : n ≤ m) (h3 : bytes_number.f k L m = some ((n : Int), (L.length : Int)))
    (hsq : q < s.length) (h4 : bytes_number.f k L2 q = some (0, 0)) : Calls Try.prog 8 #[.int .i64 a0, .int .i64 a1, .slice A2 s.length c2] W fun e w' => e = .returned (.bool true) ∧ Below W.heap.size W w' := by
  have g1 : ¬ ((s.length : Int) > 300) := by omega
  have g2 : ¬ (300 < (s.length : Int)) := by omega
  have g3 : ((n : Int) ≤ (m : Int)) := by omega
  have g4 : ¬ ((n : Int) > (m : Int)) := by omega
  have g5 : ((s.length : Int) > (q : Int)) := by omega
  have HR := Aside0.mk hr
  have HC := Aside0.mk hc
  have H1 := Aside0.mk h1
  have H2 := Aside0.mk h2
  have H3 := Aside0.mk h3
  have H4 := Aside0.mk h4
  have HL := Aside0.mk hL
  have HL2 := Aside0.mk hL2
  clear hr hc h1 h2 h3 h4 hL hL2 hs hnm hsq
  go_enter Try.func8, Try.ntmps8
  go_wp2_with (go_at_call 10; refine (number0 k n L _ H1.out).mono ?_; rintro e w1 ⟨A1, c1, rfl, hz, hC, hb⟩; have HZ1 := Aside0.mk hz; have HC1 := Aside0.mk hC; have HB1 := Aside0.mk hb; clear hz hC hb)
  go_wp2_with fail
  refine (newReader _ A1 c1 L HC1.out HZ1.out HL.out).mono ?_
  rintro e w2 ⟨g, u, rfl, hI, hb, hB⟩
  have HI2 := Aside0.mk hI
  have HU := Aside0.mk (below_step HB1.out hb)
  have HB2 := Aside0.mk hB
  clear hI hb hB
  go_wp2_with fail
  refine (Rdr.number k u _ g L m n L.length HI2.out HB2.out H3.out (by omega) (by omega)).mono ?_
  rintro e w3 ⟨rfl, hI, hB, -⟩
  have hz : IsRd 53 u w3 g [] 0 := by
    by_cases hl : (L.length : Int) = 0
    · have hl' : L = [] := List.length_eq_zero_iff.1 (by omega)
      have := Aw.number_nonempty H1.out
      exact absurd hl' this
    · rw [if_neg hl] at hI
      simpa using hI
  have HI3 := Aside0.mk hz
  have HB3 := Aside0.mk hB
  clear hI hB hz
  go_wp2_with (go_at_call 20; refine (Rdr.err u _ g [] 0 HI3.out).mono ?_; rintro e w4 ⟨rfl, hb⟩; have HB4 := Aside0.mk (below_step HU.out (below_weaken HB3.out HB3.out.size hb)); clear hb)
  refine (textC k none 0 [] A2 c2 s L2 _ (Kd.C_below (C_none _) (Below.refl _ _)) (Nat.le_refl _) (Kd.C_below HR.out HB4.out) HC.out H2.out).mono ?_
  rintro e w5 ⟨A5, c5, rfl, hz, hC, hb⟩
  have HZ5 := Aside0.mk hz
  have HC5 := Aside0.mk hC
  have HB5 := Aside0.mk (below_step HB4.out hb)
  clear hz hC hb
  go_wp2_with fail
  refine (newReader _ A5 c5 L2 HC5.out HZ5.out HL2.out).mono ?_
  rintro e w6 ⟨g', u', rfl, hI, hb, hB⟩
  have HI6 := Aside0.mk hI
  have HU' := Aside0.mk (below_step HB5.out hb)
  have HB6 := Aside0.mk hB
  clear hI hb hB
  go_wp2_with fail
  refine (Rdr.textBad k u' _ g' L2 q 0 0 HI6.out HB6.out H4.out (by omega) (by omega) HL2.out (.inl rfl)).mono ?_
  rintro e w7 ⟨rfl, hI, hB, -⟩
  have HI7 := Aside0.mk hI
  have HB7 := Aside0.mk hB
  clear hI hB
  go_wp2_with (first | (go_at_call 20; refine (Rdr.err u' _ g' L2 5 HI7.out).mono ?_; rintro e w8 ⟨rfl, hb⟩; have HI8 := Aside0.mk (HI7.out.below hb); have HB8 := Aside0.mk (below_weaken HB7.out HB7.out.size hb); clear hb) | (go_at_call 19; refine (Rdr.left u' _ g' L2 5 HI8.out).mono ?_; rintro e w9 ⟨rfl, hb⟩; have HB9 := Aside0.mk (below_step HU'.out (below_weaken HB8.out HB8.out.size hb)); clear hb) | (go_at_call 9; refine (Aw.awake _).mono ?_; rintro e wa ⟨rfl, hb⟩; have HBa := Aside0.mk (below_step HB9.out hb); clear hb))
  go_ret
  exact ⟨rfl, HBa.out⟩

set_option maxHeartbeats 8000000 in
set_option maxRecDepth 100000 in
theorem walkNY (W : World) (a0 a1 : Int) (A2 : Option Addr) (c2 : Nat) (s : List Int) (hs : s.length ≤ 300) (hr : Kd.C (Kd.int .u8) W A2 s.length s) (hc : s.length ≤ c2)
    (n m q : Nat) (hn : wrap64 (Int.tmod (IntKind.u64.wrap a0) 100000) = (n : Int)) (hm : wrap64 (Int.tmod (IntKind.u64.wrap a1) 100000) = (m : Int)) (hq : Int.tmod (m : Int) 400 = (q : Int))
    (L L2 : List Int) (k : Nat) (h1 : bytes_Number.f k [] n = some L) (hL : L.length ≤ 1000000) (h2 : bytes_Text.f k [] s = some L2) (hL2 : L2.length ≤ 1000000)
    (hnm : m < n) (h3 : bytes_number.f k L m = some (0, 0))
    (z : Int) (hsq : s.length ≤ q) (h4 : bytes_number.f k L2 q = some ((s.length : Int), z)) (z0 : 0 < z) (z1 : z + s.length = L2.length) (z2 : (L2.take (z + s.length).toNat).drop z.toNat = s) : Calls Try.prog 8 #[.int .i64 a0, .int .i64 a1, .slice A2 s.length c2] W fun e w' => e = .returned (.bool true) ∧ Below W.heap.size W w' := by
  have g1 : ¬ ((s.length : Int) > 300) := by omega
  have g2 : ¬ (300 < (s.length : Int)) := by omega
  have g3 : ¬ ((n : Int) ≤ (m : Int)) := by omega
  have g4 : ((n : Int) > (m : Int)) := by omega
  have g5 : ¬ ((s.length : Int) > (q : Int)) := by omega
  have HR := Aside0.mk hr
  have HC := Aside0.mk hc
  have H1 := Aside0.mk h1
  have H2 := Aside0.mk h2
  have H3 := Aside0.mk h3
  have H4 := Aside0.mk h4
  have HL := Aside0.mk hL
  have HL2 := Aside0.mk hL2
  have Z0 := Aside0.mk z0
  have Z1 := Aside0.mk z1
  have Z2 := Aside0.mk z2
  clear z0 z1 z2
  clear hr hc h1 h2 h3 h4 hL hL2 hs hnm hsq
  go_enter Try.func8, Try.ntmps8
  go_wp2_with (go_at_call 10; refine (number0 k n L _ H1.out).mono ?_; rintro e w1 ⟨A1, c1, rfl, hz, hC, hb⟩; have HZ1 := Aside0.mk hz; have HC1 := Aside0.mk hC; have HB1 := Aside0.mk hb; clear hz hC hb)
  go_wp2_with fail
  refine (newReader _ A1 c1 L HC1.out HZ1.out HL.out).mono ?_
  rintro e w2 ⟨g, u, rfl, hI, hb, hB⟩
  have HI2 := Aside0.mk hI
  have HU := Aside0.mk (below_step HB1.out hb)
  have HB2 := Aside0.mk hB
  clear hI hb hB
  go_wp2_with fail
  refine (Rdr.number k u _ g L m 0 0 HI2.out HB2.out H3.out (by omega) (by omega)).mono ?_
  rintro e w3 ⟨rfl, hI, hB, -⟩
  have HI3 := Aside0.mk (show IsRd 53 u w3 g L 5 from hI)
  have HB3 := Aside0.mk hB
  clear hI hB
  go_wp2_with (first | (go_at_call 20; refine (Rdr.err u _ g L 5 HI3.out).mono ?_; rintro e w3b ⟨rfl, hb⟩; have HI3b := Aside0.mk (HI3.out.below hb); have HB3b := Aside0.mk (below_weaken HB3.out HB3.out.size hb); clear hb) | (go_at_call 19; refine (Rdr.left u _ g L 5 HI3b.out).mono ?_; rintro e w4 ⟨rfl, hb⟩; have HB4 := Aside0.mk (below_step HU.out (below_weaken HB3b.out HB3b.out.size hb)); clear hb))
  refine (textC k none 0 [] A2 c2 s L2 _ (Kd.C_below (C_none _) (Below.refl _ _)) (Nat.le_refl _) (Kd.C_below HR.out HB4.out) HC.out H2.out).mono ?_
  rintro e w5 ⟨A5, c5, rfl, hz, hC, hb⟩
  have HZ5 := Aside0.mk hz
  have HC5 := Aside0.mk hC
  have HB5 := Aside0.mk (below_step HB4.out hb)
  clear hz hC hb
  go_wp2_with fail
  refine (newReader _ A5 c5 L2 HC5.out HZ5.out HL2.out).mono ?_
  rintro e w6 ⟨g', u', rfl, hI, hb, hB⟩
  have HI6 := Aside0.mk hI
  have HU' := Aside0.mk (below_step HB5.out hb)
  have HB6 := Aside0.mk hB
  clear hI hb hB
  go_wp2_with fail
  refine (Rdr.text k u' _ g' L2 q s.length z HI6.out HB6.out H4.out Z0.out (by have := Z1.out; omega) HL2.out (by omega) (by have := Z1.out; omega)).mono ?_
  rintro e w7 ⟨v, rfl, hR, hI, hB, -⟩
  have hnil : L2.drop (z + (s.length : Int)).toNat = [] := List.drop_eq_nil_of_le (by have := Z1.out; omega)
  rw [hnil] at hI
  rw [Z2.out] at hR
  have HI7 := Aside0.mk hI
  have HB7 := Aside0.mk hB
  obtain ⟨A7, c7, rfl, h7, hC7⟩ := Kd.R_reads hR
  have hs1 : (convert 22 9 (.slice A7 s.length c7)).run Try.prog w7 = .ok (.string (strOfNums s)) w7 := conv hC7 rfl
  have hs2 : (convert 22 9 (.slice A2 s.length c2)).run Try.prog w7 = .ok (.string (strOfNums s)) w7 := conv (Kd.C_below HR.out (below_step HU'.out hB)) rfl
  clear hI hB hR h7 hC7 hnil
  go_wp2_with (first | (go_at_call 20; refine (Rdr.err u' _ g' [] 0 HI7.out).mono ?_; rintro e w8 ⟨rfl, hb⟩; have HI8 := Aside0.mk (HI7.out.below hb); have HB8 := Aside0.mk (below_weaken HB7.out HB7.out.size hb); clear hb) | (go_at_call 19; refine (Rdr.left u' _ g' [] 0 HI8.out).mono ?_; rintro e w9 ⟨rfl, hb⟩; have HB9 := Aside0.mk (below_step HU'.out (below_weaken HB8.out HB8.out.size hb)); clear hb) | (go_at_call 9; refine (Aw.awake _).mono ?_; rintro e wa ⟨rfl, hb⟩; have HBa := Aside0.mk (below_step HB9.out hb); clear hb))
  go_ret
  exact ⟨rfl, HBa.out⟩

set_option maxHeartbeats 8000000 in
set_option maxRecDepth 100000 in
theorem walkNN (W : World) (a0 a1 : Int) (A2 : Option Addr) (c2 : Nat) (s : List Int) (hs : s.length ≤ 300) (hr : Kd.C (Kd.int .u8) W A2 s.length s) (hc : s.length ≤ c2)
    (n m q : Nat) (hn : wrap64 (Int.tmod (IntKind.u64.wrap a0) 100000) = (n : Int)) (hm : wrap64 (Int.tmod (IntKind.u64.wrap a1) 100000) = (m : Int)) (hq : Int.tmod (m : Int) 400 = (q : Int))
    (L L2 : List Int) (k : Nat) (h1 : bytes_Number.f k [] n = some L) (hL : L.length ≤ 1000000) (h2 : bytes_Text.f k [] s = some L2) (hL2 : L2.length ≤ 1000000)
    (hnm : m < n) (h3 : bytes_number.f k L m = some (0, 0))
    (hsq : q < s.length) (h4 : bytes_number.f k L2 q = some (0, 0)) : Calls Try.prog 8 #[.int .i64 a0, .int .i64 a1, .slice A2 s.length c2] W fun e w' => e = .returned (.bool true) ∧ Below W.heap.size W w' := by
  have g1 : ¬ ((s.length : Int) > 300) := by omega
  have g2 : ¬ (300 < (s.length : Int)) := by omega
  have g3 : ¬ ((n : Int) ≤ (m : Int)) := by omega
  have g4 : ((n : Int) > (m : Int)) := by omega
  have g5 : ((s.length : Int) > (q : Int)) := by omega
  have HR := Aside0.mk hr
  have HC := Aside0.mk hc
  have H1 := Aside0.mk h1
  have H2 := Aside0.mk h2
  have H3 := Aside0.mk h3
  have H4 := Aside0.mk h4
  have HL := Aside0.mk hL
  have HL2 := Aside0.mk hL2
  clear hr hc h1 h2 h3 h4 hL hL2 hs hnm hsq
  go_enter Try.func8, Try.ntmps8
  go_wp2_with (go_at_call 10; refine (number0 k n L _ H1.out).mono ?_; rintro e w1 ⟨A1, c1, rfl, hz, hC, hb⟩; have HZ1 := Aside0.mk hz; have HC1 := Aside0.mk hC; have HB1 := Aside0.mk hb; clear hz hC hb)
  go_wp2_with fail
  refine (newReader _ A1 c1 L HC1.out HZ1.out HL.out).mono ?_
  rintro e w2 ⟨g, u, rfl, hI, hb, hB⟩
  have HI2 := Aside0.mk hI
  have HU := Aside0.mk (below_step HB1.out hb)
  have HB2 := Aside0.mk hB
  clear hI hb hB
  go_wp2_with fail
  refine (Rdr.number k u _ g L m 0 0 HI2.out HB2.out H3.out (by omega) (by omega)).mono ?_
  rintro e w3 ⟨rfl, hI, hB, -⟩
  have HI3 := Aside0.mk (show IsRd 53 u w3 g L 5 from hI)
  have HB3 := Aside0.mk hB
  clear hI hB
  go_wp2_with (first | (go_at_call 20; refine (Rdr.err u _ g L 5 HI3.out).mono ?_; rintro e w3b ⟨rfl, hb⟩; have HI3b := Aside0.mk (HI3.out.below hb); have HB3b := Aside0.mk (below_weaken HB3.out HB3.out.size hb); clear hb) | (go_at_call 19; refine (Rdr.left u _ g L 5 HI3b.out).mono ?_; rintro e w4 ⟨rfl, hb⟩; have HB4 := Aside0.mk (below_step HU.out (below_weaken HB3b.out HB3b.out.size hb)); clear hb))
  refine (textC k none 0 [] A2 c2 s L2 _ (Kd.C_below (C_none _) (Below.refl _ _)) (Nat.le_refl _) (Kd.C_below HR.out HB4.out) HC.out H2.out).mono ?_
  rintro e w5 ⟨A5, c5, rfl, hz, hC, hb⟩
  have HZ5 := Aside0.mk hz
  have HC5 := Aside0.mk hC
  have HB5 := Aside0.mk (below_step HB4.out hb)
  clear hz hC hb
  go_wp2_with fail
  refine (newReader _ A5 c5 L2 HC5.out HZ5.out HL2.out).mono ?_
  rintro e w6 ⟨g', u', rfl, hI, hb, hB⟩
  have HI6 := Aside0.mk hI
  have HU' := Aside0.mk (below_step HB5.out hb)
  have HB6 := Aside0.mk hB
  clear hI hb hB
  go_wp2_with fail
  refine (Rdr.textBad k u' _ g' L2 q 0 0 HI6.out HB6.out H4.out (by omega) (by omega) HL2.out (.inl rfl)).mono ?_
  rintro e w7 ⟨rfl, hI, hB, -⟩
  have HI7 := Aside0.mk hI
  have HB7 := Aside0.mk hB
  clear hI hB
  go_wp2_with (first | (go_at_call 20; refine (Rdr.err u' _ g' L2 5 HI7.out).mono ?_; rintro e w8 ⟨rfl, hb⟩; have HI8 := Aside0.mk (HI7.out.below hb); have HB8 := Aside0.mk (below_weaken HB7.out HB7.out.size hb); clear hb) | (go_at_call 19; refine (Rdr.left u' _ g' L2 5 HI8.out).mono ?_; rintro e w9 ⟨rfl, hb⟩; have HB9 := Aside0.mk (below_step HU'.out (below_weaken HB8.out HB8.out.size hb)); clear hb) | (go_at_call 9; refine (Aw.awake _).mono ?_; rintro e wa ⟨rfl, hb⟩; have HBa := Aside0.mk (below_step HB9.out hb); clear hb))
  go_ret
  exact ⟨rfl, HBa.out⟩
end Go.Proofs.Ytnfkegeboelaeaa.Bounds
